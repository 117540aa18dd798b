/-
  Texts Am0 to Am6 in one.
-/
import Derived.Lib.ItoaNum
import Derived.WalkKit
import Derived.Below
import Derived.OrdersIn
import Derived.Deep.MidRow
namespace Go.AM
open Go
theorem ψ.{u}:∀{c:Prop}{_:Decidable c},¬c→∀{α:Sort u}{t e:α},(if c then t else e)=e:=@if_neg
theorem φ:∀{p:Prop} [Decidable p],Decidable.decide p=Bool.true→p:=@of_decide_eq_true
theorem θ.{u}:∀{c:Prop}{_:Decidable c},c→∀{α:Sort u}{t e:α},(if c then t else e)=t:=@if_pos
theorem ξ.{I,J}:∀{α:Type I}{β:Type J}{as:List α}(f:α→β),(List.map f as).length=as.length:=@List.length_map
theorem ζ.{I}:∀{α:Type I}{a:α}{l:List α},a∈a::l:=@List.mem_cons_self
theorem η.{I}:∀{α:Type I}{l:List α}{i:Nat}{a:α},l[i]?=Option.some a→a∈l:=@List.mem_of_getElem?
theorem κ.{I}:∀{α:Type I}(y:α) {a:α}{l:List α},a∈l→a∈y::l:=@List.mem_cons_of_mem
theorem χ:∀{α β:Type}(a:α) (w:Go.World) (f:α→Go.World→Go.Result β),(Go.Result.ok a w).andThen f=f a w:=@Go.Result.andThen_ok
theorem ω.{I}:∀{α:Type I}{a:α}{s t:List α},a∈s++t↔a∈s∨a∈t:=@List.mem_append
theorem δ:∀{p:Prop} [Decidable p],Decidable.decide p=Bool.false→¬p:=@of_decide_eq_false
theorem ε.{I}:∀{α:Type I}{i:Nat}{a:α}{l:List α},l[i]?=Option.some a↔∃h,l[i]=a:=@List.getElem?_eq_some_iff
theorem Aa.{u}:∀{α:Type u}{as bs:List α},(as++bs).length=as.length+bs.length:=@List.length_append
theorem Ab:∀{n m:Nat},n.beq m=Bool.true→n=m:=@Nat.eq_of_beq_eq_true
theorem Ac.{I}:∀{α:Type I}{a b:α},a∈[b]↔a=b:=@List.mem_singleton
theorem Ad.{I,J}:∀{α:Type I}{β:Type J}{b:β}{f:α→β}{l:List α},b∈List.map f l↔∃a,a∈l∧f a=b:=@List.mem_map
theorem Ae:∀{α β:Type}(P:Go.Program) (w:Go.World) (x:Go.Sem α) (f:α→Go.Sem β),Go.Sem.run P (x>>=f) w=(Go.Sem.run P x w).andThen fun a w'=>Go.Sem.run P (f a) w':=@Go.Sem.run_bind
theorem Af:∀{α:Type}(P:Go.Program) (w:Go.World) (a:α),Go.Sem.run P (Pure.pure a) w=Go.Result.ok a w:=@Go.Sem.run_pure
theorem Ag.{J,N}:∀{α:Type J}{b:α}{I:Type N}{x:Option I}{f:I→Option α},x.bind f=Option.some b↔∃a,x=Option.some a∧f a=Option.some b:=@Option.bind_eq_some_iff
theorem Ah:∀(a b:Bool),((a&&b)=Bool.true)=(a=Bool.true∧b=Bool.true):=@Bool.and_eq_true
theorem Ai:∀{p:Prop} [Decidable p],p→Decidable.decide p=Bool.true:=@decide_eq_true
theorem Aj.{u}:∀{α:Type u}{a:α}{as:List α},(a::as).length=as.length+1:=@List.length_cons
theorem Ak:∀(n:Nat),0≤n:=@Nat.zero_le
theorem Al.{u,v}:∀{α:Type u}{β:Type v}{f:α→β}{a:α}{l:List α},List.map f (a::l)=f a::List.map f l:=@List.map_cons
theorem Am:∀{p:Prop} [Decidable p],¬p→Decidable.decide p=Bool.false:=@decide_eq_false
theorem An.{I}:∀{α:Type I}{xs:List α}{i j:Nat},(List.drop i xs)[j]?=xs[i+j]?:=@List.getElem?_drop
theorem Ao.{I}:∀{α:Type I}{b:α}{l:List α}{a:α},a∈b::l↔a=b∨a∈l:=@List.mem_cons
theorem Ap:∀{n m:Nat},n.ble m=Bool.true→n≤m:=@Nat.le_of_ble_eq_true
theorem Aq:∀{P:Go.Program}{t:Go.TypeId}{d:Go.TypeDesc},P.underlying t=Option.some d→∀(w:Go.World),Go.Sem.run P (Go.underlying t) w=Go.Result.ok d w:=@Go.run_underlying
theorem Ar:Bool.false≠Bool.true:=@Bool.false_ne_true
theorem As.{I,J}:∀{α:Type I}{β:Type J}{f:α→β}{N O:List α},List.map f (N++O)=List.map f N++List.map f O:=@List.map_append
theorem At.{I}:∀{α:Type I}{i:Nat}{l:List α},(List.take i l).length=Min.min i l.length:=@List.length_take
theorem Au.{I}:∀{α:Type I}{l:List α},List.take l.length l=l:=@List.take_length
theorem Av.{I}:∀{α:Type I}{l:List α}{i j:Nat},(List.take i l)[j]?=if j<i then l[j]? else Option.none:=@List.getElem?_take
theorem Aw.{u}:∀{α:Type u}(as bs cs:List α),as++bs++cs=as++(bs++cs):=@List.append_assoc
theorem Ax:∀{n m:Nat}(k:Nat),n≤m→n*k≤m*k:=@Nat.mul_le_mul_right
theorem Ay.{J}:∀{α:Type J}{I N:List α}{i:Nat},I.length≤i→(I++N)[i]?=N[i-I.length]?:=@List.getElem?_append_right
theorem Az.{u}:∀{α:Type u}{a:α}{as:List α}{i:Nat},List.take (i+1) (a::as)=a::List.take i as:=@List.take_succ_cons
theorem A0:∀(n m k:Nat),(n+m)*k=n*k+m*k:=@Nat.add_mul
theorem A1.{I,J,N}:∀{β:Type I}{γ:Type J}{α:Type N}{g:β→γ}{f:α→β}{l:List α},List.map g (List.map f l)=List.map (g∘f) l:=@List.map_map
theorem A3.{I}:∀{α:Type I}{p:α→Bool}{l:List α},l.all p=Bool.true↔∀(x:α),x∈l→p x=Bool.true:=@List.all_eq_true
theorem A4.{I}:∀{α:Type I}{xs:Array α}{i:Nat}{d:α},xs.getD i d=xs[i]?.getD d:=@Array.getD_eq_getD_getElem?
theorem A5.{I,J}:∀{α:Type I}{β:Type J}{f:α→β}{l:List α}{i:Nat},(List.map f l)[i]?=Option.map f l[i]?:=@List.getElem?_map
theorem A6.{I,J}:∀{α:Type I}{l:List α}{N:Type J}{f g:α→N},(∀(a:α),a∈l→f a=g a)→List.map f l=List.map g l:=@List.map_congr_left
theorem A7.{J}:∀{α:Type J}{I N:List α}{i:Nat},i<I.length→(I++N)[i]?=I[i]?:=@List.getElem?_append_left
theorem A8.{u}:∀{α:Type u}(as:List α),as++[]=as:=@List.append_nil
theorem A9.{u}:∀{α:Type u}{a:α}{as bs:List α},a::as++bs=a::(as++bs):=@List.cons_append
theorem Ba.{I}:∀{α:Type I}{i:Nat}{l:List α},l.length≤i→List.take i l=l:=@List.take_of_length_le
theorem Bb.{I}:∀{α:Type I}{l:List α},l.length=0→l=[]:=@List.eq_nil_of_length_eq_zero
theorem Bc:(Bool.false=Bool.true)=False:=@Bool.false_eq_true
theorem Bd:∀(n:Nat),0+n=n:=@Nat.zero_add
theorem Be.{u}:∀{α:Type u}(as:List α),[]++as=as:=@List.nil_append
theorem Bf.{I}:∀{α:Type I}{xs:Array α},xs.toList.length=xs.size:=@Array.length_toList
theorem Bg:∀{m:Nat}(n:Nat),0<m→n≤n*m:=@Nat.le_mul_of_pos_right
theorem Bh.{I}:∀{α:Type I}{l:List α}{i:Nat},List.take (i+1) l=List.take i l++l[i]?.toList:=@List.take_add_one
theorem Bi.{I}:∀{α:Type I}{l:List α}{L:List (List α)},(l::L).flatten=l++L.flatten:=@List.flatten_cons
theorem Bj.{I}:∀{α:Type I}{a:α}{i:Nat}{l:List α},(a::l)[i+1]?=l[i]?:=@List.getElem?_cons_succ
theorem Bk.{u}:∀{α:Type u}{a:α}{as:List α},(a::as).length=as.length+1:=@List.length_cons
theorem Bl.{I}:∀{α:Type I}{l:List α},l.length=0↔l=[]:=@List.length_eq_zero_iff
theorem Bm.{I}:∀{α:Sort I}(a b:α),(bif Bool.true then a else b)=a:=@cond_true
theorem Bn.{I}:∀{α:Sort I}(a b:α),(bif Bool.false then a else b)=b:=@cond_false
theorem Bo.{I}:∀{α:Type I}{J N:List α},(∀(i:Nat),J[i]?=N[i]?)→J=N:=@List.ext_getElem?
theorem Bp.{I}:∀{α:Type I}{l:List α},l.length=1↔∃a,l=[a]:=@List.length_eq_one_iff
theorem Bq.{I}:∀{α:Type I}{a:α}{l:List α},(a::l).Nodup↔¬a∈l∧l.Nodup:=@List.nodup_cons
theorem Br.{I}:∀{α:Type I}{xs:Array α}{i j:Nat}{a:α},(xs.setIfInBounds i a)[j]?=if i=j then if i<xs.size then Option.some a else Option.none else xs[j]?:=@Array.getElem?_setIfInBounds
theorem Bs.{I}:∀{α:Type I}{i:Nat}{a:α}{l:List α},a∈List.take i l→a∈l:=@List.mem_of_mem_take
theorem Bt.{I}:∀{α:Sort I}{_:Decidable False}(t e:α),(if False then t else e)=e:=@if_false
theorem Bu:∀(n:Nat),n+0=n:=@Nat.add_zero
theorem Bw.{I}:∀{α:Type I}{i:Nat}{l:List α},(List.drop i l).length=l.length-i:=@List.length_drop
theorem Bx.{J}:∀{α:Type J}{I N:List α}{i:Nat},(I++N)[i]?=if i<I.length then I[i]? else N[i-I.length]?:=@List.getElem?_append
theorem By.{u,v}:∀{α:Type u}{β:Type v}{f:α→β},List.map f []=[]:=@List.map_nil
theorem Bz.{J,N}:∀{α:Type J}{b:α}{I:Type N}{x:Option I}{f:I→α},Option.map f x=Option.some b↔∃a,x=Option.some a∧f a=b:=@Option.map_eq_some_iff
theorem B0.{u}:∀{α:Type u}{as:List α}{i:Nat}{a:α},(as.set i a).length=as.length:=@List.length_set
theorem B3.{I}:∀{α:Type I}{p:α→Bool}{a:α}{l:List α},List.find? p l=Option.some a→a∈l:=@List.mem_of_find?_eq_some
theorem B4:∀(a:Nat),a.beq a=Bool.true:=@Nat.beq_refl
theorem B5.{u}:∀{α:Sort u}{p:α→Prop}(h:∃x,p x),p (Classical.choose h):=@Classical.choose_spec
theorem B6.{I,J}:∀{α:Type I}{β:Type J}{f:β→α→β}{b:β}{l l':List α},List.foldl f b (l++l')=List.foldl f (List.foldl f b l) l':=@List.foldl_append
theorem B7:∀(w:Go.World) (o:Go.Obj),(w.alloc o).heap[w.heap.size]?=Option.some o:=@Go.heap_alloc_new
theorem B8:∀{a b:Nat},a≤b→Min.min a b=a:=@Nat.min_eq_left
theorem B9:∀(n:Int),-9223372036854775808≤n∧n≤9223372036854775807→Go.IntKind.i64.wrap n=n:=@Go.IntWalk.i64_in
theorem Ca.{I}:∀{α:Type I}{i:Nat}{l:List α}(h:i<l.length),List.drop i l=l[i]::List.drop (i+1) l:=@List.drop_eq_getElem_cons
theorem Cb.{u}:∀{α:Type u} [Add α] [Zero α] {a:α}{l:List α},(a::l).sum=a+l.sum:=@List.sum_cons
theorem Cc:∀(n m k:Nat),n+m+k=n+(m+k):=@Nat.add_assoc
theorem Cd.{u}:∀{α:Type u}{l:List α},List.drop 0 l=l:=@List.drop_zero
theorem Ce.{I}:∀{α:Type I}{l:List α}{i:Nat}{a:α},l.set i a=if i<l.length then List.take i l++a::List.drop (i+1) l else l:=@List.set_eq_take_append_cons_drop
theorem Cg.{I}:∀{α:Type I}{p:α→Bool}{a:α}{l:List α},p a=Bool.true→List.find? p (a::l)=Option.some a:=@List.find?_cons_of_pos
theorem Ch.{I}:∀{α:Type I}{p:α→Bool}{a:α}{l:List α},¬p a=Bool.true→List.find? p (a::l)=List.find? p l:=@List.find?_cons_of_neg
theorem Ci.{u,v}:∀{α:Type u}{β:Type v}{x:α}{xs:List α}{f:α→List β},List.flatMap f (x::xs)=f x++List.flatMap f xs:=@List.flatMap_cons
theorem Cj.{I}:∀{α:Type I}{l:List α}{i:Nat}{a:α},i<l.length→(l.set i a)[i]?=Option.some a:=@List.getElem?_set_self
theorem Ck.{I,J}:∀{α:Type I}{β:Type J}{f:α→List β}{b:β}{l:List α},b∈List.flatMap f l↔∃a,a∈l∧b∈f a:=@List.mem_flatMap
theorem Cl.{I,J}:∀{α:Type I}{β:Type J}(a:α) (f:α→Option β),(Option.some a).bind f=f a:=@Option.bind_some
theorem Cm.{u}:∀{α:Type u}{l:List α},List.take 0 l=[]:=@List.take_zero
theorem Cn.{I}:∀{α:Sort I}{_:Decidable True}(t e:α),(if True then t else e)=t:=@if_true
theorem Co.{J}:∀{α:Type J}{I N:List α}{i:Nat},i≤I.length→List.take i (I++N)=List.take i I:=@List.take_append_of_le_length
theorem Cp.{I}:∀{α:Type I}{x:α}{xs:List α}{i:Nat}{a:α},(x::xs).set (i+1) a=x::xs.set i a:=@List.set_cons_succ
theorem Cq.{u,v}:∀{α:Type u}{β:Type v}{a:α}{as:List α}{f:α→Option β},List.findSome? f (a::as)=match f a with | Option.some b=>Option.some b | Option.none=>List.findSome? f as:=@List.findSome?_cons
theorem Cr.{u}:∀{α:Type u}{a:α}{l:List α}{i:Nat},List.drop (i+1) (a::l)=List.drop i l:=@List.drop_succ_cons
theorem Cs:∀{p:Prop}{_:Decidable p},Decidable.decide p=Bool.false↔¬p:=@decide_eq_false_iff_not
theorem Cu.{I}:∀{α:Type I}{x:α}{xs:List α}{p:α→Bool},List.filter p (x::xs)=if p x=Bool.true then x::List.filter p xs else List.filter p xs:=@List.filter_cons
theorem Cv:∀(n m k:Nat),n*(m+k)=n*m+n*k:=@Nat.mul_add
theorem Cw.{I,J}:∀{α:Type I}{β:Type J}(f:α→β),Option.map f Option.none=Option.none:=@Option.map_none
theorem Cx.{I}:∀{α:Type I}{a:α}{i:Nat}{l:List α},a∈List.drop i l→a∈l:=@List.mem_of_mem_drop
theorem Cy.{u,v}:∀{α:Type u}{β:Type v}{f:α→List β},List.flatMap f []=[]:=@List.flatMap_nil
end Go.AM
open List (all_eq_true cons_append drop_append drop_drop drop_left' drop_of_length_le drop_succ_cons drop_take eq_nil_of_length_eq_zero filter_cons flatten_cons length_append length_cons length_nil map_cons map_nil mem_cons mem_filter mem_flatMap mem_map mem_range nil_append nodup_cons nodup_range take_left' take_succ_cons take_take)
open Nat (add_assoc add_mul add_zero eq_of_beq_eq_true le_of_ble_eq_true le_refl le_trans lt_of_lt_of_le min_eq_left mul_le_mul_right sub_zero zero_add zero_le)
namespace Go.AM
open Go
def aVf:Option Nat:=some 0
def aYw:Array Value:=(Lib.pow10Tab.map fun z=>Value.int .u64 z).toArray
def aPx (w:World):Prop:=∀g,aVf=some g→g<w.heap.size∧∃t fr,w.heap[g]?=some (.cells aYw t fr)
def a0h (w:World) (F:Nat→Prop):Prop:=aPx w∧∀g,aVf=some g→¬F g
inductive C where
 | int (k:IntKind) (n:Int)
 | bool (b:Bool)
 | str (s:List UInt8)
 | nl
 | sl (es:Nat) (l:List (List C))
 | sn (es:Nat) (l:List (List C))
 | np
 | pt (l:List C)
 | mp (agg:Bool) (l:List (List C))
 | zv (k:Nat)
 | any
 | fn (f:FuncId)
 | clo (f:FuncId) (l:List C)
 | sg (te es:Nat) (l:List (List C))
 deriving Inhabited
inductive MK where
 | all (es:Array MapEntry) (clk:Nat)
 | part (ks:List UInt8→Prop)
 | top (te lo hi:Nat)
def aTc (k:List UInt8) (es:Array MapEntry):Prop:=∃e∈es.toList,e.key=.string ⟨⟨k⟩⟩
def MK.has:MK→List UInt8→Prop
 | .all es _,k=>aTc k es
 | .part ks,k=>ks k
 | .top _ _ _,_=>False
def MK.le:MK→MK→Prop
 | .all es clk,m=>m=.all es clk
 | .part ks,m=>∀k,ks k→m.has k
 | .top te lo hi,m=>m=.top te lo hi
theorem MK.le_refl (m:MK):m.le m:=by cases m<;>simp[MK.le,MK.has]
theorem MK.le_has {m m':MK}(h:m.le m') {k:List UInt8}(e:m.has k):m'.has k:=by
 cases m with
 | all es clk=>simp only[MK.le] at h;subst h;exact e
 | part ks=>exact h k e
 | top te lo hi=>cases e
theorem MK.le_trans {m m' I:MK}(h:m.le m') (k:m'.le I):m.le I:=by
 cases m with
 | all es clk=>simp only[MK.le] at h;subst h;exact k
 | part ks=>exact fun s e=>MK.le_has k (h s e)
 | top te lo hi=>simp only[MK.le] at h;subst h;exact k
def MK.holds:MK→Option Obj→Prop
 | .all es clk,o=>o=some (.map es clk)
 | .part ks,o=>∃es clk,o=some (.map es clk)∧∀k,ks k→aTc k es
 | .top te _ hi,o=>∃vs,o=some (.cells ⟨vs⟩ te (0,0))∧hi≤vs.length
theorem MK.holds_some {m:MK}{o:Option Obj}(h:m.holds o):∃x,o=some x:=by
 cases m with
 | all es clk=>exact⟨_,h⟩
 | part ks=>obtain⟨es,clk,h1,_⟩:=h;exact⟨_,h1⟩
 | top te lo hi=>obtain⟨vs,h1,_⟩:=h;exact⟨_,h1⟩
structure Sto where
 cell:Nat→Nat→Option Value
 mapo:Nat→Option MK
def Sto.le (S S':Sto):Prop:=(∀b o v,S.cell b o=some v→S'.cell b o=some v)∧(∀b m,S.mapo b=some m→∃m',S'.mapo b=some m'∧m.le m')
theorem Sto.le_refl (S:Sto):S.le S:=⟨fun _ _ _ h=>h,fun _ m h=>⟨m,h,m.le_refl⟩⟩
theorem Sto.le_trans {S S' S'':Sto}(h:S.le S') (k:S'.le S''):S.le S'':=⟨fun b o v e=>k.1 b o v (h.1 b o v e),fun b m e=>by
 obtain⟨m',h1,h2⟩:=h.2 b m e;obtain⟨I,h3,h4⟩:=k.2 b m' h1
 exact⟨I,h3,MK.le_trans h2 h4⟩⟩
theorem Sto.le_all {S S':Sto}(h:S.le S') {b:Nat}{es:Array MapEntry}{clk:Nat}(e:S.mapo b=some (.all es clk)):S'.mapo b=some (.all es clk):=by
 obtain⟨m',h1,h2⟩:=h.2 b _ e;simp only[MK.le] at h2;rw[h1,h2]
theorem Sto.le_top {S S':Sto}(h:S.le S') {b te lo hi:Nat}(e:S.mapo b=some (.top te lo hi)):S'.mapo b=some (.top te lo hi):=by
 obtain⟨m',h1,h2⟩:=h.2 b _ e;simp only[MK.le] at h2;rw[h1,h2]
def Sto.free (S:Sto):Prop:=∀b te lo hi,S.mapo b=some (.top te lo hi)→∀o,lo≤o→S.cell b o=none
def Sto.noTop (S:Sto):Prop:=∀b m,S.mapo b=some m→∃es clk,m=.all es clk
def aU1:Nat→Value
 | 0=>.map none
 | 1=>.nilFunc
 | _=>.nilIface
def fH (S:Sto) (b o:Nat) (vs:List Value):Prop:=∀i v,vs[i]?=some v→S.cell b (o+i)=some v
theorem fH.mono {S S':Sto}(h:S.le S') {b o:Nat}{vs:List Value}(k:fH S b o vs):fH S' b o vs:=fun i v e=>h.1 _ _ _ (k i v e)
mutual
def Rep (S:Sto):C→Value→Prop
 | .int k n,v=>v=.int k n
 | .bool b,v=>v=.bool b
 | .str s,v=>v=.string ⟨⟨s⟩⟩
 | .nl,v=>v=.slice none 0 0
 | .sl es l,v=>∃a len cap,v=.slice a len cap∧len=l.length∧len≤cap∧cap≤maxLen∧(a=none→len=0∧cap=0)∧
   (∀ad,a=some ad→cap≠0→ad.spot=none)∧∃b o,(∀ad,a=some ad→ad.block=b∧ad.off=o)∧bG S es b l o
 | .sn es l,v=>∃b o sp len cap,v=.slice (some ⟨b,o,sp⟩) len cap∧len=l.length∧len≤cap∧cap≤maxLen∧(cap≠0→sp=none)∧bG S es b l o
 | .np,v=>v=.pointer none
 | .pt l,v=>∃b o,v=.pointer (some ⟨b,o,none⟩)∧∃vs,dI S l vs∧fH S b o vs
 | .mp agg l,v=>∃b es clk,v=.map (some b)∧S.mapo b=some (.all es clk)∧(bE S agg l es.toList∨aNa S agg l es)
 | .zv k,v=>v=aU1 k
 | .any,v=>v.cells= #[v]∧v.oneCell'=true
 | .fn f,v=>v=.func (.func f) #[] ⟨[]⟩
 | .clo f l,v=>∃vs,v=.func (.func f) #[] ⟨vs⟩∧dI S l vs
 | .sg te es l,v=>∃a len cap,v=.slice a len cap∧len=l.length∧len≤cap∧cap≤maxLen∧((a=none∧len=0∧cap=0)∨∃b o,a=some ⟨b,o,none⟩∧bG S es b l o∧S.mapo b=some (.top te (o+l.length*es) (o+cap*es)))
def dI (S:Sto):List C→List Value→Prop
 | [],vs=>vs=[]
 | c::cs,vs=>∃v vs',vs=v::vs'∧Rep S c v∧dI S cs vs'
def bG (S:Sto) (es b:Nat):List (List C)→Nat→Prop
 | [],_=>True
 | r::rs,o=>r.length=es∧(∃vs,dI S r vs∧fH S b o vs)∧bG S es b rs (o+es)
def bE (S:Sto) (agg:Bool):List (List C)→List MapEntry→Prop
 | [],es=>es=[]
 | r::rs,es=>∃e es',es=e::es'∧(∃vs,dI S r (e.key::vs)∧(e.val=if agg then .agg ⟨vs⟩ else vs.headD undef)∧(agg=false→vs.length=1))∧bE S agg rs es'
def lO (S:Sto) (agg:Bool):List (List C)→MapEntry→Prop
 | [],_=>False
 | r::rs,e=>(∃vs,dI S r (e.key::vs)∧(e.val=if agg then .agg ⟨vs⟩ else vs.headD undef)∧(agg=false→vs.length=1))∨lO S agg rs e
def aNa (S:Sto) (agg:Bool):List (List C)→Array MapEntry→Prop
 | [],_=>False
 | r::rs,es=>r=[]∧(∀e∈es.toList,lO S agg rs e)∧∀k cs,(.str k::cs)∈rs→aTc k es
end
mutual
theorem Rep.mono {S S':Sto}(h:S.le S'):∀(c:C) (v:Value),Rep S c v→Rep S' c v
 | .int _ _,_,k=>by simpa [Rep] using k
 | .bool _,_,k=>by simpa [Rep] using k
 | .str _,_,k=>by simpa [Rep] using k
 | .nl,_,k=>by simpa [Rep] using k
 | .np,_,k=>by simpa [Rep] using k
 | .zv _,_,k=>by simpa [Rep] using k
 | .any,_,k=>by simp only[Rep] at k ⊢;exact k
 | .fn _,_,k=>by simpa [Rep] using k
 | .clo _ l,v,k=>by
  simp only[Rep] at k ⊢;obtain⟨vs,h1,h2⟩:=k;exact⟨vs,h1,dI.mono h l vs h2⟩
 | .sg te es l,v,k=>by
  simp only[Rep] at k ⊢;obtain⟨a,len,cap,h1,h2,h3,h4,h5⟩:=k;refine⟨a,len,cap,h1,h2,h3,h4,h5.imp id fun⟨b,o,h6,h7,J⟩=>⟨b,o,h6,bG.mono h es b l o h7,Sto.le_top h J⟩⟩
 | .sl es l,v,k=>by
  simp only[Rep] at k ⊢;obtain⟨a,len,cap,h1,h2,h3,h4,h5,h6,b,o,h7,J⟩:=k;exact⟨a,len,cap,h1,h2,h3,h4,h5,h6,b,o,h7,bG.mono h es b l o J⟩
 | .sn es l,v,k=>by
  simp only[Rep] at k ⊢;obtain⟨b,o,sp,len,cap,h1,h2,h3,h4,h5,h6⟩:=k;exact⟨b,o,sp,len,cap,h1,h2,h3,h4,h5,bG.mono h es b l o h6⟩
 | .pt l,v,k=>by
  simp only[Rep] at k ⊢;obtain⟨b,o,h1,vs,h2,h3⟩:=k;exact⟨b,o,h1,vs,dI.mono h l vs h2,h3.mono h⟩
 | .mp agg l,v,k=>by
  simp only[Rep] at k ⊢;obtain⟨b,es,clk,h1,h2,h3⟩:=k;exact⟨b,es,clk,h1,Sto.le_all h h2,h3.elim (fun h3=>.inl (bE.mono h agg l es.toList h3)) fun h3=>.inr (aNa.mono h agg l es h3)⟩
theorem dI.mono {S S':Sto}(h:S.le S'):∀(c:List C) (v:List Value),dI S c v→dI S' c v
 | [],_,k=>by simpa [dI] using k
 | c::cs,vs,k=>by
  simp only[dI] at k ⊢;obtain⟨v,vs',h1,h2,h3⟩:=k;exact⟨v,vs',h1,Rep.mono h c v h2,dI.mono h cs vs' h3⟩
theorem bG.mono {S S':Sto}(h:S.le S') (es b:Nat):∀(l:List (List C)) (o:Nat),bG S es b l o→bG S' es b l o
 | [],_,_=>by simp[bG]
 | r::rs,o,k=>by
  simp only[bG] at k ⊢;obtain⟨h1,⟨vs,h2,h3⟩,h4⟩:=k;exact⟨h1,⟨vs,dI.mono h r vs h2,h3.mono h⟩,bG.mono h es b rs (o+es) h4⟩
theorem bE.mono {S S':Sto}(h:S.le S') (agg:Bool):∀(l:List (List C)) (es:List MapEntry),bE S agg l es→bE S' agg l es
 | [],_,k=>by simpa [bE] using k
 | r::rs,es,k=>by
  simp only[bE] at k ⊢;obtain⟨e,I,h1,⟨vs,h2,h3⟩,h4⟩:=k;exact⟨e,I,h1,⟨vs,dI.mono h r _ h2,h3⟩,bE.mono h agg rs I h4⟩
theorem lO.mono {S S':Sto}(h:S.le S') (agg:Bool):∀(l:List (List C)) (e:MapEntry),lO S agg l e→lO S' agg l e
 | [],_,k=>by simp only[lO] at k
 | r::rs,e,k=>by
  simp only[lO] at k ⊢;rcases k with⟨vs,h2,h3⟩ | k
  ·exact .inl ⟨vs,dI.mono h r _ h2,h3⟩
  ·exact .inr (lO.mono h agg rs e k)
theorem aNa.mono {S S':Sto}(h:S.le S') (agg:Bool):∀(l:List (List C)) (es:Array MapEntry),aNa S agg l es→aNa S' agg l es
 | [],_,k=>by simp only[aNa] at k
 | r::rs,es,k=>by
  simp only[aNa] at k ⊢;exact⟨k.1,fun e he=>lO.mono h agg rs e (k.2.1 e he),k.2.2⟩
end
theorem dI.length {S:Sto}:∀{c:List C}{v:List Value},dI S c v→v.length=c.length
 | [],_,k=>by simp only[dI] at k;subst k;rfl
 | _::cs,_,k=>by
  simp only[dI] at k;obtain⟨v,vs',rfl,_,h⟩:=k;simp[dI.length h]
theorem dI.append {S:Sto}:∀{a:List C}{x:List Value}{b:List C}{y:List Value},dI S a x→dI S b y→dI S (a++b) (x++y)
 | [],_,_,_,h,k=>by simp only[dI] at h;subst h;simpa using k
 | _::_,_,_,_,h,k=>by
  simp only[dI,A9] at h ⊢;obtain⟨v,vs',rfl,h1,h2⟩:=h;exact⟨v,vs'++_,rfl,h1,h2.append k⟩
theorem dI.take {S:Sto}:∀{a:List C}{x:List Value}(n:Nat),dI S a x→dI S (a.take n) (x.take n)
 | _,_,0,_=>by simp[dI]
 | [],_,n+1,h=>by simp only[dI] at h;subst h;simp[dI]
 | _::_,_,n+1,h=>by
  simp only[dI,Az] at h ⊢;obtain⟨v,vs',rfl,h1,h2⟩:=h;exact⟨v,vs'.take n,by simp,h1,h2.take n⟩
theorem dI.drop {S:Sto}:∀{a:List C}{x:List Value}(n:Nat),dI S a x→dI S (a.drop n) (x.drop n)
 | _,_,0,h=>by simpa using h
 | [],_,n+1,h=>by simp only[dI] at h;subst h;simp[dI]
 | _::_,_,n+1,h=>by
  simp only[dI,Cr] at h ⊢;obtain⟨v,vs',rfl,h1,h2⟩:=h;simpa using h2.drop n
theorem bG.get {S:Sto}{es b:Nat}:∀{l:List (List C)}{o:Nat},bG S es b l o→∀(i:Nat) (r:List C),l[i]?=some r→r.length=es∧∃vs,dI S r vs∧fH S b (o+i*es) vs
 | [],_,_,i,r,h=>by simp at h
 | x::xs,o,k,i,r,h=>by
  simp only[bG] at k;obtain⟨h1,h2,h3⟩:=k;cases i with
  | zero=>simp at h;subst h;simpa using ⟨h1,h2⟩
  | succ i=>
   simp at h;have:=h3.get i r h;rw[show o+es+i*es=o+(i+1)*es by rw[A0];omega] at this;exact this
theorem bG.drop {S:Sto}{es b:Nat}:∀{l:List (List C)}{o:Nat}(n:Nat),bG S es b l o→bG S es b (l.drop n) (o+n*es)
 | _,_,0,h=>by simpa using h
 | [],_,n+1,_=>by simp[bG]
 | x::xs,o,n+1,h=>by
  simp only[bG,Cr] at h ⊢;have:=h.2.2.drop n;rw[show o+es+n*es=o+(n+1)*es by rw[A0];omega] at this;exact this
theorem bG.take {S:Sto}{es b:Nat}:∀{l:List (List C)}{o:Nat}(n:Nat),bG S es b l o→bG S es b (l.take n) o
 | _,_,0,_=>by simp[bG]
 | [],_,n+1,_=>by simp[bG]
 | x::xs,o,n+1,h=>by
  simp only[bG,Az] at h ⊢;exact⟨h.1,h.2.1,h.2.2.take n⟩
theorem bG.of_flat {S:Sto}{es b:Nat}:∀{l:List (List C)}{o:Nat}{vs:List Value},(∀r∈l,r.length=es)→dI S l.flatten vs→fH S b o vs→bG S es b l o
 | [],_,_,_,_,_=>by simp[bG]
 | r::rs,o,vs,hl,h,hc=>by
  have I:r.length=es:=hl r (by simp);simp only[bG,Bi] at h ⊢;have h1:=h.take r.length;have h2:=h.drop r.length;simp only[take_left',drop_left'] at h1 h2;refine⟨I,⟨_,h1,fun i v e=>?_⟩,bG.of_flat (fun x hx=>hl x (by simp[hx])) h2 fun i v e=>?_⟩
  ·rw[Av] at e;split at e
   ·exact hc i v e
   ·cases e
  ·rw[An,I] at e;have:=hc (es+i) v e;rwa [←Cc] at this
inductive R where
 | c (x:C)
 | hs (id off len sz:Nat)
 | tl (id off len sz:Nat)
 | vp (id off:Nat)
 | ep (id i fo sz:Nat)
 | mr (id:Nat)
 | clo (f:FuncId) (caps:List R)
 | mth (f:FuncId) (recv:R)
 | yl (id:Nat)
 | ra (id off len sz:Nat)
 | rp (id i fo sz:Nat)
 | ras (n es:Nat) (l:List R)
 | pas (l:List R)
 deriving Inhabited
inductive V where
 | one (r:R)
 | pa (l:List C)
 | ma (l:List R)
 | tup (l:List V)
 deriving Inhabited
structure LI where
 n:Nat
 params:Array Tmp
 asg:Code
 body:Code
 deriving Inhabited
inductive AObj where
 | var (t:TypeId) (cells:List R)
 | arr (te es:Nat) (elems:List (List C)) (fz:Nat)
 | map (agg:Bool) (ents:List (List C))
 | dead
 | lp (st:LoopState) (jump:Option Code) (i:LI) (e:List (Nat×V))
 | dfr
 | rarr (te es:Nat) (elems:List (List R))
 | tok (r:R) (k:List UInt8)
 deriving Inhabited
abbrev cO:=Nat→Option AObj
abbrev Mu:=Nat→Option (Nat×Nat×Nat)
mutual
def bB (S:Sto) (μ:Mu) (H:cO):R→Value→Prop
 | .c x,v=>Rep S x v
 | .hs id off len sz,v=>(∃a l c,v=.slice a l c)∧(H id=some .dead∨∃te es elems fz,H id=some (.arr te es elems fz)∧sz≤elems.length∧
   (sz=elems.length→off+len≤sz∧((μ id=none∧elems=[]∧v=.slice none 0 0)∨∃b base cap,μ id=some (b,base,cap)∧v=.slice (some ⟨b,base+off*es,none⟩) len (cap-off))))
 | .tl id off len sz,v=>(∃a l c,v=.slice a l c)∧(H id=some .dead∨∃te es elems fz,H id=some (.arr te es elems fz)∧sz≤elems.length∧
   (sz=elems.length→off+len=sz∧∃b base cap,μ id=some (b,base,cap)∧off≤cap∧v=.slice (some ⟨b,if cap=off then base else base+off*es,none⟩) len (cap-off)))
 | .vp id off,v=>∃t cells b c,H id=some (.var t cells)∧μ id=some (b,c)∧v=.pointer (some ⟨b,off,none⟩)
 | .ep id i fo sz,v=>(∃a,v=.pointer a)∧(H id=some .dead∨∃te es elems fz,H id=some (.arr te es elems fz)∧sz≤elems.length∧
   (sz=elems.length→i<sz∧∃b base cap,μ id=some (b,base,cap)∧v=.pointer (some ⟨b,base+i*es+fo,none⟩)))
 | .mr id,v=>∃agg ents b c,H id=some (.map agg ents)∧μ id=some (b,c)∧v=.map (some b)
 | .clo f caps,v=>∃vs,v=.func (.func f) #[] ⟨vs⟩∧aV S μ H caps vs
 | .mth f recv,v=>∃u,v=.func (.func f) #[u] #[]∧bB S μ H recv u
 | .yl id,v=>∃st j i e b c,H id=some (.lp st j i e)∧μ id=some (b,c)∧v=.func (.yield b) #[] #[]
 | .ra id off len sz,v=>(∃a l c,v=.slice a l c)∧(H id=some .dead∨∃te es elems,H id=some (.rarr te es elems)∧sz≤elems.length∧
   (sz=elems.length→off+len≤sz∧((μ id=none∧elems=[]∧v=.slice none 0 0)∨∃b base cap,μ id=some (b,base,cap)∧v=.slice (some ⟨b,base+off*es,none⟩) len (cap-off))))
 | .rp id i fo sz,v=>(∃a,v=.pointer a)∧(H id=some .dead∨∃te es elems,H id=some (.rarr te es elems)∧sz≤elems.length∧
   (sz=elems.length→i<sz∧∃b base cap,μ id=some (b,base,cap)∧v=.pointer (some ⟨b,base+i*es+fo,none⟩)))
 | .ras n es l,v=>∃a cap,v=.slice a n cap∧n*es=l.length∧n≤cap∧cap≤maxLen∧(a=none→n=0∧cap=0)∧(∀ad,a=some ad→ad.spot=none)∧∃b o,(∀ad,a=some ad→ad.block=b∧ad.off=o)∧
   ∃vs,aV S μ H l vs∧fH S b o vs
 | .pas l,v=>∃b o,v=.pointer (some ⟨b,o,none⟩)∧∃vs,aV S μ H l vs∧fH S b o vs
def aV (S:Sto) (μ:Mu) (H:cO):List R→List Value→Prop
 | [],vs=>vs=[]
 | r::rs,vs=>∃v vs',vs=v::vs'∧bB S μ H r v∧aV S μ H rs vs'
end
mutual
def aY (S:Sto) (μ:Mu) (H:cO):V→Value→Prop
 | .one r,v=>bB S μ H r v
 | .pa l,v=>∃vs,v=.agg ⟨vs⟩∧dI S l vs
 | .ma l,v=>∃vs,v=.agg ⟨vs⟩∧aV S μ H l vs
 | .tup l,v=>∃vs,v=.tuple ⟨vs⟩∧bS S μ H l vs
def bS (S:Sto) (μ:Mu) (H:cO):List V→List Value→Prop
 | [],vs=>vs=[]
 | r::rs,vs=>∃v vs',vs=v::vs'∧aY S μ H r v∧bS S μ H rs vs'
end
def jY:List (List C)→Prop
 | []=>True
 | (.str _::_)::r=>jY r
 | _::_=>False
def aAo (S:Sto) (agg:Bool) (ents:List (List C)) (es:List MapEntry):Prop:=(ents=[[]]∧∃e',jY e'∧bE S agg e' es)∨bE S agg ents es∨∃T,ents=[]::T∧T≠[]∧∀e∈es,lO S agg T e
theorem aAo.mono {S S':Sto}(h:S.le S') {agg:Bool}{ents:List (List C)}{es:List MapEntry}(k:aAo S agg ents es):aAo S' agg ents es:=
 k.imp (fun⟨h1,e',h2,h3⟩=>⟨h1,e',h2,bE.mono h _ _ _ h3⟩) fun k=>k.imp (bE.mono h _ _ _) fun⟨T,h1,h2,h3⟩=>⟨T,h1,h2,fun e he=>lO.mono h _ _ _ (h3 e he)⟩
theorem aAo.rep {S:Sto}{agg:Bool}{ents:List (List C)}{es:List MapEntry}(hm:jY ents) (k:aAo S agg ents es):bE S agg ents es:=
 k.elim (fun h=>by rw[h.1] at hm;simp[jY] at hm) fun k=>k.elim id fun⟨T,h,_⟩=>by rw[h] at hm;simp[jY] at hm
def aG3 (S:Sto) (b:Nat) (ents:List (List C)):Prop:=S.mapo b=none∨∃T ks,ents=[]::T∧T≠[]∧S.mapo b=some (.part ks)
theorem aG3.kn0 {S:Sto}{b:Nat}{ents:List (List C)}(h:aG3 S b ents) (hm:jY ents):S.mapo b=none:=by
 rcases h with h | ⟨T,ks,h,_⟩
 ·exact h
 ·rw[h] at hm;simp[jY] at hm
theorem aG3.of_eq {S S':Sto}{b:Nat}{ents:List (List C)}(h:aG3 S b ents) (e:S'.mapo b=S.mapo b):aG3 S' b ents:=
 h.imp (fun h=>e.trans h) fun⟨T,ks,h1,h2,h3⟩=>⟨T,ks,h1,h2,e.trans h3⟩
def mG (S:Sto) (μ:Mu) (H:cO) (w:World) (id:Nat):AObj→Prop
 | .var t cells=>∃b vs,μ id=some (b,0,0)∧w.heap[b]?=some (.cells ⟨vs⟩ t (0,0))∧aV S μ H cells vs∧(∀o,S.cell b o=none)∧S.mapo b=none
 | .arr te es elems fz=>(∀r∈elems,r.length=es)∧((μ id=none∧elems=[])∨∃b base cap vs,μ id=some (b,base,cap)∧w.heap[b]?=some (.cells ⟨vs⟩ te (0,0))∧
   base+cap*es≤vs.length∧elems.length≤cap∧(cap≤maxLen∧S.mapo b=none)∧dI S elems.flatten ((vs.drop base).take (elems.length*es))∧
   (fz=0→∀o,base≤o→S.cell b o=none)∧(∀o,base+elems.length*es≤o→S.cell b o=none)∧(fz=2→fH S b base ((vs.drop base).take (elems.length*es))))
 | .map agg ents=>∃b es clk,μ id=some (b,0,0)∧w.heap[b]?=some (.map es clk)∧aAo S agg ents es.toList∧aG3 S b ents
 | .dead=>μ id=none
 | .lp st j i e=>∃b r fn tmps,μ id=some (b,0,0)∧w.heap[b]?=some (.loop { state:=st,pending:=j,fn:=fn,tmps:=tmps,params:=i.params,assign:=i.asg,body:=i.body,defers:=r })∧
   tmps.size=i.n∧(∀t v,(t,v)∈e→aY S μ H v (tmps.getD t undef))∧(∀o,S.cell b o=none)∧S.mapo b=none
 | .dfr=>∃b,μ id=some (b,0,0)∧w.heap[b]?=some (.deferred (some []))∧(∀o,S.cell b o=none)∧S.mapo b=none
 | .rarr te es elems=>(∀r∈elems,r.length=es)∧((μ id=none∧elems=[])∨∃b base cap vs,μ id=some (b,base,cap)∧w.heap[b]?=some (.cells ⟨vs⟩ te (0,0))∧
   base+cap*es≤vs.length∧elems.length≤cap∧(cap≤maxLen∧S.mapo b=none)∧aV S μ H elems.flatten ((vs.drop base).take (elems.length*es))∧(∀o,base≤o→S.cell b o=none))
 | .tok r k=>μ id=none∧∃b,bB S μ H r (.map (some b))∧∃m,S.mapo b=some m∧m.has k
def AObj.succ (same:Prop):AObj→AObj→Prop
 | .var _ _,.var _ _=>same
 | .arr _ es l _,.arr _ es' l' _=>es=es'∧l.length≤l'.length∧(l.length=l'.length→same)
 | .map _ _,.map _ _=>same
 | .arr _ _ _ _,.dead=>True
 | .dead,.dead=>True
 | .lp _ _ _ _,.lp _ _ _ _=>same
 | .dfr,.dfr=>same
 | .rarr _ es l,.rarr _ es' l'=>es=es'∧l.length≤l'.length∧(l.length=l'.length→same)
 | .rarr _ _ _,.dead=>True
 | .tok _ k,.tok _ k'=>k=k'
 | _,_=>False
structure Evolve (S:Sto) (μ:Mu) (H:cO) (S':Sto) (μ':Mu) (H':cO):Prop where
 le:S.le S'
 obj:∀id o,H id=some o→∃o',H' id=some o'∧o.succ (μ' id=μ id) o'
structure Evo0 (S:Sto) (μ:Mu) (H:cO) (S':Sto) (μ':Mu) (H':cO):Prop where
 le:S.le S'
 obj:∀id o,H id=some o→o≠ .dfr→∃o',H' id=some o'∧o.succ (μ' id=μ id) o'
theorem Evolve.weak {S:Sto}{μ:Mu}{H:cO}{S':Sto}{μ':Mu}{H':cO}(E:Evolve S μ H S' μ' H'):Evo0 S μ H S' μ' H':=⟨E.le,fun id o h _=>E.obj id o h⟩
theorem AObj.succ_refl (o:AObj) {p:Prop}(h:p):o.succ p o:=by cases o<;>simp[AObj.succ,h]
theorem AObj.succ_dead {o:AObj}{p:Prop}(h:AObj.dead.succ p o):o=.dead:=by cases o<;>simp only[AObj.succ] at h;rfl
theorem AObj.succ_trans {a b c:AObj}{p q r:Prop}(h:a.succ p b) (k:b.succ q c) (I:p→q→r):a.succ r c:=by
  cases a<;>cases b<;>simp only[AObj.succ] at h<;>cases c<;>simp only[AObj.succ] at k ⊢
  all_goals first
    | exact I h k
    | trivial
    | exact h.trans k
    | (obtain⟨h1,h2,h3⟩:=h
       obtain⟨J,N,O⟩:=k
       exact⟨h1.trans J,le_trans h2 N,fun e=>I (h3 (by omega)) (O (by omega))⟩)
theorem Evolve.refl (S:Sto) (μ:Mu) (H:cO):Evolve S μ H S μ H:=⟨S.le_refl,fun _ o h=>⟨o,h,o.succ_refl rfl⟩⟩
theorem Evolve.trans {S S' S'':Sto}{μ μ' I:Mu}{H H' H'':cO}(h:Evolve S μ H S' μ' H') (k:Evolve S' μ' H' S'' I H''):Evolve S μ H S'' I H'':=
 ⟨Sto.le_trans h.le k.le,fun id o N=>by
  obtain⟨o',h1,h2⟩:=h.obj id o N;obtain⟨J,O,W⟩:=k.obj id o' h1
  exact⟨J,O,AObj.succ_trans h2 W fun e f=>f.trans e⟩⟩
section
variable {S S':Sto}{μ μ':Mu}{H H':cO}
mutual
theorem bB.evolve0 (E:Evo0 S μ H S' μ' H'):∀(r:R) (v:Value),bB S μ H r v→bB S' μ' H' r v
 | .c x,v,k=>by simp only[bB] at k ⊢;exact Rep.mono E.le x v k
 | .hs id off len sz,v,k=>by
  simp only[bB] at k ⊢;obtain⟨kk,k⟩:=k;refine⟨kk,?_⟩;rcases k with k | ⟨te,es,elems,fz,h1,h2,h3⟩
  ·obtain⟨o',h4,h5⟩:=E.obj _ _ k (by simp);exact .inl (by rw[h4,AObj.succ_dead h5])
  obtain⟨o',h4,h5⟩:=E.obj _ _ h1 (by simp);cases o' with
  | arr I W elems' N=>
   simp only[AObj.succ] at h5;obtain⟨rfl,h6,h7⟩:=h5;refine .inr ⟨I,es,elems',N,h4,le_trans h2 h6,fun e=>?_⟩;have Y:sz=elems.length:=by omega
   obtain⟨J,O⟩:=h3 Y;have hm:=h7 (by omega);refine⟨J,?_⟩;rcases O with⟨g1,g2,g3⟩ | ⟨b,base,cap,g1,g2⟩
   ·refine .inl ⟨by rw[hm,g1],?_,g3⟩;subst g2;simp only[length_nil] at Y h6;exact Bb (by omega)
   ·exact .inr ⟨b,base,cap,by rw[hm,g1],g2⟩
  | dead=>exact .inl h4
  | _=>simp only[AObj.succ] at h5
 | .tl id off len sz,v,k=>by
  simp only[bB] at k ⊢;obtain⟨kk,k⟩:=k;refine⟨kk,?_⟩;rcases k with k | ⟨te,es,elems,fz,h1,h2,h3⟩
  ·obtain⟨o',h4,h5⟩:=E.obj _ _ k (by simp);exact .inl (by rw[h4,AObj.succ_dead h5])
  obtain⟨o',h4,h5⟩:=E.obj _ _ h1 (by simp);cases o' with
  | arr I W elems' N=>
   simp only[AObj.succ] at h5;obtain⟨rfl,h6,h7⟩:=h5;refine .inr ⟨I,es,elems',N,h4,le_trans h2 h6,fun e=>?_⟩;obtain⟨J,b,base,cap,g1,g2⟩:=h3 (by omega);exact⟨J,b,base,cap,by rw[h7 (by omega),g1],g2⟩
  | dead=>exact .inl h4
  | _=>simp only[AObj.succ] at h5
 | .vp id off,v,k=>by
  simp only[bB] at k ⊢;obtain⟨t,cells,b,c,h1,h2,h3⟩:=k;obtain⟨o',h4,h5⟩:=E.obj _ _ h1 (by simp);cases o' with
  | var t' cells'=>simp only[AObj.succ] at h5;exact⟨t',cells',b,c,h4,by rw[h5,h2],h3⟩
  | _=>simp only[AObj.succ] at h5
 | .ep id i fo sz,v,k=>by
  simp only[bB] at k ⊢;obtain⟨kk,k⟩:=k;refine⟨kk,?_⟩;rcases k with k | ⟨te,es,elems,fz,h1,h2,h3⟩
  ·obtain⟨o',h4,h5⟩:=E.obj _ _ k (by simp);exact .inl (by rw[h4,AObj.succ_dead h5])
  obtain⟨o',h4,h5⟩:=E.obj _ _ h1 (by simp);cases o' with
  | arr I W elems' N=>
   simp only[AObj.succ] at h5;obtain⟨rfl,h6,h7⟩:=h5;refine .inr ⟨I,es,elems',N,h4,le_trans h2 h6,fun e=>?_⟩;obtain⟨J,b,base,cap,g1,g2⟩:=h3 (by omega);exact⟨J,b,base,cap,by rw[h7 (by omega),g1],g2⟩
  | dead=>exact .inl h4
  | _=>simp only[AObj.succ] at h5
 | .mr id,v,k=>by
  simp only[bB] at k ⊢;obtain⟨agg,ents,b,c,h1,h2,h3⟩:=k;obtain⟨o',h4,h5⟩:=E.obj _ _ h1 (by simp);cases o' with
  | map aa Z=>simp only[AObj.succ] at h5;exact⟨aa,Z,b,c,h4,by rw[h5,h2],h3⟩
  | _=>simp only[AObj.succ] at h5
 | .clo f caps,v,k=>by
  simp only[bB] at k ⊢;obtain⟨vs,h1,h2⟩:=k;exact⟨vs,h1,aV.evolve0 E caps vs h2⟩
 | .mth f recv,v,k=>by
  simp only[bB] at k ⊢;obtain⟨u,h1,h2⟩:=k;exact⟨u,h1,bB.evolve0 E recv u h2⟩
 | .rp id i fo sz,v,k=>by
  simp only[bB] at k ⊢;obtain⟨kk,k⟩:=k;refine⟨kk,?_⟩;rcases k with k | ⟨te,es,elems,h1,h2,h3⟩
  ·obtain⟨o',h4,h5⟩:=E.obj _ _ k (by simp);exact .inl (by rw[h4,AObj.succ_dead h5])
  obtain⟨o',h4,h5⟩:=E.obj _ _ h1 (by simp);cases o' with
  | rarr I W elems'=>
   simp only[AObj.succ] at h5;obtain⟨rfl,h6,h7⟩:=h5;refine .inr ⟨I,es,elems',h4,le_trans h2 h6,fun e=>?_⟩;obtain⟨J,b,base,cap,g1,g2⟩:=h3 (by omega);exact⟨J,b,base,cap,by rw[h7 (by omega),g1],g2⟩
  | dead=>exact .inl h4
  | _=>simp only[AObj.succ] at h5
 | .yl id,v,k=>by
  simp only[bB] at k ⊢;obtain⟨st,j,i,e,b,c,h1,h2,h3⟩:=k;obtain⟨o',h4,h5⟩:=E.obj _ _ h1 (by simp);cases o' with
  | lp st' j' i' e'=>simp only[AObj.succ] at h5;exact⟨st',j',i',e',b,c,h4,by rw[h5,h2],h3⟩
  | _=>simp only[AObj.succ] at h5
 | .ra id off len sz,v,k=>by
  simp only[bB] at k ⊢;obtain⟨kk,k⟩:=k;refine⟨kk,?_⟩;rcases k with k | ⟨te,es,elems,h1,h2,h3⟩
  ·obtain⟨o',h4,h5⟩:=E.obj _ _ k (by simp);exact .inl (by rw[h4,AObj.succ_dead h5])
  obtain⟨o',h4,h5⟩:=E.obj _ _ h1 (by simp);cases o' with
  | rarr I W elems'=>
   simp only[AObj.succ] at h5;obtain⟨rfl,h6,h7⟩:=h5;refine .inr ⟨I,es,elems',h4,le_trans h2 h6,fun e=>?_⟩;have Y:sz=elems.length:=by omega
   obtain⟨J,O⟩:=h3 Y;have hm:=h7 (by omega);refine⟨J,?_⟩;rcases O with⟨g1,g2,g3⟩ | ⟨b,base,cap,g1,g2⟩
   ·refine .inl ⟨by rw[hm,g1],?_,g3⟩;subst g2;simp only[length_nil] at Y h6;exact Bb (by omega)
   ·exact .inr ⟨b,base,cap,by rw[hm,g1],g2⟩
  | dead=>exact .inl h4
  | _=>simp only[AObj.succ] at h5
 | .ras n es l,v,k=>by
  simp only[bB] at k ⊢;obtain⟨a,cap,h1,h2,h3,h4,h5,h6,b,o,h7,vs,J,O⟩:=k;exact⟨a,cap,h1,h2,h3,h4,h5,h6,b,o,h7,vs,aV.evolve0 E l vs J,O.mono E.le⟩
 | .pas l,v,k=>by
  simp only[bB] at k ⊢;obtain⟨b,o,h1,vs,J,O⟩:=k;exact⟨b,o,h1,vs,aV.evolve0 E l vs J,O.mono E.le⟩
theorem aV.evolve0 (E:Evo0 S μ H S' μ' H'):∀(r:List R) (v:List Value),aV S μ H r v→aV S' μ' H' r v
 | [],_,k=>by simpa [aV] using k
 | r::rs,vs,k=>by
  simp only[aV] at k ⊢;obtain⟨v,vs',h1,h2,h3⟩:=k;exact⟨v,vs',h1,bB.evolve0 E r v h2,aV.evolve0 E rs vs' h3⟩
end
mutual
theorem aY.evolve0 (E:Evo0 S μ H S' μ' H'):∀(r:V) (v:Value),aY S μ H r v→aY S' μ' H' r v
 | .one r,v,k=>by simp only[aY] at k ⊢;exact bB.evolve0 E r v k
 | .pa l,v,k=>by
  simp only[aY] at k ⊢;obtain⟨vs,h1,h2⟩:=k;exact⟨vs,h1,dI.mono E.le l vs h2⟩
 | .ma l,v,k=>by
  simp only[aY] at k ⊢;obtain⟨vs,h1,h2⟩:=k;exact⟨vs,h1,aV.evolve0 E l vs h2⟩
 | .tup l,v,k=>by
  simp only[aY] at k ⊢;obtain⟨vs,h1,h2⟩:=k;exact⟨vs,h1,bS.evolve0 E l vs h2⟩
theorem bS.evolve0 (E:Evo0 S μ H S' μ' H'):∀(r:List V) (v:List Value),bS S μ H r v→bS S' μ' H' r v
 | [],_,k=>by simpa [bS] using k
 | r::rs,vs,k=>by
  simp only[bS] at k ⊢;obtain⟨v,vs',h1,h2,h3⟩:=k;exact⟨v,vs',h1,aY.evolve0 E r v h2,bS.evolve0 E rs vs' h3⟩
end
theorem aV.evolve (E:Evolve S μ H S' μ' H') (r:List R) (v:List Value) (k:aV S μ H r v):aV S' μ' H' r v:=aV.evolve0 E.weak r v k
theorem aY.evolve (E:Evolve S μ H S' μ' H') (r:V) (v:Value) (k:aY S μ H r v):aY S' μ' H' r v:=aY.evolve0 E.weak r v k
theorem bS.evolve (E:Evolve S μ H S' μ' H') (r:List V) (v:List Value) (k:bS S μ H r v):bS S' μ' H' r v:=bS.evolve0 E.weak r v k
end
structure Ctx where
 w0:World
 S0:Sto
 F:Nat→Prop
 μ0:Mu
 h0:cO
structure FrameW (w0:World) (F:Nat→Prop) (w:World):Prop where
 os:w.os=w0.os
 tape:w.tape=w0.tape
 output:w.output=w0.output
 size:w0.heap.size≤w.heap.size
 block:∀k,k<w0.heap.size→¬F k→w.heap[k]?=w0.heap[k]?
 tab:a0h w0 F
def Holds (S:Sto) (w:World):Prop:=
 (∀b o v,S.cell b o=some v→∃vs t fr,w.heap[b]?=some (.cells vs t fr)∧vs[o]?=some v)∧(∀b m,S.mapo b=some m→m.holds w.heap[b]?)
structure Inv (G:Ctx) (S:Sto) (μ:Mu) (H:cO) (w:World):Prop where
 holds:Holds S w
 obj:∀id o,H id=some o→mG S μ H w id o
 inj:∀i j o o' b c c',H i=some o→H j=some o'→μ i=some (b,c)→μ j=some (b,c')→i=j
 own:∀i o b c,H i=some o→μ i=some (b,c)→G.w0.heap.size≤b∨G.F b
 frame:FrameW G.w0 G.F w
 sle:G.S0.le S
 sto:∀b,b<G.w0.heap.size→¬G.F b→(∀o,S.cell b o=G.S0.cell b o)∧S.mapo b=G.S0.mapo b
 evo:Evolve G.S0 G.μ0 G.h0 S μ H
 fre:S.free
theorem FrameW.refl (w:World) (F:Nat→Prop) (h:a0h w F):FrameW w F w:=⟨rfl,rfl,rfl,le_refl _,fun _ _ _=>rfl,h⟩
theorem FrameW.tabAt {w0 w:World}{F:Nat→Prop}(h:FrameW w0 F w):aPx w:=fun g hg=>by
 obtain⟨h1,t,fr,h2⟩:=h.tab.1 g hg;exact⟨lt_of_lt_of_le h1 h.size,t,fr,by rw[h.block g h1 (h.tab.2 g hg)];exact h2⟩
theorem mG.lt {S:Sto}{μ:Mu}{H:cO}{w:World}{id:Nat}{o:AObj}(h:mG S μ H w id o) {b:Nat}{c:Nat×Nat}(hm:μ id=some (b,c)):b<w.heap.size:=by
 have hl:∀{x:Obj},w.heap[b]?=some x→b<w.heap.size:=fun e=>(Array.getElem?_eq_some_iff.1 e).1
 cases o with
 | var t cells=>
  obtain⟨b',vs,h1,h2,_⟩:=h;rw[hm] at h1;cases h1;exact hl h2
 | arr te es elems fz=>
  obtain⟨_,⟨h1,_⟩ | ⟨b',base,cap,vs,h1,h2,_⟩⟩:=h
  ·rw[hm] at h1;cases h1
  ·rw[hm] at h1;cases h1;exact hl h2
 | map agg ents=>
  obtain⟨b',es,clk,h1,h2,_⟩:=h;rw[hm] at h1;cases h1;exact hl h2
 | dead=>rw[show μ id=none from h] at hm;cases hm
 | lp st j i e=>
  obtain⟨b',r,fn,tmps,h1,h2,_⟩:=h;rw[hm] at h1;cases h1;exact hl h2
 | dfr=>
  obtain⟨b',h1,h2,_⟩:=h;rw[hm] at h1;cases h1;exact hl h2
 | rarr te es elems=>
  obtain⟨_,⟨h1,_⟩ | ⟨b',base,cap,vs,h1,h2,_⟩⟩:=h
  ·rw[hm] at h1;cases h1
  ·rw[hm] at h1;cases h1;exact hl h2
 | tok r k=>rw[h.1] at hm;cases hm
theorem mG.evolve0 {S S':Sto}{μ μ':Mu}{H H':cO}{w w':World}{id:Nat}{o:AObj}(E:Evo0 S μ H S' μ' H') (h:mG S μ H w id o) (hm:μ' id=μ id)
  (hw:∀b c,μ id=some (b,c)→w'.heap[b]?=w.heap[b]?∧(∀o,S'.cell b o=S.cell b o)∧S'.mapo b=S.mapo b):mG S' μ' H' w' id o:=by
 cases o with
 | var t cells=>
  obtain⟨b,vs,h1,h2,h3,h4⟩:=h;obtain⟨g1,g2,g3⟩:=hw _ _ h1;exact⟨b,vs,by rw[hm,h1],by rw[g1,h2],aV.evolve0 E _ _ h3,fun o=>by rw[g2,h4.1],by rw[g3,h4.2]⟩
 | arr te es elems fz=>
  obtain⟨h0,⟨h1,h2⟩ | ⟨b,base,cap,vs,h1,h2,h3,h4,h5,h6,h7,J,N⟩⟩:=h
  ·exact⟨h0,.inl ⟨by rw[hm,h1],h2⟩⟩
  ·obtain⟨g1,g2,g3⟩:=hw _ _ h1;exact⟨h0,.inr ⟨b,base,cap,vs,by rw[hm,h1],by rw[g1,h2],h3,h4,⟨h5.1,by rw[g3,h5.2]⟩,dI.mono E.le _ _ h6,fun e o I=>by rw[g2,h7 e o I],fun o e=>by rw[g2,J o e],fun e=>(N e).mono E.le⟩⟩
 | map agg ents=>
  obtain⟨b,es,clk,h1,h2,h3,h4⟩:=h;obtain⟨g1,g2,g3⟩:=hw _ _ h1;exact⟨b,es,clk,by rw[hm,h1],by rw[g1,h2],aAo.mono E.le h3,h4.of_eq g3⟩
 | dead=>exact hm.trans h
 | lp st j i e=>
  obtain⟨b,r,fn,tmps,h1,h2,h3,h4,h5,h6⟩:=h;obtain⟨g1,g2,g3⟩:=hw _ _ h1;exact⟨b,r,fn,tmps,by rw[hm,h1],by rw[g1,h2],h3,fun t v ht=>aY.evolve0 E _ _ (h4 t v ht),fun o=>by rw[g2,h5],by rw[g3,h6]⟩
 | dfr=>
  obtain⟨b,h1,h2,h3,h4⟩:=h;obtain⟨g1,g2,g3⟩:=hw _ _ h1;exact⟨b,by rw[hm,h1],by rw[g1,h2],fun o=>by rw[g2,h3],by rw[g3,h4]⟩
 | rarr te es elems=>
  obtain⟨h0,⟨h1,h2⟩ | ⟨b,base,cap,vs,h1,h2,h3,h4,h5,h6,h7⟩⟩:=h
  ·exact⟨h0,.inl ⟨by rw[hm,h1],h2⟩⟩
  ·obtain⟨g1,g2,g3⟩:=hw _ _ h1;exact⟨h0,.inr ⟨b,base,cap,vs,by rw[hm,h1],by rw[g1,h2],h3,h4,⟨h5.1,by rw[g3,h5.2]⟩,aV.evolve0 E _ _ h6,fun o I=>by rw[g2,h7 o I]⟩⟩
 | tok r k=>
  obtain⟨h1,b,h2,m,h3,h4⟩:=h;obtain⟨m',h5,h6⟩:=E.le.2 b m h3;exact⟨by rw[hm,h1],b,bB.evolve0 E _ _ h2,m',h5,MK.le_has h6 h4⟩
theorem mG.evolve {S S':Sto}{μ μ':Mu}{H H':cO}{w w':World}{id:Nat}{o:AObj}(E:Evolve S μ H S' μ' H') (h:mG S μ H w id o) (hm:μ' id=μ id)
  (hw:∀b c,μ id=some (b,c)→w'.heap[b]?=w.heap[b]?∧(∀o,S'.cell b o=S.cell b o)∧S'.mapo b=S.mapo b):mG S' μ' H' w' id o:=mG.evolve0 E.weak h hm hw
def upd {α:Type}(f:Nat→Option α) (k:Nat) (x:Option α):Nat→Option α:=fun i=>if Nat.beq i k then x else f i
theorem aJ {α:Type}(f:Nat→Option α) (k:Nat) (x:Option α):upd f k x k=x:=by simp[upd]
theorem b8 {α:Type}(f:Nat→Option α) (k:Nat) (x:Option α) {i:Nat}(h:i≠k):upd f k x i=f i:=by
 have:Nat.beq i k=false:=by
  cases hb:Nat.beq i k with
  | false=>rfl
  | true=>exact absurd (Ab hb) h
 simp[upd,this]
structure WChg (w w':World) (b:Nat) (o:Obj):Prop where
 os:w'.os=w.os
 tape:w'.tape=w.tape
 output:w'.output=w.output
 size:w.heap.size≤w'.heap.size
 new:w'.heap[b]?=some o
 old:∀k,k<w.heap.size→k≠b→w'.heap[k]?=w.heap[k]?
theorem WChg.alloc (w:World) (o:Obj):WChg w (w.alloc o) w.heap.size o:=
 ⟨rfl,rfl,rfl,by simp,B7 w o,fun k hk _=>RowKit.Below.heap_alloc w o k hk⟩
theorem WChg.alloc_drew (w:World) (o:Obj):WChg w (w.drew.alloc o) w.heap.size o:=
 ⟨rfl,rfl,rfl,by simp,B7 w.drew o,fun k hk _=>RowKit.Below.heap_alloc w.drew o k hk⟩
theorem WChg.setRow (w:World) (g:Nat) (cur cs:Array Value) (t:TypeId) (fr:Nat×Nat) (hg:w.heap[g]?=some (.cells cur t fr)):WChg w (w.setRow g cs) g (.cells cs t fr):=
 ⟨rfl,rfl,rfl,by simp,setRow_heap w g cur cs t fr hg,fun k _ hk=>setRow_other w g k cs hk⟩
theorem dY {w:World}{b:Nat}{x:Obj}(e:w.heap[b]?=some x):b<w.heap.size:=(Array.getElem?_eq_some_iff.1 e).1
theorem Inv.chg {G:Ctx}{S:Sto}{μ:Mu}{H:cO}{w w':World}{id b:Nat}{cap:Nat×Nat}{bo:Obj}{ao:AObj}(h:Inv G S μ H w) (hw:WChg w w' b bo)
  (hb:w.heap.size≤b∨(∃o c,H id=some o∧μ id=some (b,c)))
  (hE:Evolve S μ H S (upd μ id (some (b,cap))) (upd H id (some ao)))
  (hO:mG S (upd μ id (some (b,cap))) (upd H id (some ao)) w' id ao)
  (hS:∀o v,S.cell b o=some v→∃vs t fr,bo=.cells vs t fr∧vs[o]?=some v) (hSm:∀m,S.mapo b=some m→w.heap.size≤b):
  Inv G S (upd μ id (some (b,cap))) (upd H id (some ao)) w':=by
 have Y:∀j o,H j=some o→j≠id→∀b' c',μ j=some (b',c')→b'≠b:=by
  intro j o hj hne b' c' hm e;subst e;rcases hb with hb | ⟨o',c,h1,h2⟩
  ·have:=(h.obj j o hj).lt hm;omega
  ·exact hne (h.inj j id o o' b' c' c hj h1 hm h2)
 refine⟨⟨?_,?_⟩,?_,?_,?_,?_,h.sle,h.sto,h.evo.trans hE,h.fre⟩
 ·intro b' o v e;obtain⟨vs,t,fr,h1,h2⟩:=h.holds.1 b' o v e;by_cases O:b'=b
  ·subst O;obtain⟨vs',t',fr',h3,h4⟩:=hS o v e;exact⟨vs',t',fr',by rw[hw.new,h3],h4⟩
  ·exact⟨vs,t,fr,by rw[hw.old b' (dY h1) O,h1],h2⟩
 ·intro b' m e;have h1:=h.holds.2 b' m e;obtain⟨_,h2⟩:=MK.holds_some h1;by_cases O:b'=b
  ·subst O;have:=hSm _ e;have:=dY h2;omega
  ·rw[hw.old b' (dY h2) O];exact h1
 ·intro j o hj;by_cases Z:j=id
  ·subst Z;rw[aJ] at hj;cases hj;exact hO
  ·rw[b8 _ _ _ Z] at hj;refine(h.obj j o hj).evolve hE (b8 _ _ _ Z) fun b' c' hm=>⟨?_,fun _=>rfl,rfl⟩
   exact hw.old b' ((h.obj j o hj).lt hm) (Y j o hj Z b' c' hm)
 ·intro i j o o' b' c c' hi hj J N;by_cases I:i=id<;>by_cases W:j=id
  ·rw[I,W]
  ·subst I;rw[aJ] at J;cases J;rw[b8 _ _ _ W] at hj N;exact absurd rfl (Y j o' hj W _ _ N)
  ·subst W;rw[aJ] at N;cases N;rw[b8 _ _ _ I] at hi J;exact absurd rfl (Y i o hi I _ _ J)
  ·rw[b8 _ _ _ I] at hi J;rw[b8 _ _ _ W] at hj N;exact h.inj i j o o' b' c c' hi hj J N
 ·intro i o b' c hi hm;by_cases I:i=id
  ·subst I;rw[aJ] at hm;cases hm;rcases hb with hb | ⟨o',c',h1,h2⟩
   ·exact .inl (le_trans h.frame.size hb)
   ·exact h.own _ _ _ _ h1 h2
  ·rw[b8 _ _ _ I] at hi hm;exact h.own _ _ _ _ hi hm
 ·refine⟨hw.os.trans h.frame.os,hw.tape.trans h.frame.tape,hw.output.trans h.frame.output,le_trans h.frame.size hw.size,fun k hk hF=>?_,h.frame.tab⟩;rw[hw.old k (lt_of_lt_of_le hk h.frame.size) ?_,h.frame.block k hk hF];rintro rfl;rcases hb with hb | ⟨o',c',h1,h2⟩
  ·have:=h.frame.size;omega
  ·rcases h.own _ _ _ _ h1 h2 with h3 | h3
   ·omega
   ·exact hF h3
theorem Inv.same {G:Ctx}{S:Sto}{μ:Mu}{H:cO}{w w':World}(h:Inv G S μ H w) (hh:w'.heap=w.heap) (I:w'.os=w.os) (ht:w'.tape=w.tape) (hu:w'.output=w.output):Inv G S μ H w':=by
 obtain⟨h1,h2,h3,h4,h5,h6,h7,J,N⟩:=h;refine⟨⟨fun b o v e=>by rw[hh];exact h1.1 b o v e,fun b m e=>by rw[hh];exact h1.2 b m e⟩,fun id o e=>(h2 id o e).evolve (Evolve.refl _ _ _) rfl fun b c hm=>⟨by rw[hh],fun _=>rfl,rfl⟩,h3,h4,?_,h6,h7,J,N⟩;exact⟨I.trans h5.os,ht.trans h5.tape,hu.trans h5.output,by rw[hh];exact h5.size,fun k hk O=>by rw[hh];exact h5.block k hk O,h5.tab⟩
theorem Holds.cell {S:Sto}{w:World}(h:Holds S w) {b o:Nat}{v:Value}(e:S.cell b o=some v):w.cell? ⟨b,o,none⟩=some v:=by
 obtain⟨vs,t,fr,h1,h2⟩:=h.1 b o v e;simp[World.cell?,h1,h2]
structure St where
 e:Nat→Option V
 h:cO
 d:List Nat
def Marks (lo:Nat) (μ:Mu) (H:cO):List Nat→List Deferred→Prop
 | [],ds=>ds=[]
 | id::ids,ds=>∃b c ds',ds={ target:=.collected b,args:= #[] }::ds'∧μ id=some (b,c)∧H id=some .dfr∧lo≤b∧id∉ids∧Marks lo μ H ids ds'
theorem Marks.ren {lo:Nat}{μ μ':Mu}{H H':cO}(σ:Nat→Nat):∀{ids:List Nat}{I:List Deferred},Marks lo μ H (ids.map σ) I→(∀id∈ids,H (σ id)=some .dfr→μ' id=μ (σ id)∧H' id=some .dfr)→Marks lo μ' H' ids I
 | [],_,h,_=>h
 | id::ids,_,⟨b,c,J,h1,h2,h3,h5,h6,h4⟩,k=>by
  obtain⟨N,O⟩:=k id (by simp) h3;exact⟨b,c,J,h1,by rw[N,h2],O,h5,fun h=>h6 (Ad.2 ⟨_,h,rfl⟩),Marks.ren σ h4 fun i hi=>k i (by simp[hi])⟩
theorem Marks.go {lo:Nat}{μ μ':Mu}{H H':cO}{ids:List Nat}{I:List Deferred}(h:Marks lo μ H ids I) (k:∀id∈ids,H id=some .dfr→μ' id=μ id∧H' id=some .dfr):Marks lo μ' H' ids I:=
 Marks.ren (fun i=>i) (by simpa using h) fun id hid=>k id hid
theorem Marks.evolve {lo:Nat}{S S':Sto}{μ μ':Mu}{H H':cO}(E:Evolve S μ H S' μ' H') {ids:List Nat}{I:List Deferred}(h:Marks lo μ H ids I):Marks lo μ' H' ids I:=
 h.go fun id _ hd=>by
  obtain⟨o',h1,h2⟩:=E.obj id _ hd;cases o' with
  | dfr=>exact⟨h2,h1⟩
  | _=>simp only[AObj.succ] at h2
structure Sim (G:Ctx) (n:Nat) (S:Sto) (μ:Mu) (st:St) (a:Act) (w:World):Prop where
 inv:Inv G S μ st.h w
 size:a.tmps.size=n
 defers:Marks G.w0.heap.size μ st.h st.d a.defers
 env:∀t v,st.e t=some v→aY S μ st.h v (a.tmps.getD t undef)
theorem aO1 (ts:Array Value) (d t:Nat) (v:Value) (hd:d<ts.size):(ts.setIfInBounds d v).getD t undef=if t=d then v else ts.getD t undef:=by
 simp only[A4,Br];by_cases h:d=t
 ·subst h;simp[hd]
 ·have:¬t=d:=fun e=>h e.symm
  simp[h,this]
theorem Sim.put {G:Ctx}{n:Nat}{S S':Sto}{μ μ':Mu}{st:St}{H':cO}{a:Act}{w w':World}(h:Sim G n S μ st a w) (hi:Inv G S' μ' H' w') (I:Evolve S μ st.h S' μ' H') {d:Nat}(hd:d<n) {v:Value}{x:Option V}
  (hv:∀y,x=some y→aY S' μ' H' y v):Sim G n S' μ' ⟨upd st.e d x,H',st.d⟩ (a.put (some d) v) w':=by
 refine⟨hi,by simp[Act.put,h.size],h.defers.evolve I,fun t y e=>?_⟩;show aY S' μ' H' y ((a.tmps.setIfInBounds d v).getD t undef);rw[aO1 _ _ _ _ (by rw[h.size];exact hd)];by_cases ht:t=d
 ·subst ht;rw[θ rfl];exact hv y (by simpa [aJ] using e)
 ·rw[ψ ht];have e':st.e t=some y:=by simpa [b8 _ _ _ ht] using e
  exact aY.evolve I y _ (h.env t y e')
theorem Sim.put_none {G:Ctx}{n:Nat}{S S':Sto}{μ μ':Mu}{st:St}{H':cO}{a:Act}{w w':World}(h:Sim G n S μ st a w) (hi:Inv G S' μ' H' w') (I:Evolve S μ st.h S' μ' H') (v:Value):
  Sim G n S' μ' ⟨st.e,H',st.d⟩ (a.put none v) w':=
 ⟨hi,h.size,h.defers.evolve I,fun t y e=>aY.evolve I y _ (h.env t y e)⟩
structure Rd where
 e:List Nat
 h:List Nat
structure Eff where
 d:Option (Nat×Option V)
 h:List (Nat×Option AObj)
def look {α:Type}:List (Nat×α)→Nat→Option α
 | [],_=>none
 | (k,x)::l,i=>if Nat.beq i k then some x else look l i
def updL (f:cO) (l:List (Nat×Option AObj)):cO:=fun i=>match look l i with | some o=>o | none=>f i
theorem aCr (f:cO):updL f []=f:=rfl
theorem dE (f:cO) (id:Nat) (x:Option AObj):updL f [(id,x)]=upd f id x:=by
 funext i;simp only[look,upd,updL];cases Nat.beq i id<;>rfl
def Eff.apply (f:Eff) (st:St):St:=
 {
   e:=match f.d with | some (t,v)=>upd st.e t v | none=>st.e
   h:=updL st.h f.h
   d:=st.d }
def Eff.we (f:Eff):List Nat:=(f.d.map (·.1)).toList
def Eff.wh (f:Eff):List Nat:=f.h.map (·.1)
def oU (rd:Rd) (st st':St):Prop:=(∀t∈rd.e,st'.e t=st.e t)∧(∀i∈rd.h,st'.h i=st.h i)
theorem oU.refl (rd:Rd) (st:St):oU rd st st:=⟨fun _ _=>rfl,fun _ _=>rfl⟩
def Wd (ro:Option Nat):Fence:={ fn:=fun _=>True,depth:=none,alive:=false,round:=ro }
theorem Wd.fenced (P:Program) (ro:Option Nat) (m:Machine):m.fenced P (Wd ro):=fenced_wide P m
theorem Wd.room (ro:Option Nat) (k:Nat):(Wd ro).room k:=fun _ h=>by simp[Wd] at h
theorem Wd.steps {ro:Option Nat}{P:Program}{m m':Machine}:StepsIn (Machine.fenced P (Wd ro)) P m m'↔Steps P m m':=
 ⟨StepsIn.steps,fun h=>(StepsIn.of_steps h).mono fun m _=>Wd.fenced P ro m⟩
theorem Wd.comes {ro:Option Nat}{P:Program}{m m':Machine}{e:Ending}:ComesIn (Machine.fenced P (Wd ro)) P m m' e↔Comes P m m' e:=by
 cases e with
 | returned v=>exact Wd.steps
 | panicked chain=>exact Wd.steps
 | outgrown=>exact Iff.rfl
theorem Wd.calls {ro:Option Nat}{n:Nat}{P:Program}{f:FuncId}{args:Array Value}{w:World}{R:Ending→World→Prop}:CallsIn (Wd ro) n P f args w R↔Calls P f args w R:=
  ⟨fun h cs=>let ⟨e,w',fr,r,s,x⟩:=h.2 cs (Wd.room _ _);⟨e,w',fr,r,Wd.comes.1 s,x⟩,
   fun h=>⟨trivial,fun cs _=>let ⟨e,w',fr,r,s,x⟩:=h cs;⟨e,w',fr,r,Wd.comes.2 s,x⟩⟩⟩
theorem mT {P:Program}{o:Oper}{ro:Option Nat}{ρ:Operand→Value}{w w':World}{r:Next}(h:(execOp ρ o).run P w=.ok r w') (J:∀d,r≠ .defer d):(o.semAt ro ρ).run P w=.ok r w':=by
 rw[Oper.semAt_eq]
 ·exact h
 ·intro c hc;rw[execOp,hc] at h;simp only[Ae] at h;cases I:(resolve ρ c o.type).run P w with
  | ok d N=>
   rw[I] at h;simp only[Result.andThen,Af] at h;cases h;exact J _ rfl
  | halt x N=>rw[I] at h;simp[Result.andThen] at h
section
variable {P:Program}{o:Oper}{ro:Option Nat}{a:Act}{w w':World}{K:Act→World→Prop}{Q:Exit→Act→World→Prop}
theorem hZ {v:Value}(I:(execOp a.eval o).run P w=.ok (.value v) w') (h:K (a.put o.dst v) w'):o.wpIn (Wd ro) 0 P a w K Q:=by
 refine⟨fun _ _=>trivial,?_⟩;rw[mT I (by simp),Oper.uponIn_value];exact h
theorem xS (I:(execOp a.eval o).run P w=.ok .skip w') (h:K (a.put o.dst undef) w'):o.wpIn (Wd ro) 0 P a w K Q:=by
 refine⟨fun _ _=>trivial,?_⟩;rw[mT I (by simp),Oper.uponIn_skip];exact h
theorem uV {f:FuncId}{args:Array Value}(J:(execOp a.eval o).run P w=.ok (.enter f args) w')
  (h:Calls P f args w' fun
   | .returned v,I=>K (a.put o.dst v) I
   | .panicked chain,I=>Q (.panic chain) a I
   | .outgrown,_=>LetsOut Q):o.wpIn (Wd ro) 0 P a w K Q:=by
 refine⟨fun _ _=>trivial,?_⟩;rw[mT J (by simp),Oper.uponIn_enter];exact⟨fun h=>by simp[Wd] at h,Wd.calls.2 h⟩
end
def Step (P:Program) (n:Nat) (o:Oper) (st:St) (rd:Rd) (f:Eff):Prop:=
 ∀st',oU rd st st'→∀G S μ a w (K:Act→World→Prop) (Q:Exit→Act→World→Prop),Sim G n S μ st' a w→
  (∀S' μ' a' w',Sim G n S' μ' (f.apply st') a' w'→K a' w')→∀ro,o.wpIn (Wd ro) 0 P a w K Q
def GStep (P:Program) (n:Nat) (ops:Array Oper) (i:Nat) (st:St) (rd:Rd) (f:Eff):Prop:=
 ∀st',oU rd st st'→∀G S μ a w (K:Act→World→Prop) (Q:Exit→Act→World→Prop),Sim G n S μ st' a w→
  (∀S' μ' a' w',Sim G n S' μ' (f.apply st') a' w'→K a' w')→∀ro,wpOpIn (Wd ro) 0 P ops Q i K a w
theorem GStep.plain {P:Program}{n:Nat}{ops:Array Oper}{i:Nat}{o:Oper}{st:St}{rd:Rd}{f:Eff}(I:ops[i]?=some o) (hg:o.guard=none) (h:Step P n o st rd f):GStep P n ops i st rd f:=by
 intro st' ha G S μ a w K Q hs hk ro;unfold wpOpIn;simp only[I];rw[θ (by simp[Region.wanted,hg])];exact h st' ha G S μ a w K Q hs hk ro
theorem getElem?_of_getD {ts:Array Value}{t:Nat}{b:Bool}(h:ts.getD t undef=.bool b):ts[t]?=some (.bool b):=by
 rw[A4] at h;cases I:ts[t]? with
 | none=>simp[I,undef] at h
 | some v=>simp[I] at h;rw[h]
theorem GStep.yes {P:Program}{n:Nat}{ops:Array Oper}{i j t:Nat}{want b:Bool}{o:Oper}{st:St}{rd:Rd}{f:Eff}(N:ops[i]?=some o) (hg:o.guard=some (j,want)) (hj:(ops[j]?).bind (·.dst)=some t)
  (hb:st.e t=some (.one (.c (.bool b)))) (hw:b=want) (h:Step P n o st rd f):GStep P n ops i st ⟨t::rd.e,rd.h⟩ f:=by
 intro st' ha G S μ a w K Q hs hk ro;have I:st'.e t=some (.one (.c (.bool b))):=by rw[ha.1 t (by simp),hb]
 have hv:=hs.env t _ I;simp only[aY,bB,Rep] at hv;have J:=getElem?_of_getD hv;unfold wpOpIn;simp only[N];rw[θ (by simp[Region.wanted,hg,yielded,hj,J,hw])];exact h st' ⟨fun t ht=>ha.1 t (by simp[ht]),ha.2⟩ G S μ a w K Q hs hk ro
theorem GStep.no {P:Program}{n:Nat}{ops:Array Oper}{i j t d:Nat}{want b:Bool}{o:Oper}{st:St}(Y:ops[i]?=some o) (hg:o.guard=some (j,want)) (hd:o.dst=some d) (I:d<n) (hj:(ops[j]?).bind (·.dst)=some t)
  {J:Bool} (hb:st.e t=some (.one (.c (.bool b)))) (N:b=J) (hn:J= !want):GStep P n ops i st ⟨[t],[]⟩ ⟨some (d,some (.tup [])),[]⟩:=by
 have hw:b= !want:=N.trans hn;intro st' ha G S μ a w K Q hs hk ro;have O:st'.e t=some (.one (.c (.bool b))):=by rw[ha.1 t (by simp),hb]
 have hv:=hs.env t _ O;simp only[aY,bB,Rep] at hv;have W:=getElem?_of_getD hv;unfold wpOpIn;simp only[Y];rw[ψ (by simp[Region.wanted,hg,yielded,hj,W,hw])];rw[hd];refine⟨fun _ _=>trivial,hk S μ _ _ ?_⟩;exact hs.put hs.inv (Evolve.refl _ _ _) I (fun y hy=>by cases hy;simp only[aY];exact⟨[],rfl,by simp[bS]⟩)
theorem GStep.un {P:Program}{n:Nat}{ops:Array Oper}{i j t d:Nat}{want:Bool}{o:Oper}{st:St}(W:ops[i]?=some o) (hg:o.guard=some (j,want)) (hd:o.dst=some d) (J:d<n) (hj:(ops[j]?).bind (·.dst)=some t)
  (hb:st.e t=some (.tup [])):GStep P n ops i st ⟨[t],[]⟩ ⟨some (d,some (.tup [])),[]⟩:=by
 intro st' ha G S μ a w K Q hs hk ro;have N:st'.e t=some (.tup []):=by rw[ha.1 t (by simp),hb]
 have hv:=hs.env t _ N;simp only[aY] at hv;obtain⟨vs,hv,I⟩:=hv;simp only[bS] at I;subst I;have O:yielded ops a.tmps j=none:=by
  unfold yielded;rw[hj];simp only[Cl];rw[A4] at hv;cases Y:a.tmps[t]? with
  | none=>rfl
  | some v=>rw[Y] at hv;simp at hv;subst hv;rfl
 unfold wpOpIn;simp only[W];rw[ψ (by simp[Region.wanted,hg,O])];rw[hd];refine⟨fun _ _=>trivial,hk S μ _ _ ?_⟩;exact hs.put hs.inv (Evolve.refl _ _ _) J (fun y hy=>by cases hy;simp only[aY];exact⟨[],rfl,by simp[bS]⟩)
abbrev REs:=List (Rd×Eff)
def eM (L:Nat→Bool):Nat→REs→St→St
 | _,[],st=>st
 | k,x::xs,st=>eM L (k+1) xs (bif L k then x.2.apply st else st)
inductive Run (P:Program) (n:Nat) (ops:Array Oper):Nat→St→REs→St→Prop
 | nil {k st}:Run P n ops k st [] st
 | cons {k st rd f xs st'}:GStep P n ops k st rd f→Run P n ops (k+1) (f.apply st) xs st'→Run P n ops k st ((rd,f)::xs) st'
theorem Run.final {P:Program}{n:Nat}{ops:Array Oper}{k:Nat}{st st':St}{xs:REs}(h:Run P n ops k st xs st'):∀L:Nat→Bool,(∀j,k≤j→L j=true)→eM L k xs st=st':=by
 induction h with
 | nil=>intro L _;rfl
 | cons _ _ I=>
  intro L hL;simp only[eM,hL _ (le_refl _),Bm];exact I L fun j hj=>hL j (by omega)
theorem Run.at {P:Program}{n:Nat}{ops:Array Oper}{k:Nat}{st st':St}{xs:REs}(h:Run P n ops k st xs st'):∀(i:Nat) (x:Rd×Eff),xs[i]?=some x→
  GStep P n ops (k+i) (eM (fun j=>decide (j<k+i)) k xs st) x.1 x.2:=by
 induction h with
 | nil=>intro i x hx;simp at hx
 | @cons k st rd f xs st' hg O J=>
  intro i x hx;cases i with
  | zero=>
   simp at hx;subst hx;have hz:∀(I:REs) (m:Nat) (s:St),k<m→eM (fun j=>decide (j<k+0)) m I s=s:=by
    intro I
    induction I with
    | nil=>intro m s _;rfl
    | cons y I J=>
     intro m s hm;simp only[eM];have:decide (m<k+0)=false:=by simp;omega
     rw[this,Bn];exact J (m+1) _ (by omega)
   simp only[eM];have:decide (k<k+0)=false:=by simp
   rw[this,Bn];rw[hz xs (k+1) st (by omega)];exact hg
  | succ i=>
   simp at hx;have:=J i x hx;simp only[eM];have N:decide (k<k+(i+1))=true:=by simp
   rw[N,Bm];rw[show k+(i+1)=k+1+i by omega];exact this
theorem aBv (L:Nat→Bool):∀(xs:REs) (k:Nat) (st:St),(eM L k xs st).d=st.d
 | [],_,_=>rfl
 | x::xs,k,st=>by
  rw[eM,aBv L xs];cases L k<;>rfl
theorem fM (f:Eff) (st:St) {t:Nat}(h:t∉f.we):(f.apply st).e t=st.e t:=by
 unfold Eff.apply Eff.we at *;cases hd:f.d with
 | none=>rfl
 | some p=>
  obtain⟨k,v⟩:=p;simp only[hd] at h ⊢;exact b8 _ _ _ (by simpa using h)
theorem yV {α:Type}:∀{l:List (Nat×α)}{i:Nat},i∉l.map (·.1)→look l i=none
 | [],_,_=>rfl
 | (k,x)::l,i,h=>by
  simp at h;have hb:Nat.beq i k=false:=by
   cases hb:Nat.beq i k with
   | false=>rfl
   | true=>exact absurd (Ab hb) h.1
  simp only[look,hb,Bc,Bt];exact yV (by simpa using h.2)
theorem fQ {α:Type}:∀{l:List (Nat×α)}{i:Nat},i∈l.map (·.1)→∃x,look l i=some x
 | [],_,h=>by simp at h
 | (k,x)::l,i,h=>by
  by_cases hb:Nat.beq i k=true
  ·exact⟨x,by simp[look,hb]⟩
  ·have I:i≠k:=fun e=>hb (by subst e;simp)
   simp at hb;simp only[look];obtain⟨y,hy⟩:=fQ (l:=l) (i:=i) (by simpa [I] using h);exact⟨y,by simp[hb,hy]⟩
theorem fL (f:Eff) (st:St) {i:Nat}(h:i∉f.wh):(f.apply st).h i=st.h i:=by
 unfold Eff.apply Eff.wh at *;simp only[updL,yV h]
theorem oS (f:Eff) (st st':St) {t:Nat}(h:t∈f.we):(f.apply st).e t=(f.apply st').e t:=by
 unfold Eff.apply Eff.we at *;cases hd:f.d with
 | none=>simp[hd] at h
 | some p=>
  obtain⟨k,v⟩:=p;simp only[hd] at h ⊢;simp at h;subst h;simp[aJ]
theorem oR (f:Eff) (st st':St) {i:Nat}(h:i∈f.wh):(f.apply st).h i=(f.apply st').h i:=by
 unfold Eff.apply Eff.wh at *;obtain⟨x,hx⟩:=fQ h;simp only[updL,hx]
theorem u7 (t:Nat):∀(xs:REs) (k:Nat) (L L':Nat→Bool) (st st':St),st.e t=st'.e t→(∀i x,xs[i]?=some x→L (k+i)≠L' (k+i)→t∉x.2.we)→(eM L k xs st).e t=(eM L' k xs st').e t:=by
 intro xs
 induction xs with
 | nil=>intro k L L' st st' h _;exact h
 | cons x xs I=>
  intro k L L' st st' h hx;simp only[eM];refine I (k+1) L L' _ _ ?_ fun i y hy J=>hx (i+1) y (by simpa using hy) (by rwa [show k+(i+1)=k+1+i by omega])
  have h0:=hx 0 x rfl;simp only[Bu] at h0;by_cases hL:L k=L' k
  ·rw[hL];cases L' k
   ·exact h
   ·by_cases hw:t∈x.2.we
    ·exact oS _ _ _ hw
    ·simp only[Bm];rw[fM _ _ hw,fM _ _ hw,h]
  ·have hw:=h0 hL;cases L k<;>cases L' k<;>simp only[Bm,Bn,fM _ _ hw,h]
theorem u6 (t:Nat):∀(xs:REs) (k:Nat) (L L':Nat→Bool) (st st':St),st.h t=st'.h t→(∀i x,xs[i]?=some x→L (k+i)≠L' (k+i)→t∉x.2.wh)→(eM L k xs st).h t=(eM L' k xs st').h t:=by
 intro xs
 induction xs with
 | nil=>intro k L L' st st' h _;exact h
 | cons x xs I=>
  intro k L L' st st' h hx;simp only[eM];refine I (k+1) L L' _ _ ?_ fun i y hy J=>hx (i+1) y (by simpa using hy) (by rwa [show k+(i+1)=k+1+i by omega])
  have h0:=hx 0 x rfl;simp only[Bu] at h0;by_cases hL:L k=L' k
  ·rw[hL];cases L' k
   ·exact h
   ·by_cases hw:t∈x.2.wh
    ·exact oR _ _ _ hw
    ·simp only[Bm];rw[fL _ _ hw,fL _ _ hw,h]
  ·have hw:=h0 hL;cases L k<;>cases L' k<;>simp only[Bm,Bn,fL _ _ hw,h]
theorem aK0 (L:Nat→Bool) (m:Nat) (f:Eff):∀(xs:REs) (k:Nat) (rd:Rd) (st:St),k≤m→xs[m-k]?=some (rd,f)→L m=false→
  (∀i x,xs[i]?=some x→L (k+i)=true→m<k+i→(∀t∈f.we,t∉x.2.we)∧(∀t∈f.wh,t∉x.2.wh))→
  eM (fun j=>L j || Nat.beq j m) k xs st=f.apply (eM L k xs st):=by
 have tail:∀(xs:REs) (k:Nat) (st:St),m<k→(∀i x,xs[i]?=some x→L (k+i)=true→(∀t∈f.we,t∉x.2.we)∧(∀t∈f.wh,t∉x.2.wh))→
   eM (fun j=>L j || Nat.beq j m) k xs (f.apply st)=f.apply (eM L k xs st):=by
  intro xs
  induction xs with
  | nil=>intro k st _ _;rfl
  | cons x xs N=>
   intro k st hk hx;simp only[eM];have hb:Nat.beq k m=false:=by
    cases hb:Nat.beq k m with
    | false=>rfl
    | true=>have:=Ab hb;omega
   rw[hb,Bool.or_false];have h0:=hx 0 x rfl;simp only[Bu] at h0;have J:∀i y,xs[i]?=some y→L (k+1+i)=true→(∀t∈f.we,t∉y.2.we)∧(∀t∈f.wh,t∉y.2.wh):=fun i y hy hl=>hx (i+1) y (by simpa using hy) (by rwa [show k+(i+1)=k+1+i by omega])
   cases hL:L k with
   | false=>simp only[Bn];exact N (k+1) st (by omega) J
   | true=>
    simp only[Bm];obtain⟨h1,h2⟩:=h0 hL;have hc:x.2.apply (f.apply st)=f.apply (x.2.apply st):=by
     have he:(x.2.apply (f.apply st)).e=(f.apply (x.2.apply st)).e:=funext fun t=>by
      by_cases ht:t∈f.we
      ·rw[fM _ _ (h1 t ht)];exact oS _ _ _ ht
      ·rw[fM f _ ht];by_cases I:t∈x.2.we
       ·exact oS _ _ _ I
       ·rw[fM _ _ I,fM _ _ I,fM _ _ ht]
     have hh:(x.2.apply (f.apply st)).h=(f.apply (x.2.apply st)).h:=funext fun t=>by
      by_cases ht:t∈f.wh
      ·rw[fL _ _ (h2 t ht)];exact oR _ _ _ ht
      ·rw[fL f _ ht];by_cases I:t∈x.2.wh
       ·exact oR _ _ _ I
       ·rw[fL _ _ I,fL _ _ I,fL _ _ ht]
     cases Y:x.2.apply (f.apply st);cases Z:f.apply (x.2.apply st);have hd:(x.2.apply (f.apply st)).d=(f.apply (x.2.apply st)).d:=rfl;simp only[Y,Z] at he hh hd;rw[he,hh,hd]
    rw[hc];exact N (k+1) _ (by omega) J
 intro xs
 induction xs with
 | nil=>intro k rd st _ hx;simp at hx
 | cons x xs N=>
  intro k rd st hk hx hm hd;simp only[eM];by_cases O:k=m
  ·subst O;simp at hx;subst hx;have hb:Nat.beq k k=true:=by simp
   rw[hb,hm,Bool.or_true];simp only[Bm,Bn];exact tail xs (k+1) st (by omega) fun i y hy hl=>hd (i+1) y (by simpa using hy) (by rwa [show k+(i+1)=k+1+i by omega]) (by omega)
  ·have hb:Nat.beq k m=false:=by
    cases hb:Nat.beq k m with
    | false=>rfl
    | true=>exact absurd (Ab hb) O
   rw[hb,Bool.or_false];have W:xs[m-(k+1)]?=some (rd,f):=by
    rw[show m-k=(m-(k+1))+1 by omega] at hx;simpa using hx
   exact N (k+1) rd _ (by omega) W hm fun i y hy hl aa=>hd (i+1) y (by simpa using hy) (by rwa [show k+(i+1)=k+1+i by omega]) (by omega)
def aXl:List Nat→List Nat→List Nat
 | [],acc=>acc
 | x::l,acc=>if acc.any (Nat.beq x) then aXl l acc else aXl l (x::acc)
def dd (l:List Nat):List Nat:=aXl l []
theorem xA:∀(l acc:List Nat) (x:Nat),x∈aXl l acc→x∈l∨x∈acc
 | [],_,_,h=>.inr h
 | y::l,acc,x,h=>by
  simp only[aXl] at h;split at h
  ·rcases xA l acc x h with h | h
   ·exact .inl (by simp[h])
   ·exact .inr h
  ·rcases xA l (y::acc) x h with h | h
   ·exact .inl (by simp[h])
   ·rcases Ao.1 h with rfl | h
    ·exact .inl (by simp)
    ·exact .inr h
theorem aXk {l:List Nat}{x:Nat}(h:x∈dd l):x∈l:=(xA l [] x h).resolve_right (by simp)
def aBk:List Oper→List (List Nat)→List (List Nat)
 | [],acc=>acc
 | o::os,acc=>aBk os (acc++[dd (o.after.toList.flatMap fun e=>if Region.binds .any e then e.on::(acc.getD e.on []) else [])])
def oE (ops:Array Oper):List (List Nat):=aBk ops.toList []
def aXj (a b:List Nat):Bool:=a.all fun x=>!(b.contains x)
def indep (x y:Rd×Eff):Bool:=aXj x.2.we (y.1.e++y.2.we)&&aXj x.2.wh (y.1.h++y.2.wh)&&aXj y.2.we x.1.e&&aXj y.2.wh x.1.h
def qH (ps:List Nat) (y:Rd×Eff):Nat→REs→Bool
 | _,[]=>true
 | i,x::xs=>(ps.contains i || indep x y)&&qH ps y (i+1) xs
def fC:List (List Nat)→REs→REs→Bool
 | p::ps,y::ys,done=>qH p y 0 done&&fC ps ys (done++[y])
 | _,[],_=>true
 | [],_::_,_=>false
def gY (ops:Array Oper):Bool:=ops.toList.zipIdx.all fun(o,i)=>o.after.toList.all fun e=>!Region.binds .any e || decide (e.on<i)
theorem jD {a b:List Nat}(h:aXj a b=true):∀t∈a,t∉b:=by
 intro t ht hb;have:=A3.1 h t ht;simp at this;exact this hb
theorem xJ {ps:List Nat}{y:Rd×Eff}:∀(xs:REs) (k:Nat),qH ps y k xs=true→∀i x,xs[i]?=some x→k+i∈ps∨indep x y=true:=by
 intro xs
 induction xs with
 | nil=>intro k _ i x hx;simp at hx
 | cons z xs I=>
  intro k h i x hx;simp only[qH,Ah,Bool.or_eq_true] at h;cases i with
  | zero=>simp at hx;subst hx;simpa using h.1
  | succ i=>
   simp at hx;have:=I (k+1) h.2 i x hx;rwa [show k+(i+1)=k+1+i by omega]
theorem pE:∀(ps:List (List Nat)) (I done:REs),fC ps I done=true→∀j y,I[j]?=some y→∃p,ps[j]?=some p∧∀i x,i<done.length+j→(done++I)[i]?=some x→i∈p∨indep x y=true:=by
 intro ps
 induction ps with
 | nil=>
  intro I done h j y hy;cases I with
  | nil=>simp at hy
  | cons _ _=>simp[fC] at h
 | cons p ps O=>
  intro I done h j y hy;cases I with
  | nil=>simp at hy
  | cons z I=>
   simp only[fC,Ah] at h;cases j with
   | zero=>
    simp at hy;subst hy;refine⟨p,rfl,fun i x hi hx=>?_⟩;have N:i<done.length:=by omega
    rw[A7 N] at hx;simpa using xJ done 0 h.1 i x hx
   | succ j=>
    simp at hy;obtain⟨q,W,J⟩:=O I (done++[z]) h.2 j y hy;refine⟨q,by simpa using W,fun i x hi hx=>J i x (by simp;omega) (by simpa using hx)⟩
theorem yL (L:Nat→Bool):∀(os:List Oper) (acc:List (List Nat)),(∀i p,acc[i]?=some p→L i=true→∀j∈p,L j=true)→
  (∀i o,os[i]?=some o→L (acc.length+i)=true→∀e∈o.after.toList,Region.binds .any e=true→L e.on=true)→
  ∀i p,(aBk os acc)[i]?=some p→L i=true→∀j∈p,L j=true:=by
 intro os
 induction os with
 | nil=>intro acc h _;exact h
 | cons o os ih=>
  intro acc h O;refine ih _ ?_ ?_
  ·intro i p hp hl j hj;by_cases hi:i<acc.length
   ·rw[A7 hi] at hp;exact h i p hp hl j hj
   ·rw[Ay (by omega)] at hp;have W:i-acc.length=0:=by
     rcases Nat.eq_zero_or_pos (i-acc.length) with h0 | h0
     ·exact h0
     ·rw[List.getElem?_eq_none (by simp;omega)] at hp;cases hp
    have Y:i=acc.length:=by omega
    rw[W] at hp;simp at hp;subst hp;have hj:=aXk hj;simp only[Ck] at hj;obtain⟨e,he,I⟩:=hj;split at I
    ·rename_i hb;have J:=O 0 o rfl (by simpa [Y] using hl) e he hb;simp only[Ao] at I;rcases I with rfl | I
     ·exact J
     ·cases N:acc[e.on]? with
      | none=>simp[N] at I
      | some q=>
       simp[N] at I;exact h e.on q N J j I
    ·simp at I
  ·intro i o' Z hl;exact O (i+1) o' (by simpa using Z) (by simpa [Cc,Nat.add_comm 1 i] using hl)
def aM4 (ops:Array Oper) (listed:Array Bool):Prop:=∀(i:Nat) (o:Oper),ops[i]?=some o→listed.getD i false=true→∀e∈o.after.toList,Region.binds .any e=true→listed.getD e.on false=true
theorem kY {l:Array Bool}{i:Nat}(h:i<l.size):l.getD i true=l.getD i false:=by simp[A4,h]
theorem tL {ops:Array Oper}{listed:Array Bool}(hl:listed.size=ops.size) {i:Nat}(h:i∈Region.ready .any ops listed):
  i<ops.size∧listed.getD i false=false∧∀o,ops[i]?=some o→∀e∈o.after.toList,Region.binds .any e=true→listed.getD e.on false=true:=by
 simp only[Region.ready,mem_filter,mem_range,Ah,Bool.not_eq_true'] at h;obtain⟨h1,h2,h3⟩:=h;refine⟨h1,by rwa [←kY (by omega)],fun o I e he hb=>?_⟩;simp only[I,Option.map_some,Option.getD_some] at h3;have:=(Array.all_eq_true_iff_forall_mem.1 h3) e (by simpa using he);simpa [hb] using this
theorem aSk {P:Program}{n:Nat}{ops:Array Oper}{G:Ctx}{st st':St}{xs:REs}{Q:Exit→Act→World→Prop}(hr:Run P n ops 0 st xs st') (hlen:xs.length=ops.size)
  (hap:fC (oE ops) xs []=true) (hed:gY ops=true)
  (hQ:∀S' μ' a' w',Sim G n S' μ' st' a' w'→Q .normal a' w'):
  ∀(fuel:Nat) (listed:Array Bool),listed.size=ops.size→((List.range ops.size).filter fun i=>!listed.getD i false).length=fuel→aM4 ops listed→
   ∀S μ a w,Sim G n S μ (eM (fun j=>listed.getD j false) 0 xs st) a w→∀ro,wpAnyIn (Wd ro) 0 P .any ops Q fuel listed a w:=by
 have ac:∀(listed:Array Bool),listed.size=ops.size→Region.ready .any ops listed=[]→∀S μ a w,Sim G n S μ (eM (fun j=>listed.getD j false) 0 xs st) a w→Q .normal a w:=by
  intro listed hl O S μ a w hs;have hall:∀i,i<ops.size→listed.getD i false=true:=by
   intro i
   induction i using Nat.strongRecOn with
   | _ i ih=>
    intro hi;cases hc:listed.getD i false with
    | true=>rfl
    | false=>
     exfalso;have:i∈Region.ready .any ops listed:=by
      simp only[Region.ready,mem_filter,mem_range,Ah,Bool.not_eq_true'];refine⟨hi,by rw[kY (by omega)];exact hc,?_⟩;have ho:ops[i]?=some ops[i]:=by simp[hi]
      simp only[ho,Option.map_some,Option.getD_some];refine Array.all_eq_true_iff_forall_mem.2 fun e he=>?_
      have hlt:=(A3.1 hed) (ops[i],i) (by
       rw[List.mem_iff_getElem?]
       exact⟨i,by simp[hi]⟩)
      have J:=(A3.1 hlt) e (by simpa using he);simp only[Bool.or_eq_true,Bool.not_eq_true',decide_eq_true_eq] at J ⊢;rcases J with J | J
      ·exact .inl J
      ·exact .inr (ih e.on J (by omega))
     rw[O] at this;simp at this
  have he:eM (fun j=>listed.getD j false) 0 xs st=st':=by
   rw[←hr.final (fun _=>true) (fun _ _=>rfl)];have key:∀i x,xs[i]?=some x→listed.getD (0+i) false≠true→False:=by
    intro i x hx I;have hi:i<xs.length:=(ε.1 hx).1
    exact I (by rw[Bd];exact hall i (by omega))
   have e1:(eM (fun j=>listed.getD j false) 0 xs st).e=(eM (fun _=>true) 0 xs st).e:=funext fun t=>u7 t xs 0 _ _ _ _ rfl fun i x hx I=>(key i x hx I).elim
   have e2:(eM (fun j=>listed.getD j false) 0 xs st).h=(eM (fun _=>true) 0 xs st).h:=funext fun t=>u6 t xs 0 _ _ _ _ rfl fun i x hx I=>(key i x hx I).elim
   cases hA:eM (fun j=>listed.getD j false) 0 xs st;cases hB:eM (fun _=>true) 0 xs st;simp only[hA,hB] at e1 e2;have e3:(eM (fun j=>listed.getD j false) 0 xs st).d=(eM (fun _=>true) 0 xs st).d:=by rw[aBv,aBv]
   simp only[hA,hB] at e3;rw[e1,e2,e3]
  rw[he] at hs;exact hQ S μ a w hs
 intro fuel
 induction fuel with
 | zero=>
  intro listed hl hf _ S μ a w hs;have O:Region.ready .any ops listed=[]:=by
   rw[List.eq_nil_iff_forall_not_mem];intro i hi;obtain⟨h1,h2,_⟩:=tL hl hi;have:i∈(List.range ops.size).filter fun i=>!listed.getD i false:=by simp only[mem_filter,mem_range,Bool.not_eq_true'];exact⟨h1,h2⟩
   rw[Bb hf] at this;simp at this
  exact fun _=>⟨O,ac listed hl O S μ a w hs⟩
 | succ fuel ih=>
  intro listed hl hf hcl S μ a w hs ro;refine⟨fun O=>ac listed hl O S μ a w hs,fun i hi=>?_⟩;obtain⟨h1,h2,h3⟩:=tL hl hi;have hx:xs[i]?=some xs[i]:=by simp[hlen,h1]
  have ho:ops[i]?=some ops[i]:=by simp[h1]
  have ad:aM4 ops (listed.setIfInBounds i true):=by
   intro j o hj N e he hb;simp only[A4,Br] at N ⊢;have ae:listed.getD e.on false=true→(if i=e.on then if i<listed.size then some true else none else listed[e.on]?).getD false=true:=by
    intro hh;split
    ·simp[hl,h1]
    ·rwa [A4] at hh
   by_cases aa:i=j
   ·subst aa;exact ae (h3 o hj e he hb)
   ·rw[ψ aa] at N;exact ae (hcl j o hj (by rwa [A4]) e he hb)
  have hpd:∀(L:Array Bool),aM4 ops L→∀k p,(oE ops)[k]?=some p→L.getD k false=true→∀j∈p,L.getD j false=true:=by
   intro L hL k p hp hk;refine yL (fun j=>L.getD j false) ops.toList [] (by simp) ?_ k p hp hk;intro k' o ho' hl' e he hb;exact hL k' o (by simpa using ho') (by simpa using hl') e he hb
  have Y:(listed.setIfInBounds i true).getD i false=true:=by simp[A4,hl,h1]
  have hold:∀j,j≠i→(listed.setIfInBounds i true).getD j false=listed.getD j false:=by
   intro j hj;simp only[A4,Br];rw[ψ (fun e=>hj e.symm)]
  have hdis1:∀j y,xs[j]?=some y→j<i→listed.getD j false=false→indep y xs[i]=true:=by
   intro j y hy hji N;obtain⟨p,hp,Z⟩:=pE _ _ _ hap i _ hx;rcases Z j y (by simpa using hji) (by simpa using hy) with hm | hm
   ·have:=hpd _ ad i p hp Y j hm;rw[hold j (by omega)] at this;rw[this] at N;cases N
   ·exact hm
  have ab:∀j y,xs[j]?=some y→i<j→listed.getD j false=true→indep xs[i] y=true:=by
   intro j y hy aa N;obtain⟨p,hp,Z⟩:=pE _ _ _ hap j _ hy;rcases Z i xs[i] (by simpa using aa) (by simp) with hm | hm
   ·have:=hpd _ hcl j p hp N i hm;rw[this] at h2;cases h2
   ·exact hm
  have hg:=hr.at i _ hx;simp only[Bd] at hg;have hag:oU xs[i].1 (eM (fun j=>decide (j<i)) 0 xs st) (eM (fun j=>listed.getD j false) 0 xs st):=by
   have key:∀k x,xs[k]?=some x→listed.getD (0+k) false≠decide (0+k<i)→(∀t∈xs[i].1.e,t∉x.2.we)∧(∀t∈xs[i].1.h,t∉x.2.wh):=by
    intro k x hk I;rw[Bd] at I;by_cases ag:k<i
    ·have W:listed.getD k false=false:=by
      cases hc:listed.getD k false with
      | false=>rfl
      | true=>simp[hc,ag] at I
     have hd:=hdis1 k x hk ag W;simp only[indep,Ah] at hd;obtain⟨⟨⟨d1,d2⟩,d3⟩,d4⟩:=hd;exact⟨fun t ht hw=>jD d1 t hw (by simp[ht]),fun t ht hw=>jD d2 t hw (by simp[ht])⟩
    ·by_cases hke:k=i
     ·subst hke;rw[h2] at I;simp at I
     ·have W:listed.getD k false=true:=by
       cases hc:listed.getD k false with
       | true=>rfl
       | false=>simp[hc,ag] at I
      have hd:=ab k x hk (by omega) W;simp only[indep,Ah] at hd;obtain⟨⟨⟨d1,d2⟩,d3⟩,d4⟩:=hd;exact⟨fun t ht hw=>jD d3 t hw ht,fun t ht hw=>jD d4 t hw ht⟩
   exact⟨fun t ht=>u7 t xs 0 _ _ _ _ rfl fun k x hk I=>(key k x hk I).1 t ht,fun t ht=>u6 t xs 0 _ _ _ _ rfl fun k x hk I=>(key k x hk I).2 t ht⟩
  refine hg _ hag G S μ a w _ Q hs (fun S' μ' a' w' hs'=>?_) ro;refine ih (listed.setIfInBounds i true) (by simp[hl]) ?_ ad S' μ' a' w' ?_ ro
  ·--one fewer is left
   have:∀(l:List Nat),l.Nodup→i∈l→((l.filter fun j=>!listed.getD j false).length=((l.filter fun j=>!(listed.setIfInBounds i true).getD j false).length)+1):=by
    intro l
    induction l with
    | nil=>intro _ h;simp at h
    | cons b l ihl=>
     intro hnd hmem;have ah:=(Bq.1 hnd)
     by_cases hb:b=i
     ·subst hb;have hno:∀j∈l,(!(listed.setIfInBounds b true).getD j false)=(!listed.getD j false):=fun j hj=>by rw[hold j (fun e=>ah.1 (e▸hj))]
      rw[Cu,Cu,h2,Y];simp only[Bool.not_false,Cn,Bool.not_true,Bc,Bt,Aj];rw[List.filter_congr hno]
     ·have hm':i∈l:=(Ao.1 hmem).resolve_left fun e=>hb e.symm
      have:=ihl ah.2 hm';rw[Cu,Cu,hold b hb];split
      ·simp only[Aj];omega
      ·exact this
   have:=this (List.range ops.size) nodup_range (by simpa using h1);omega
  ·have hadd:=aK0 (fun j=>listed.getD j false) i xs[i].2 xs 0 xs[i].1 st (Ak _) (by rw[sub_zero,hx]) h2 (by
    intro k x hk W hik;rw[Bd] at W hik;have hd:=ab k x hk hik W;simp only[indep,Ah] at hd;obtain⟨⟨⟨d1,d2⟩,d3⟩,d4⟩:=hd
    exact⟨fun t ht hw=>jD d1 t ht (by simp[hw]),fun t ht hw=>jD d2 t ht (by simp[hw])⟩)
   rw[←hadd] at hs';have hfe:(fun j=>(listed.setIfInBounds i true).getD j false)=fun j=>listed.getD j false || Nat.beq j i:=funext fun j=>by
    by_cases hj:j=i
    ·subst hj;rw[Y];simp
    ·rw[hold j hj];have hb:Nat.beq j i=false:=by
      cases hb:Nat.beq j i with
      | false=>rfl
      | true=>exact absurd (Ab hb) hj
     rw[hb,Bool.or_false]
   rw[hfe];exact hs'
def aLf:Value→Option V
 | .int k n=>some (.one (.c (.int k n)))
 | .bool b=>some (.one (.c (.bool b)))
 | .string s=>some (.one (.c (.str s.data.toList)))
 | .slice none 0 0=>some (.one (.c .nl))
 | .pointer none=>some (.one (.c .np))
 | .map none=>some (.one (.c (.zv 0)))
 | .nilFunc=>some (.one (.c (.zv 1)))
 | .nilIface=>some (.one (.c (.zv 2)))
 | _=>none
def opv (st:St):Operand→Option V
 | .tmp t=>st.e t
 | .const v=>aLf v
 | .func f=>some (.one (.clo f []))
 | .global _=>none
def opr:Operand→List Nat
 | .tmp t=>[t]
 | _=>[]
theorem aGo {S:Sto}{μ:Mu}{H:cO}{v:Value}{x:V}(h:aLf v=some x):aY S μ H x v:=by
 unfold aLf at h;split at h<;>first | (cases h;simp[aY,bB,Rep,aU1];done) | cases h
theorem aO {G:Ctx}{n:Nat}{S:Sto}{μ:Mu}{st st':St}{a:Act}{w:World}{x:Operand}{v:V}(hs:Sim G n S μ st' a w) (h:opv st x=some v) (ha:∀t∈opr x,st'.e t=st.e t):aY S μ st'.h v (a.eval x):=by
 cases x with
 | tmp t=>exact hs.env t v (by rw[ha t (by simp[opr])];exact h)
 | const u=>exact aGo h
 | func f=>simp[opv] at h;subst h;simp[aY,bB,aV,Act.eval]
 | global g=>simp[opv] at h
section
variable {P:Program}{n:Nat}{o:Oper}{st:St}{d:Nat}
theorem Step.value {rd:Rd}{y:V}(hd:o.dst=some d) (I:d<n)
  (h:∀st',oU rd st st'→∀G S μ a w,Sim G n S μ st' a w→∃v,(execOp a.eval o).run P w=.ok (.value v) w∧aY S μ st'.h y v):Step P n o st rd ⟨some (d,some y),[]⟩:=by
 intro st' ha G S μ a w K Q hs hk;obtain⟨v,J,hv⟩:=h st' ha G S μ a w hs;refine fun ro=>hZ J ?_
 rw[hd];exact hk S μ _ _ (hs.put hs.inv (Evolve.refl _ _ _) I fun z hz=>by cases hz;exact hv)
theorem aV9 {x:Operand}{y:V}(J:o.op=.move x) (hd:o.dst=some d) (I:d<n) (hx:opv st x=some y):Step P n o st ⟨opr x,[]⟩ ⟨some (d,some y),[]⟩:=
 Step.value hd I fun _ ha _ _ _ a _ hs=>⟨a.eval x,by simp[execOp,J],aO hs hx ha.1⟩
theorem aN8 {x:Operand}{y:V}(J:o.op=.assign x) (hd:o.dst=some d) (I:d<n) (hx:opv st x=some y):Step P n o st ⟨opr x,[]⟩ ⟨some (d,some y),[]⟩:=
 Step.value hd I fun _ ha _ _ _ a _ hs=>⟨a.eval x,by simp[execOp,J],aO hs hx ha.1⟩
theorem eY {S:Sto}{μ:Mu}{H:cO}{k:IntKind}{m:Int}{v:Value}(h:aY S μ H (.one (.c (.int k m))) v):v=.int k m:=by simpa [aY,bB,Rep] using h
theorem iV {S:Sto}{μ:Mu}{H:cO}{b:Bool}{v:Value}(h:aY S μ H (.one (.c (.bool b))) v):v=.bool b:=by simpa [aY,bB,Rep] using h
theorem kQ {S:Sto}{μ:Mu}{H:cO}{b:List UInt8}{v:Value}(h:aY S μ H (.one (.c (.str b))) v):v=.string ⟨⟨b⟩⟩:=by simpa [aY,bB,Rep] using h
abbrev I (k:IntKind) (m:Int):V:=.one (.c (.int k m))
abbrev B (b:Bool):V:=.one (.c (.bool b))
abbrev T (s:List UInt8):V:=.one (.c (.str s))
theorem eO {x y:Operand}{st':St}(ha:oU ⟨opr x++opr y,[]⟩ st st'):(∀t∈opr x,st'.e t=st.e t)∧(∀t∈opr y,st'.e t=st.e t):=
 ⟨fun t h=>ha.1 t (by simp[h]),fun t h=>ha.1 t (by simp[h])⟩
theorem eT {op:BinOp}{J ty:TypeId}{x y:Operand}{k:IntKind}{a b:Int}{z:V}(O:o.op=.binOp op J x y ty) (hd:o.dst=some d) (N:d<n) (hx:opv st x=some (I k a)) (hy:opv st y=some (I k b))
  (W:∀w:World,∃v,(binOp op J (.int k a) (.int k b)).run P w=.ok v w∧∀S μ H,aY S μ H z v):Step P n o st ⟨opr x++opr y,[]⟩ ⟨some (d,some z),[]⟩:=by
 refine Step.value hd N fun _ ha _ _ _ ac w hs=>?_
 have h1:=eY (aO hs hx (eO ha).1);have h2:=eY (aO hs hy (eO ha).2);obtain⟨v,h3,h4⟩:=W w;refine⟨v,?_,h4 _ _ _⟩;simp only[execOp,O,h1,h2,Ae];have:(eqGuard op J x y (.int k a) (.int k b)).run P w=.ok () w:=by
  unfold eqGuard;split<;>rfl
 rw[this];simp only[χ,h3,Af]
theorem aN9 {N ty:TypeId}{x y:Operand}{k:IntKind}{a b r:Int}(O:o.op=.binOp .add N x y ty) (hd:o.dst=some d) (J:d<n) (hx:opv st x=some (I k a)) (hy:opv st y=some (I k b)) (W:k.wrap (a+b)=r):
  Step P n o st ⟨opr x++opr y,[]⟩ ⟨some (d,some (I k r)),[]⟩:=
 eT O hd J hx hy fun w=>⟨.int k r,by simp[binOp,Op.intArith,W],fun _ _ _=>by simp[aY,bB,Rep]⟩
theorem aNy {N ty:TypeId}{x y:Operand}{k:IntKind}{a b r:Int}(O:o.op=.binOp .sub N x y ty) (hd:o.dst=some d) (J:d<n) (hx:opv st x=some (I k a)) (hy:opv st y=some (I k b)) (W:k.wrap (a-b)=r):
  Step P n o st ⟨opr x++opr y,[]⟩ ⟨some (d,some (I k r)),[]⟩:=
 eT O hd J hx hy fun w=>⟨.int k r,by simp[binOp,Op.intArith,W],fun _ _ _=>by simp[aY,bB,Rep]⟩
theorem aN3 {N ty:TypeId}{x y:Operand}{k:IntKind}{a b r:Int}(O:o.op=.binOp .mul N x y ty) (hd:o.dst=some d) (J:d<n) (hx:opv st x=some (I k a)) (hy:opv st y=some (I k b)) (W:k.wrap (a*b)=r):
  Step P n o st ⟨opr x++opr y,[]⟩ ⟨some (d,some (I k r)),[]⟩:=
 eT O hd J hx hy fun w=>⟨.int k r,by simp[binOp,Op.intArith,W],fun _ _ _=>by simp[aY,bB,Rep]⟩
theorem aV4 {N ty:TypeId}{x y:Operand}{k:IntKind}{a b r:Int}(O:o.op=.binOp .quo N x y ty) (hd:o.dst=some d) (J:d<n) (hx:opv st x=some (I k a)) (hy:opv st y=some (I k b)) (hb:b≠0) (W:k.wrap (a.tdiv b)=r):
  Step P n o st ⟨opr x++opr y,[]⟩ ⟨some (d,some (I k r)),[]⟩:=
 eT O hd J hx hy fun w=>⟨.int k r,by simp[binOp,Op.intDiv,hb,W],fun _ _ _=>by simp[aY,bB,Rep]⟩
theorem aV2 {N ty:TypeId}{x y:Operand}{k:IntKind}{a b r:Int}(O:o.op=.binOp .rem N x y ty) (hd:o.dst=some d) (J:d<n) (hx:opv st x=some (I k a)) (hy:opv st y=some (I k b)) (hb:b≠0) (W:a.tmod b=r):
  Step P n o st ⟨opr x++opr y,[]⟩ ⟨some (d,some (I k r)),[]⟩:=
 eT O hd J hx hy fun w=>⟨.int k r,by simp[binOp,Op.intDiv,hb,W],fun _ _ _=>by simp[aY,bB,Rep]⟩
theorem aY5 {N ty:TypeId}{x y:Operand}{k:IntKind}{a b:Int}(O:o.op=.binOp .lss N x y ty) (hd:o.dst=some d) (J:d<n) (hx:opv st x=some (I k a)) (hy:opv st y=some (I k b)):
  Step P n o st ⟨opr x++opr y,[]⟩ ⟨some (d,some (B (decide (a<b)))),[]⟩:=
 eT O hd J hx hy fun w=>⟨.bool (decide (a<b)),by simp[binOp,Op.intCmp],fun _ _ _=>by simp[aY,bB,Rep]⟩
theorem aY6 {N ty:TypeId}{x y:Operand}{k:IntKind}{a b:Int}(O:o.op=.binOp .leq N x y ty) (hd:o.dst=some d) (J:d<n) (hx:opv st x=some (I k a)) (hy:opv st y=some (I k b)):
  Step P n o st ⟨opr x++opr y,[]⟩ ⟨some (d,some (B (decide (a≤b)))),[]⟩:=
 eT O hd J hx hy fun w=>⟨.bool (decide (a≤b)),by simp[binOp,Op.intCmp],fun _ _ _=>by simp[aY,bB,Rep]⟩
theorem aY7 {N ty:TypeId}{x y:Operand}{k:IntKind}{a b:Int}(O:o.op=.binOp .gtr N x y ty) (hd:o.dst=some d) (J:d<n) (hx:opv st x=some (I k a)) (hy:opv st y=some (I k b)):
  Step P n o st ⟨opr x++opr y,[]⟩ ⟨some (d,some (B (decide (b<a)))),[]⟩:=
 eT O hd J hx hy fun w=>⟨.bool (decide (b<a)),by simp[binOp,Op.intCmp],fun _ _ _=>by simp[aY,bB,Rep]⟩
theorem aY8 {N ty:TypeId}{x y:Operand}{k:IntKind}{a b:Int}(O:o.op=.binOp .geq N x y ty) (hd:o.dst=some d) (J:d<n) (hx:opv st x=some (I k a)) (hy:opv st y=some (I k b)):
  Step P n o st ⟨opr x++opr y,[]⟩ ⟨some (d,some (B (decide (b≤a)))),[]⟩:=
 eT O hd J hx hy fun w=>⟨.bool (decide (b≤a)),by simp[binOp,Op.intCmp],fun _ _ _=>by simp[aY,bB,Rep]⟩
theorem aY9 {N ty:TypeId}{x y:Operand}{k:IntKind}{a b:Int}(O:o.op=.binOp .eql N x y ty) (hd:o.dst=some d) (J:d<n) (hx:opv st x=some (I k a)) (hy:opv st y=some (I k b)):
  Step P n o st ⟨opr x++opr y,[]⟩ ⟨some (d,some (B (decide (a=b)))),[]⟩:=
 eT O hd J hx hy fun w=>⟨.bool (decide (a=b)),by simp[binOp,Op.intCmp];rfl,fun _ _ _=>by simp[aY,bB,Rep]⟩
theorem aY1 {N ty:TypeId}{x y:Operand}{k:IntKind}{a b:Int}(O:o.op=.binOp .neq N x y ty) (hd:o.dst=some d) (J:d<n) (hx:opv st x=some (I k a)) (hy:opv st y=some (I k b)):
  Step P n o st ⟨opr x++opr y,[]⟩ ⟨some (d,some (B (!decide (a=b)))),[]⟩:=
 eT O hd J hx hy fun w=>⟨.bool (!decide (a=b)),by simp[binOp,Op.intCmp];rfl,fun _ _ _=>by simp[aY,bB,Rep]⟩
theorem nD {op:BinOp}{I ty:TypeId}{x y:Operand}{a b:List UInt8}{z:V}(O:o.op=.binOp op I x y ty) (hd:o.dst=some d) (J:d<n) (hx:opv st x=some (T a)) (hy:opv st y=some (T b))
  (W:∀w:World,∃v,(Op.stringOp op ⟨⟨a⟩⟩ ⟨⟨b⟩⟩).run P w=.ok v w∧∀S μ H,aY S μ H z v) (N:∀w:World,(binOp op I (.string ⟨⟨a⟩⟩) (.string ⟨⟨b⟩⟩)).run P w=(Op.stringOp op ⟨⟨a⟩⟩ ⟨⟨b⟩⟩).run P w):Step P n o st ⟨opr x++opr y,[]⟩ ⟨some (d,some z),[]⟩:=by
 refine Step.value hd J fun _ ha _ _ _ ac w hs=>?_
 have h1:=kQ (aO hs hx (eO ha).1);have h2:=kQ (aO hs hy (eO ha).2);obtain⟨v,h3,h4⟩:=W w;refine⟨v,?_,h4 _ _ _⟩;simp only[execOp,O,h1,h2,Ae];have:(eqGuard op I x y (.string ⟨⟨a⟩⟩) (.string ⟨⟨b⟩⟩)).run P w=.ok () w:=by
  unfold eqGuard;split<;>rfl
 rw[this];simp only[χ,N,h3,Af]
theorem kR (a:List UInt8):(ByteArray.mk ⟨a⟩).toList=a:=by rw[ByteArray.toList_eq]
theorem aVy {J ty:TypeId}{x y:Operand}{a b:List UInt8}(N:o.op=.binOp .eql J x y ty) (hd:o.dst=some d) (I:d<n) (hx:opv st x=some (T a)) (hy:opv st y=some (T b)):
  Step P n o st ⟨opr x++opr y,[]⟩ ⟨some (d,some (B (decide (a=b)))),[]⟩:=
 nD N hd I hx hy (fun w=>⟨.bool (decide (a=b)),by simp only[Op.stringOp,kR,Af];congr 2;exact(Bool.beq_eq_decide_eq a b),fun _ _ _=>by simp[aY,bB,Rep]⟩) fun _=>rfl
theorem aVw {J ty:TypeId}{x y:Operand}{a b:List UInt8}(N:o.op=.binOp .neq J x y ty) (hd:o.dst=some d) (I:d<n) (hx:opv st x=some (T a)) (hy:opv st y=some (T b)):
  Step P n o st ⟨opr x++opr y,[]⟩ ⟨some (d,some (B (!decide (a=b)))),[]⟩:=
 nD N hd I hx hy (fun w=>⟨.bool (!decide (a=b)),by simp only[Op.stringOp,kR,Af];rw[Bool.beq_eq_decide_eq a b],fun _ _ _=>by simp[aY,bB,Rep]⟩) fun _=>rfl
theorem aV0 {J ty:TypeId}{x y:Operand}{a b:List UInt8}(N:o.op=.binOp .add J x y ty) (hd:o.dst=some d) (I:d<n) (hx:opv st x=some (T a)) (hy:opv st y=some (T b)) (hl:a.length+b.length≤maxLen):
  Step P n o st ⟨opr x++opr y,[]⟩ ⟨some (d,some (T (a++b))),[]⟩:=
 nD N hd I hx hy (fun w=>⟨.string ⟨⟨a++b⟩⟩,by
  have h1:(ByteArray.mk ⟨a⟩).size=a.length:=rfl;have h2:(ByteArray.mk ⟨b⟩).size=b.length:=rfl;have h3:¬(((ByteArray.mk ⟨a⟩).size+(ByteArray.mk ⟨b⟩).size:Nat):Int)>IntKind.i64.max:=by
   rw[h1,h2];simp only[IntKind.max,IntKind.signed];unfold maxLen at hl;simp[IntKind.bits];omega
  have h4:(ByteArray.mk ⟨a⟩)++(ByteArray.mk ⟨b⟩)=(⟨⟨a++b⟩⟩:ByteArray):=by
   apply ByteArray.ext;simp
  simp only[Op.stringOp];rw[ψ h3,h4]
  rfl,fun _ _ _=>by simp[aY,bB,Rep]⟩) fun _=>rfl
theorem aVx {J ty:TypeId}{x y:Operand}{a b:List UInt8}(N:o.op=.binOp .lss J x y ty) (hd:o.dst=some d) (I:d<n) (hx:opv st x=some (T a)) (hy:opv st y=some (T b)):
  Step P n o st ⟨opr x++opr y,[]⟩ ⟨some (d,some (B (Op.bytesLess a b))),[]⟩:=
 nD N hd I hx hy (fun w=>⟨.bool (Op.bytesLess a b),by simp only[Op.stringOp,kR,Af],fun _ _ _=>by simp[aY,bB,Rep]⟩) fun _=>rfl
theorem aY0 {t:TypeId}{x:Operand}{b:Bool}(J:o.op=.unOp .not t x) (hd:o.dst=some d) (I:d<n) (hx:opv st x=some (B b)):Step P n o st ⟨opr x,[]⟩ ⟨some (d,some (B (!b))),[]⟩:=by
 refine Step.value hd I fun _ ha _ _ _ ac w hs=>?_
 have h1:=iV (aO hs hx ha.1);exact⟨.bool (!b),by simp[execOp,J,h1,Op.unary],by simp[aY,bB,Rep]⟩
theorem aY2 {t:TypeId}{x:Operand}{k:IntKind}{a r:Int}(O:o.op=.unOp .neg t x) (hd:o.dst=some d) (J:d<n) (hx:opv st x=some (I k a)) (N:k.wrap (0-a)=r):Step P n o st ⟨opr x,[]⟩ ⟨some (d,some (I k r)),[]⟩:=by
 refine Step.value hd J fun _ ha _ _ _ ac w hs=>?_
 have h1:=eY (aO hs hx ha.1);refine⟨.int k r,?_,by simp[aY,bB,Rep]⟩;simp only[Int.zero_sub] at N;simp[execOp,O,h1,Op.unary,Op.intArith,N]
theorem aN1 {c x y:Operand}{b:Bool}{z:V}(J:o.op=.pick c x y) (hd:o.dst=some d) (I:d<n) (hc:opv st c=some (B b)) (hb:b=true) (hx:opv st x=some z):Step P n o st ⟨opr c++opr x,[]⟩ ⟨some (d,some z),[]⟩:=by
 refine Step.value hd I fun _ ha _ _ _ ac w hs=>?_
 have h1:=iV (aO hs hc (eO ha).1);subst hb;exact⟨ac.eval x,by simp[execOp,J,h1,asBool],aO hs hx (eO ha).2⟩
theorem aN2 {c x y:Operand}{b:Bool}{z:V}(J:o.op=.pick c x y) (hd:o.dst=some d) (I:d<n) (hc:opv st c=some (B b)) (hb:b=false) (hy:opv st y=some z):Step P n o st ⟨opr c++opr y,[]⟩ ⟨some (d,some z),[]⟩:=by
 refine Step.value hd I fun _ ha _ _ _ ac w hs=>?_
 have h1:=iV (aO hs hc (eO ha).1);subst hb;exact⟨ac.eval y,by simp[execOp,J,h1,asBool],aO hs hy (eO ha).2⟩
theorem aIw {x:Operand}{i:Nat}{l:List V}{z:V}(J:o.op=.extract x i) (hd:o.dst=some d) (I:d<n) (hx:opv st x=some (.tup l)) (hi:l[i]?=some z):Step P n o st ⟨opr x,[]⟩ ⟨some (d,some z),[]⟩:=by
 refine Step.value hd I fun st' ha _ S μ ac w hs=>?_
 have h1:=aO hs hx ha.1;simp only[aY] at h1;obtain⟨vs,h1,h2⟩:=h1;have:∀(l:List V) (vs:List Value) (i:Nat),bS S μ st'.h l vs→l[i]?=some z→∃v,vs[i]?=some v∧aY S μ st'.h z v:=by
  intro l
  induction l with
  | nil=>intro vs i _ h;simp at h
  | cons r rs N=>
   intro vs i h hi;simp only[bS] at h;obtain⟨v,vs',rfl,h1,h2⟩:=h;cases i with
   | zero=>simp at hi;subst hi;exact⟨v,rfl,h1⟩
   | succ i=>simp at hi;simpa using N vs' i h2 hi
 obtain⟨v,h3,h4⟩:=this l vs i h2 hi;refine⟨v,?_,h4⟩;simp[execOp,J,h1,Instr.extract,h3]
end
inductive TK where
 | bool | int (k:IntKind) | str | pt (e:TypeId) | sl (e:TypeId) | mp (k e:TypeId) | fn
 | st (fs:List (Nat×TypeId)) | ar (m:Nat) (e:TypeId)
 deriving DecidableEq,Inhabited
structure TI where
 k:TK
 size:Nat
 bytes:Nat
 zero:List C
 deriving Inhabited
abbrev TT:=List (Option TI)
def aLg:C→Value→Bool
 | .int k n,.int k' n'=>k==k'&&n==n'
 | .bool b,.bool b'=>b==b'
 | .str s,.string t=>s==t.data.toList
 | .nl,.slice none 0 0=>true
 | .np,.pointer none=>true
 | .zv 0,.map none=>true
 | .zv 1,.nilFunc=>true
 | .zv 2,.nilIface=>true
 | _,_=>false
def s5:List C→List Value→Bool
 | [],[]=>true
 | c::cs,v::vs=>aLg c v&&s5 cs vs
 | _,_=>false
def TK.fits:TK→TypeDesc→Bool
 | .bool,.bool=>true
 | .int k,.int k'=>k==k'
 | .str,.string=>true
 | .pt e,.pointer e'=>e==e'
 | .sl e,.slice e'=>e==e'
 | .mp k e,.map k' e'=>k==k'&&e==e'
 | .fn,.func _ _ _=>true
 | .st fs,.struct fields=>fs==fields.toList.map fun f=>(f.offset,f.type)
 | .ar m e,.array m' e'=>m==m'&&e==e'
 | _,_=>false
def TK.agg:TK→Bool
 | .st _=>true
 | .ar _ _=>true
 | _=>false
def TI.check (P:Program) (t:TypeId) (i:TI):Bool:=
 match P.info? t,P.underlying t with
 | some inf,some d=>(inf.size==i.size&&(i.zero.length==i.size&&(i.k.agg || i.size==1)))&&inf.bytes==i.bytes&&i.k.fits d&&
   (match inf.zero with | some z=>s5 i.zero z.cells.toList&&(match i.k.agg,z with | true,.agg _=>true | true,_=>false | false,.agg _=>false | false,_=>true) | none=>false)
 | _,_=>false
def TT.check (P:Program) (T:TT):Bool:=T.zipIdx.all fun(i,t)=>match i with | some i=>i.check P t | none=>true
theorem aGp {S:Sto}{c:C}{v:Value}(h:aLg c v=true):Rep S c v:=by
 unfold aLg at h;split at h<;>simp_all [Rep,aU1]
theorem jF {S:Sto}:∀{c:List C}{v:List Value},s5 c v=true→dI S c v
 | [],[],_=>by simp[dI]
 | c::cs,v::vs,h=>by
  simp only[s5,Ah] at h;simp only[dI];exact⟨v,vs,rfl,aGp h.1,jF h.2⟩
 | [],_::_,h=>by simp[s5] at h
 | _::_,[],h=>by simp[s5] at h
def Tok (P:Program) (T:TT):Prop:=TT.check P T=true
structure TIok (P:Program) (t:TypeId) (i:TI):Prop where
 ex:∃inf d z,P.info? t=some inf∧P.underlying t=some d∧inf.size=i.size∧inf.bytes=i.bytes∧i.k.fits d=true∧inf.zero=some z∧s5 i.zero z.cells.toList=true∧(z=if i.k.agg then .agg z.cells else z)∧(i.k.agg=false→∃u,z.cells= #[u]∧z=u)
 len:i.zero.length=i.size
 one:i.k.agg=false→i.size=1
theorem Tok.get {P:Program}{T:TT}(h:Tok P T) {t:TypeId}{i:TI}(hi:T[t]?=some (some i)):TIok P t i:=by
 unfold Tok TT.check at h
 have:=(A3.1 h) (some i,t) (by
  rw[List.mem_iff_getElem?]
  exact⟨t,by simp[List.getElem?_zipIdx,hi]⟩)
 simp only[TI.check] at this;split at this
 ·rename_i inf d h1 h2;simp only[Ah,beq_iff_eq] at this;obtain⟨⟨⟨⟨h3,hl,I⟩,h4⟩,h5⟩,h6⟩:=this;split at h6
  ·rename_i z hz;simp only[Ah] at h6;obtain⟨h6,h7⟩:=h6;refine⟨⟨inf,d,z,h1,h2,h3,h4,h5,hz,h6,?_,?_⟩,hl,fun hk=>by simpa [hk] using I⟩
   ·cases hk:i.k.agg with
    | false=>simp
    | true=>
     cases z<;>simp_all [Value.cells]
   ·intro hk;cases z<;>simp_all [Value.cells]
  ·cases h6
 ·cases this
theorem TIok.size_run {P:Program}{t:TypeId}{i:TI}(h:TIok P t i) (w:World):(sizeOf t).run P w=.ok i.size w:=by
 obtain⟨inf,d,z,h1,h2,h3,h4,h5,h6,h7,I⟩:=h.ex;simp[sizeOf,typeInfo,h1,h3]
theorem TIok.zero_run {P:Program}{t:TypeId}{i:TI}(h:TIok P t i):∃z,(∀w:World,(zeroValue t).run P w=.ok z w)∧(∀S,dI S i.zero z.cells.toList)∧(z=if i.k.agg then .agg z.cells else z)∧(i.k.agg=false→∃u,z.cells= #[u]∧z=u):=by
 obtain⟨inf,d,z,h1,h2,h3,h4,h5,h6,h7,I⟩:=h.ex;exact⟨z,fun w=>by simp[zeroValue,typeInfo,h1,h6],fun S=>jF h7,I⟩
theorem TIok.agg_run {P:Program}{t:TypeId}{i:TI}(h:TIok P t i) (w:World):(isAgg t).run P w=.ok i.k.agg w:=by
 obtain⟨inf,d,z,h1,h2,h3,h4,h5,h6,h7,I⟩:=h.ex;unfold isAgg;rw[Ae,Aq h2 w];simp only[χ];cases hk:i.k<;>rw[hk] at h5<;>cases d<;>simp[TK.fits] at h5<;>rfl
theorem TIok.slice {P:Program}{t e:TypeId}{i:TI}(h:TIok P t i) (hk:i.k=.sl e):P.underlying t=some (.slice e):=by
 obtain⟨inf,d,z,h1,h2,h3,h4,h5,h6,h7,I⟩:=h.ex;rw[hk] at h5;cases d<;>simp[TK.fits] at h5;rw[h2,h5]
theorem TIok.array {P:Program}{t e:TypeId}{m:Nat}{i:TI}(h:TIok P t i) (hk:i.k=.ar m e):P.underlying t=some (.array m e):=by
 obtain⟨inf,d,z,h1,h2,h3,h4,h5,h6,h7,I⟩:=h.ex;rw[hk] at h5;cases d<;>simp[TK.fits] at h5;rw[h2,h5.1,h5.2]
theorem TIok.str {P:Program}{t:TypeId}{i:TI}(h:TIok P t i) (hk:i.k=.str):P.underlying t=some .string:=by
 obtain⟨inf,d,z,h1,h2,h3,h4,h5,h6,h7,I⟩:=h.ex;rw[hk] at h5;cases d<;>simp[TK.fits] at h5;rw[h2]
theorem TIok.int {P:Program}{t:TypeId}{k:IntKind}{i:TI}(h:TIok P t i) (hk:i.k=.int k):P.underlying t=some (.int k):=by
 obtain⟨inf,d,z,h1,h2,h3,h4,h5,h6,h7,I⟩:=h.ex;rw[hk] at h5;cases d<;>simp[TK.fits] at h5;rw[h2,h5]
theorem TIok.bool {P:Program}{t:TypeId}{i:TI}(h:TIok P t i) (hk:i.k=.bool):P.underlying t=some .bool:=by
 obtain⟨inf,d,z,h1,h2,h3,h4,h5,h6,h7,I⟩:=h.ex;rw[hk] at h5;cases d<;>simp[TK.fits] at h5;rw[h2]
theorem TIok.ptr {P:Program}{t e:TypeId}{i:TI}(h:TIok P t i) (hk:i.k=.pt e):P.underlying t=some (.pointer e):=by
 obtain⟨inf,d,z,h1,h2,h3,h4,h5,h6,h7,I⟩:=h.ex;rw[hk] at h5;cases d<;>simp[TK.fits] at h5;rw[h2,h5]
theorem TIok.map {P:Program}{t k e:TypeId}{i:TI}(h:TIok P t i) (hk:i.k=.mp k e):P.underlying t=some (.map k e):=by
 obtain⟨inf,d,z,h1,h2,h3,h4,h5,h6,h7,I⟩:=h.ex;rw[hk] at h5;cases d<;>simp[TK.fits] at h5;rw[h2,h5.1,h5.2]
theorem TIok.struct {P:Program}{t:TypeId}{fs:List (Nat×TypeId)}{i:TI}(h:TIok P t i) (hk:i.k=.st fs):∃fields,P.underlying t=some (.struct fields)∧fs=fields.toList.map fun f=>(f.offset,f.type):=by
 obtain⟨inf,d,z,h1,h2,h3,h4,h5,h6,h7,I⟩:=h.ex;rw[hk] at h5;cases d<;>simp[TK.fits] at h5;exact⟨_,h2,h5⟩
theorem TIok.info {P:Program}{t:TypeId}{i:TI}(h:TIok P t i):(P.info? t).map (·.size)=some i.size:=by
 obtain⟨inf,d,z,h1,h2,h3,h4,h5,h6,h7,I⟩:=h.ex;simp[h1,h3]
theorem aV.length {S:Sto}{μ:Mu}{H:cO}:∀{c:List R}{v:List Value},aV S μ H c v→v.length=c.length
 | [],_,k=>by simp only[aV] at k;subst k;rfl
 | _::cs,_,k=>by
  simp only[aV] at k;obtain⟨v,vs',rfl,_,h⟩:=k;simp[aV.length h]
theorem aV.get {S:Sto}{μ:Mu}{H:cO}:∀{c:List R}{v:List Value},aV S μ H c v→∀(i:Nat) (x:R),c[i]?=some x→∃u,v[i]?=some u∧bB S μ H x u
 | [],_,_,i,x,h=>by simp at h
 | c::cs,_,k,i,x,h=>by
  simp only[aV] at k;obtain⟨v,vs',rfl,h1,h2⟩:=k;cases i with
  | zero=>simp at h;subst h;exact⟨v,rfl,h1⟩
  | succ i=>simp at h;simpa using h2.get i x h
theorem aV.append {S:Sto}{μ:Mu}{H:cO}:∀{a:List R}{x:List Value}{b:List R}{y:List Value},aV S μ H a x→aV S μ H b y→aV S μ H (a++b) (x++y)
 | [],_,_,_,h,k=>by simp only[aV] at h;subst h;simpa using k
 | _::_,_,_,_,h,k=>by
  simp only[aV,A9] at h ⊢;obtain⟨v,vs',rfl,h1,h2⟩:=h;exact⟨v,vs'++_,rfl,h1,h2.append k⟩
theorem aV.take {S:Sto}{μ:Mu}{H:cO}:∀{a:List R}{x:List Value}(n:Nat),aV S μ H a x→aV S μ H (a.take n) (x.take n)
 | _,_,0,_=>by simp[aV]
 | [],_,n+1,h=>by simp only[aV] at h;subst h;simp[aV]
 | _::_,_,n+1,h=>by
  simp only[aV,Az] at h ⊢;obtain⟨v,vs',rfl,h1,h2⟩:=h;exact⟨v,vs'.take n,by simp,h1,h2.take n⟩
theorem aV.drop {S:Sto}{μ:Mu}{H:cO}:∀{a:List R}{x:List Value}(n:Nat),aV S μ H a x→aV S μ H (a.drop n) (x.drop n)
 | _,_,0,h=>by simpa using h
 | [],_,n+1,h=>by simp only[aV] at h;subst h;simp[aV]
 | _::_,_,n+1,h=>by
  simp only[aV,Cr] at h ⊢;obtain⟨v,vs',rfl,h1,h2⟩:=h;simpa using h2.drop n
theorem dI.toR {S:Sto}{μ:Mu}{H:cO}:∀{c:List C}{v:List Value},dI S c v→aV S μ H (c.map R.c) v
 | [],_,k=>by simp only[dI] at k;subst k;simp[aV]
 | c::cs,_,k=>by
  simp only[dI] at k;obtain⟨v,vs',rfl,h1,h2⟩:=k;simp only[Al,aV];exact⟨v,vs',rfl,by simpa [bB] using h1,h2.toR⟩
def iS:List R→Option (List C)
 | []=>some []
 | .c x::l=>match iS l with | some l'=>some (x::l') | none=>none
 | _::_=>none
theorem nE:∀{rs:List R}{l:List C},iS rs=some l→rs=l.map R.c
 | [],l,h=>by simp[iS] at h;subst h;rfl
 | .c x::rs,l,h=>by
  simp only[iS] at h;split at h
  ·rename_i l' hl;cases h;simp[nE hl]
  ·cases h
 | .hs ..::_,_,h=>by simp[iS] at h
 | .tl ..::_,_,h=>by simp[iS] at h
 | .vp ..::_,_,h=>by simp[iS] at h
 | .ep ..::_,_,h=>by simp[iS] at h
 | .mr ..::_,_,h=>by simp[iS] at h
 | .clo ..::_,_,h=>by simp[iS] at h
 | .mth ..::_,_,h=>by simp[iS] at h
 | .yl ..::_,_,h=>by simp[iS] at h
 | .ra ..::_,_,h=>by simp[iS] at h
 | .rp ..::_,_,h=>by simp[iS] at h
 | .ras ..::_,_,h=>by simp[iS] at h
 | .pas ..::_,_,h=>by simp[iS] at h
theorem aV.pure {S:Sto}{μ:Mu}{H:cO}:∀{l:List C}{v:List Value},aV S μ H (l.map R.c) v→dI S l v
 | [],_,k=>by simp only[By,aV] at k;subst k;simp[dI]
 | c::cs,_,k=>by
  simp only[Al,aV] at k;obtain⟨v,vs',rfl,h1,h2⟩:=k;simp only[dI];exact⟨v,vs',rfl,by simpa [bB] using h1,h2.pure⟩
def aUz (rs:List R):V:=match iS rs with | some l=>.pa l | none=>.ma rs
theorem aFo {S:Sto}{μ:Mu}{H:cO}{rs:List R}{vs:List Value}(h:aV S μ H rs vs):aY S μ H (aUz rs) (.agg ⟨vs⟩):=by
 unfold aUz;split
 ·rename_i l hl;rw[nE hl] at h;simp only[aY];exact⟨vs,rfl,h.pure⟩
 ·simp only[aY];exact⟨vs,rfl,h⟩
def hJ:V→Option (List R)
 | .one r=>some [r]
 | .pa l=>some (l.map R.c)
 | .ma l=>some l
 | .tup _=>none
theorem Rep.one {S:Sto}:∀{c:C}{v:Value},Rep S c v→v.cells= #[v]∧v.oneCell'=true:=by
 intro c v h;cases c<;>simp only[Rep] at h
 case zv k=>subst h;unfold aU1;split<;>exact⟨rfl,rfl⟩
 case sl=>obtain⟨a,len,cap,rfl,_⟩:=h;exact⟨rfl,rfl⟩
 case sg=>obtain⟨a,len,cap,rfl,_⟩:=h;exact⟨rfl,rfl⟩
 case sn=>obtain⟨b,o,sp,len,cap,rfl,_⟩:=h;exact⟨rfl,rfl⟩
 case pt=>obtain⟨b,o,rfl,_⟩:=h;exact⟨rfl,rfl⟩
 case mp=>obtain⟨b,es,clk,rfl,_⟩:=h;exact⟨rfl,rfl⟩
 case clo=>obtain⟨vs,rfl,_⟩:=h;exact⟨rfl,rfl⟩
 case any=>exact h
 all_goals (subst h;exact⟨rfl,rfl⟩)
theorem bB.one {S:Sto}{μ:Mu}{H:cO}:∀{r:R}{v:Value},bB S μ H r v→v.cells= #[v]∧v.oneCell'=true:=by
 intro r v h;cases r<;>simp only[bB] at h
 case c x=>exact h.one
 case hs=>obtain⟨⟨a,l,c,rfl⟩,_⟩:=h;exact⟨rfl,rfl⟩
 case tl=>obtain⟨⟨a,l,c,rfl⟩,_⟩:=h;exact⟨rfl,rfl⟩
 case vp=>obtain⟨t,cells,b,c,_,_,rfl⟩:=h;exact⟨rfl,rfl⟩
 case ep=>obtain⟨⟨a,rfl⟩,_⟩:=h;exact⟨rfl,rfl⟩
 case mr=>obtain⟨agg,ents,b,c,_,_,rfl⟩:=h;exact⟨rfl,rfl⟩
 case clo=>obtain⟨vs,rfl,_⟩:=h;exact⟨rfl,rfl⟩
 case mth=>obtain⟨u,rfl,_⟩:=h;exact⟨rfl,rfl⟩
 case yl=>obtain⟨st,j,i,e,b,c,_,_,rfl⟩:=h;exact⟨rfl,rfl⟩
 case ra=>obtain⟨⟨a,l,c,rfl⟩,_⟩:=h;exact⟨rfl,rfl⟩
 case rp=>obtain⟨⟨a,rfl⟩,_⟩:=h;exact⟨rfl,rfl⟩
 case ras=>obtain⟨a,cap,rfl,_⟩:=h;exact⟨rfl,rfl⟩
 case pas=>obtain⟨b,o,rfl,_⟩:=h;exact⟨rfl,rfl⟩
theorem aV.one {S:Sto}{μ:Mu}{H:cO}:∀{rs:List R}{vs:List Value},aV S μ H rs vs→∀v∈vs,v.oneCell'=true
 | [],_,h=>by simp only[aV] at h;subst h;simp
 | _::_,_,h=>by
  simp only[aV] at h;obtain⟨v,vs',rfl,h1,h2⟩:=h;intro u hu;rcases Ao.1 hu with rfl | hu
  ·exact h1.one.2
  ·exact h2.one u hu
theorem eL {S:Sto}{μ:Mu}{H:cO}{x:V}{v:Value}{rs:List R}(h:aY S μ H x v) (hc:hJ x=some rs):aV S μ H rs v.cells.toList:=by
 cases x<;>simp only[hJ] at hc
 case one r=>
  cases hc;simp only[aY] at h;rw[h.one.1];simp only[aV];exact⟨v,[],rfl,h,rfl⟩
 case pa l=>
  cases hc;simp only[aY] at h;obtain⟨vs,rfl,h⟩:=h;exact h.toR
 case ma l=>
  cases hc;simp only[aY] at h;obtain⟨vs,rfl,h⟩:=h;exact h
 case tup=>cases hc
section
variable {P:Program}{n:Nat}{o:Oper}{st:St}{d:Nat}{T:TT}
theorem fZ {S:Sto}{μ:Mu}{H:cO}{id:Nat}(h:H id=none) (p:Option (Nat×Nat×Nat)) (x:Option AObj):Evolve S μ H S (upd μ id p) (upd H id x):=
 ⟨S.le_refl,fun j o hj=>by
  have I:j≠id:=fun e=>by subst e;rw[h] at hj;cases hj
  exact⟨o,by rw[b8 _ _ _ I];exact hj,o.succ_refl (b8 _ _ _ I)⟩⟩
theorem Step.new {rd:Rd}{y:V}{id:Nat}{ao:AObj}(hd:o.dst=some d) (J:d<n) (hid:st.h id=none) (N:id∈rd.h)
  (h:∀st',oU rd st st'→st'.h id=none→∀G S μ a w,Sim G n S μ st' a w→∃w' O v c,(execOp a.eval o).run P w=.ok (.value v) w'∧WChg w w' w.heap.size O∧
   mG S (upd μ id (some (w.heap.size,c))) (upd st'.h id (some ao)) w' id ao∧aY S (upd μ id (some (w.heap.size,c))) (upd st'.h id (some ao)) y v):
  Step P n o st rd ⟨some (d,some y),[(id,some ao)]⟩:=by
 intro st' ha G S μ a w K Q hs hk;have I:st'.h id=none:=by rw[ha.2 id N,hid]
 obtain⟨w',O,v,c,W,hw,Y,hv⟩:=h st' ha I G S μ a w hs;refine fun ro=>hZ W ?_
 rw[hd];have hi:=hs.inv.chg (id:=id) (cap:=c) (ao:=ao) hw (.inl (le_refl _)) (fZ I _ _) Y
  (fun o v e=>by obtain⟨vs,t,fr,h1,_⟩:=hs.inv.holds.1 _ _ _ e;exact absurd (dY h1) (Nat.lt_irrefl _)) (fun m e=>le_refl _)
 refine hk S (upd μ id (some (w.heap.size,c))) _ _ ?_;have:=hs.put hi (fZ I _ _) J (x:=some y) (fun z hz=>by cases hz;exact hv);unfold Eff.apply;rw[dE];exact this
theorem gV {G:Ctx}{S:Sto}{μ:Mu}{H:cO}{w:World}(h:Inv G S μ H w) (o:Nat):S.cell w.heap.size o=none:=by
 cases hc:S.cell w.heap.size o with
 | none=>rfl
 | some v=>obtain⟨vs,t,fr,h1,_⟩:=h.holds.1 _ _ _ hc;exact absurd (dY h1) (Nat.lt_irrefl _)
theorem rH {G:Ctx}{S:Sto}{μ:Mu}{H:cO}{w:World}(h:Inv G S μ H w):S.mapo w.heap.size=none:=by
 cases hc:S.mapo w.heap.size with
 | none=>rfl
 | some v=>obtain⟨_,h1⟩:=MK.holds_some (h.holds.2 _ _ hc);exact absurd (dY h1) (Nat.lt_irrefl _)
theorem iA (P:Program) (w:World) (t:TypeId) (cs:Array Value):(newRow t cs).run P w=.ok ⟨w.heap.size,0,none⟩ (w.alloc (.cells cs t)):=rfl
theorem aSv {t:TypeId}{i:TI}(id:Nat) (N:Tok P T) (O:o.op=.alloc t) (hd:o.dst=some d) (I:d<n) (hi:T[t]?=some (some i)) (hid:st.h id=none):
  Step P n o st ⟨[],[id]⟩ ⟨some (d,some (.one (.vp id 0))),[(id,some (.var t (i.zero.map R.c)))]⟩:=by
 refine Step.new hd I hid (by simp) fun st' _ W G S μ a w hs=>?_
 obtain⟨z,hz,J,_⟩:=(N.get hi).zero_run;refine⟨_,_,.pointer (some ⟨w.heap.size,0,none⟩),(0,0),?_,WChg.alloc w (.cells z.cells t),?_,?_⟩
 ·simp[execOp,O,Instr.alloc,hz,newVar,iA]
 ·exact⟨w.heap.size,z.cells.toList,aJ _ _ _,B7 w _,(J S).toR,gV hs.inv,rH hs.inv⟩
 ·simp only[aY,bB];exact⟨t,_,_,_,aJ _ _ _,aJ _ _ _,rfl⟩
theorem aZb {t:TypeId}{x:Operand}{y:V}{rs:List R}(id:Nat) (N:o.op=.box t x) (hd:o.dst=some d) (J:d<n) (hx:opv st x=some y) (hc:hJ y=some rs) (hid:st.h id=none):
  Step P n o st ⟨opr x,[id]⟩ ⟨some (d,some (.one (.vp id 0))),[(id,some (.var t rs))]⟩:=by
 refine Step.new hd J hid (by simp) fun st' ha I G S μ a w hs=>?_
 have hv:=aO hs hx ha.1;refine⟨_,_,.pointer (some ⟨w.heap.size,0,none⟩),(0,0),?_,WChg.alloc w (.cells (a.eval x).cells t),?_,?_⟩
 ·simp[execOp,N,Instr.box,newVar,iA]
 ·exact⟨w.heap.size,(a.eval x).cells.toList,aJ _ _ _,B7 w _,aV.evolve (fZ I _ _) _ _ (eL hv hc),gV hs.inv,rH hs.inv⟩
 ·simp only[aY,bB];exact⟨t,_,_,_,aJ _ _ _,aJ _ _ _,rfl⟩
theorem aIo {t:TypeId}(id:Nat) (agg:Bool) (J:o.op=.makeMap t none) (hd:o.dst=some d) (I:d<n) (hid:st.h id=none):
  Step P n o st ⟨[],[id]⟩ ⟨some (d,some (.one (.mr id))),[(id,some (.map agg []))]⟩:=by
 refine Step.new hd I hid (by simp) fun st' _ N G S μ a w hs=>?_
 refine⟨w.alloc (.map #[] 0),_,.map (some w.heap.size),(0,0),?_,WChg.alloc w (.map #[] 0),?_,?_⟩
 ·simp only[execOp,J,Instr.makeMap,Cw];rfl
 ·exact⟨w.heap.size, #[],0,aJ _ _ _,B7 w _,.inr (.inl (by simp[bE])),.inl (rH hs.inv)⟩
 ·simp only[aY,bB];exact⟨_,_,_,_,aJ _ _ _,aJ _ _ _,rfl⟩
theorem jN {w:World}{b:Nat}{vs:List Value}{t:TypeId}(h:w.heap[b]?=some (.cells ⟨vs⟩ t (0,0))) (off k:Nat):w.rangeAt b off ((vs.drop off).take k):=by
 intro j v hj;rw[cell_of_row w b (off+j) ⟨vs⟩ t (0,0) h];rw[Av] at hj;split at hj
 ·rw[An] at hj;simpa using hj
 ·cases hj
theorem run_load {t:TypeId}{i:TI}(J:TIok P t i) (w:World) (b off:Nat) (cs:List Value) (O:w.rangeAt b off cs) (hl:cs.length=i.size):
  (Instr.loadAt t (.pointer (some ⟨b,off,none⟩))).run P w=.ok (if i.k.agg then .agg ⟨cs⟩ else cs.headD undef) w:=by
 obtain⟨inf,dd,z,g1,g2,g3,g4,g5,g6,g7,g8⟩:=J.ex;cases hk:i.k.agg with
 | true=>
  have N:dd.isRow=true:=by
   cases W:i.k<;>rw[W] at g5 hk<;>cases dd<;>simp[TK.fits,TK.agg] at g5 hk<;>rfl
  rw[run_loadAt_mid w b off t cs dd O g2 N (by rw[J.info,hl])];simp
 | false=>
  have hs:=J.one hk;rw[hs] at hl
  match cs,hl with
  | [c],_=>
   have hc:=O 0 c rfl;have I:=J.agg_run w;rw[hk] at I;simp only[Instr.loadAt,Instr.sureAddr,Ae,Af,χ,loadVar,I];simp only[Bc,Bt,load];simp only[Sem.run];rw[show(⟨b,off,none⟩:Addr)=⟨b,off+0,none⟩ from rfl,hc];simp
def pL (i:TI) (rs:List R):Option V:=if i.k.agg then some (aUz rs) else match rs with | [r]=>some (.one r) | _=>none
theorem kW {i:TI}{S:Sto}{μ:Mu}{H:cO}{rs:List R}{vs:List Value}{y:V}(h:aV S μ H rs vs) (hy:pL i rs=some y):aY S μ H y (if i.k.agg then .agg ⟨vs⟩ else vs.headD undef):=by
 unfold pL at hy;cases hk:i.k.agg with
 | true=>
  simp only[hk,Cn] at hy ⊢;cases hy;exact aFo h
 | false=>
  simp only[hk,Bc,Bt] at hy ⊢;split at hy
  ·cases hy;simp only[aV] at h;obtain⟨v,vs',rfl,h1,rfl⟩:=h;simpa [aY] using h1
  ·cases hy
theorem aZm {α:Type}{l:List α}{off k:Nat}(h:off+k≤l.length):((l.drop off).take k).length=k:=by simp;omega
theorem aWa {t tv:TypeId}{i:TI}{x:Operand}{id off:Nat}{cells:List R}{y:V}(N:Tok P T) (O:o.op=.load t x) (hd:o.dst=some d) (I:d<n) (hi:T[t]?=some (some i)) (hx:opv st x=some (.one (.vp id off)))
  (hh:st.h id=some (.var tv cells)) (hl:Nat.ble (off+i.size) cells.length=true) (hy:pL i ((cells.drop off).take i.size)=some y):Step P n o st ⟨opr x,[id]⟩ ⟨some (d,some y),[]⟩:=by
 refine Step.value hd I fun st' ha G S μ a w hs=>?_
 have J:st'.h id=some (.var tv cells):=by rw[ha.2 id (by simp),hh]
 have hv:=aO hs hx ha.1;simp only[aY,bB] at hv;obtain⟨t',cells',b,c,h1,h2,h3⟩:=hv;obtain⟨b',vs,g1,g2,g3,g4⟩:=hs.inv.obj id _ J;rw[g1] at h2;cases h2;have hlen:=Ap hl;have W:=g3.length;refine⟨_,?_,kW ((g3.drop off).take i.size) hy⟩;simp only[execOp,O,h3,Ae,run_load (N.get hi) w b off _ (jN g2 off i.size) (aZm (by omega)),χ,Af]
def aGh (i:TI) (l:List C):Option V:=if i.k.agg then some (.pa l) else match l with | [c]=>some (.one (.c c)) | _=>none
theorem yW {i:TI}{S:Sto}{μ:Mu}{H:cO}{l:List C}{vs:List Value}{y:V}(h:dI S l vs) (hy:aGh i l=some y):aY S μ H y (if i.k.agg then .agg ⟨vs⟩ else vs.headD undef):=by
 unfold aGh at hy;cases hk:i.k.agg with
 | true=>
  simp only[hk,Cn] at hy ⊢;cases hy;simp only[aY];exact⟨vs,rfl,h⟩
 | false=>
  simp only[hk,Bc,Bt] at hy ⊢;split at hy
  ·cases hy;simp only[dI] at h;obtain⟨v,vs',rfl,h1,rfl⟩:=h;simpa [aY,bB] using h1
  ·cases hy
theorem mM {S:Sto}{w:World}(hh:Holds S w) {b off:Nat}{vs:List Value}(h:fH S b off vs):w.rangeAt b off vs:=fun j v hj=>hh.cell (h j v hj)
theorem aIr {t:TypeId}{i:TI}{x:Operand}{l:List C}{y:V}(N:Tok P T) (O:o.op=.load t x) (hd:o.dst=some d) (I:d<n) (hi:T[t]?=some (some i)) (hx:opv st x=some (.one (.c (.pt l))))
  (hl:i.size≤l.length) (hy:aGh i (l.take i.size)=some y):Step P n o st ⟨opr x,[]⟩ ⟨some (d,some y),[]⟩:=by
 refine Step.value hd I fun st' ha G S μ a w hs=>?_
 have hv:=aO hs hx ha.1;simp only[aY,bB,Rep] at hv;obtain⟨b,off,h1,vs,h2,h3⟩:=hv;have Y:=h2.length;refine⟨_,?_,yW (h2.take i.size) hy⟩;have W:=mM hs.inv.holds h3;have J:w.rangeAt b off (vs.take i.size):=fun j v hj=>by
  rw[Av] at hj;split at hj
  ·exact W j v hj
  ·cases hj
 simp only[execOp,O,h1,Ae,run_load (N.get hi) w b off _ J (by simp;omega),χ,Af]
theorem eD {α:Type}{es:Nat}:∀{l:List (List α)},(∀r∈l,r.length=es)→∀(k:Nat),∀r,l[k]?=some r→(l.flatten.drop (k*es)).take es=r
 | [],_,k,r,h=>by simp at h
 | x::xs,hl,0,r,h=>by
  simp at h;subst h;have:=hl x (by simp);simp[←this]
 | x::xs,hl,k+1,r,h=>by
  simp at h;have hx:=hl x (by simp);have:=eD (l:=xs) (fun r I=>hl r (by simp[I])) k r h;rw[Bi,drop_append,show(k+1)*es-x.length=k*es by rw[hx,A0];omega];rw[drop_of_length_le (by rw[hx,A0];omega),Be];exact this
theorem iK {α:Type}{es:Nat}:∀{l:List (List α)},(∀r∈l,r.length=es)→l.flatten.length=l.length*es
 | [],_=>by simp
 | x::xs,hl=>by
  rw[Bi,Aa,iK (fun r I=>hl r (by simp[I])),hl x (by simp),Aj,A0];omega
theorem mG.arr {S:Sto}{μ:Mu}{H:cO}{w:World}{id:Nat}{te es:Nat}{elems:List (List C)}{fz:Nat}(h:mG S μ H w id (.arr te es elems fz)) {b base cap:Nat}(hm:μ id=some (b,base,cap)):
  (∀r∈elems,r.length=es)∧∃vs,w.heap[b]?=some (.cells ⟨vs⟩ te (0,0))∧
   base+cap*es≤vs.length∧elems.length≤cap∧(cap≤maxLen∧S.mapo b=none)∧dI S elems.flatten ((vs.drop base).take (elems.length*es))∧
   (fz=0→∀o,base≤o→S.cell b o=none)∧(∀o,base+elems.length*es≤o→S.cell b o=none)∧(fz=2→fH S b base ((vs.drop base).take (elems.length*es))):=by
 obtain⟨h0,⟨h1,_⟩ | ⟨b',I,J,vs,h1,h2⟩⟩:=h
 ·rw[hm] at h1;cases h1
 ·rw[hm] at h1;cases h1;exact⟨h0,vs,h2⟩
theorem aQj {S:Sto}{es base:Nat}{elems:List (List C)}{vs:List Value}(h0:∀r∈elems,r.length=es) (h:dI S elems.flatten ((vs.drop base).take (elems.length*es))) {k:Nat}{r:List C}(hk:elems[k]?=some r):
  dI S r ((vs.drop (base+k*es)).take es):=by
 have h1:=(h.drop (k*es)).take es;rw[eD h0 k r hk] at h1;have I:k<elems.length:=(ε.1 hk).1
 have hle:(k+1)*es≤elems.length*es:=Ax _ I;rw[A0] at hle;rw[drop_take,drop_drop,take_take] at h1;rwa [B8 (by omega)] at h1
theorem aIs {t te es:Nat}{i:TI}{x:Operand}{id k fo sz:Nat}{elems:List (List C)}{fz:Nat}{r:List C}{y:V}(Z:Tok P T) (ho:o.op=.load t x) (hd:o.dst=some d) (O:d<n) (hi:T[t]?=some (some i)) (hx:opv st x=some (.one (.ep id k fo sz)))
  (hh:st.h id=some (.arr te es elems fz)) (W:sz=elems.length) (Y:elems[k]?=some r) (hl:fo+i.size≤es) (hy:aGh i ((r.drop fo).take i.size)=some y):Step P n o st ⟨opr x,[id]⟩ ⟨some (d,some y),[]⟩:=by
 refine Step.value hd O fun st' ha G S μ a w hs=>?_
 have I:st'.h id=some (.arr te es elems fz):=by rw[ha.2 id (by simp),hh]
 have hv:=aO hs hx ha.1;simp only[aY,bB] at hv;obtain⟨_,hv | ⟨te',es',elems',fz',h1,h2,h3⟩⟩:=hv
 ·rw[I] at hv;cases hv
 rw[I] at h1;cases h1;obtain⟨h4,b,base,cap,h5,h6⟩:=h3 W;obtain⟨g0,vs,g1,g2,g3,g4,g5,g6,g7⟩:=(hs.inv.obj id _ I).arr h5;have J:=aQj g0 g5 Y;have hlr:=J.length;have hres:r.length=es:=g0 r (η Y);have N:=((J.drop fo).take i.size)
 have hlen:=N.length;have hE:((List.drop fo (List.take es (List.drop (base+k*es) vs))).take i.size)=(vs.drop (base+k*es+fo)).take i.size:=by
  rw[drop_take,drop_drop,take_take,B8 (by omega)]
 rw[hE] at N hlen;refine⟨_,?_,yW N hy⟩;simp only[execOp,ho,h6,Ae,run_load (Z.get hi) w b (base+k*es+fo) _ (jN g1 _ i.size) (by rw[hlen];simp;omega),χ,Af]
end
end Go.AM
