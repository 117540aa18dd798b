/-
  Texts Am0 to Am6 in one.
-/
import Derived.Lib.ItoaNum
import Derived.WalkKit
import Derived.Below
import Derived.OrdersIn
import Derived.Deep.MidRow
namespace Go.AM
open Go
theorem ψ:∀{p:Prop} [Decidable p],Decidable.decide p=Bool.true→p:=@of_decide_eq_true
theorem φ.{u}:∀{c:Prop}{_:Decidable c},¬c→∀{α:Sort u}{t e:α},(if c then t else e)=e:=@if_neg
theorem θ.{q,I}:∀{α:Type q}{β:Type I}{as:List α}(f:α→β),(List.map f as).length=as.length:=@List.length_map
theorem ξ.{u}:∀{c:Prop}{_:Decidable c},c→∀{α:Sort u}{t e:α},(if c then t else e)=t:=@if_pos
theorem ζ.{q}:∀{α:Type q}{a b:α},a∈[b]↔a=b:=@List.mem_singleton
theorem η.{q}:∀{α:Type q}{a:α}{l:List α},a∈a::l:=@List.mem_cons_self
theorem κ:∀{α β:Type}(a:α) (w:Go.World) (f:α→Go.World→Go.Result β),(Go.Result.ok a w).andThen f=f a w:=@Go.Result.andThen_ok
theorem χ:∀{p:Prop} [Decidable p],Decidable.decide p=Bool.false→¬p:=@of_decide_eq_false
theorem ω.{q}:∀{α:Type q}(y:α) {a:α}{l:List α},a∈l→a∈y::l:=@List.mem_cons_of_mem
theorem δ.{q}:∀{α:Type q}{a:α}{s t:List α},a∈s++t↔a∈s∨a∈t:=@List.mem_append
theorem ε:∀{n m:Nat},n.beq m=Bool.true→n=m:=@Nat.eq_of_beq_eq_true
theorem τ.{u}:∀{α:Type u}{as bs:List α},(as++bs).length=as.length+bs.length:=@List.length_append
theorem Aa.{q}:∀{α:Type q}{i:Nat}{a:α}{l:List α},l[i]?=Option.some a↔∃h,l[i]=a:=@List.getElem?_eq_some_iff
theorem Ab.{q}:∀{α:Type q}{l:List α}{i:Nat}{a:α},l[i]?=Option.some a→a∈l:=@List.mem_of_getElem?
theorem Ac:∀(a b:Bool),((a&&b)=Bool.true)=(a=Bool.true∧b=Bool.true):=@Bool.and_eq_true
theorem Ad:∀{α β:Type}(P:Go.Program) (w:Go.World) (x:Go.Sem α) (f:α→Go.Sem β),Go.Sem.run P (x>>=f) w=(Go.Sem.run P x w).andThen fun a w'=>Go.Sem.run P (f a) w':=@Go.Sem.run_bind
theorem Ae:∀{α:Type}(P:Go.Program) (w:Go.World) (a:α),Go.Sem.run P (Pure.pure a) w=Go.Result.ok a w:=@Go.Sem.run_pure
theorem Af.{q,I}:∀{α:Type q}{β:Type I}{b:β}{f:α→β}{l:List α},b∈List.map f l↔∃a,a∈l∧f a=b:=@List.mem_map
theorem Ag.{I,J}:∀{α:Type I}{b:α}{q:Type J}{x:Option q}{f:q→Option α},x.bind f=Option.some b↔∃a,x=Option.some a∧f a=Option.some b:=@Option.bind_eq_some_iff
theorem Ah:∀{p:Prop} [Decidable p],p→Decidable.decide p=Bool.true:=@decide_eq_true
theorem Ai.{q}:∀{α:Type q}{b:α}{l:List α}{a:α},a∈b::l↔a=b∨a∈l:=@List.mem_cons
theorem Aj:∀(n:Nat),0≤n:=@Nat.zero_le
theorem Ak.{u}:∀{α:Type u}{a:α}{as:List α},(a::as).length=as.length+1:=@List.length_cons
theorem Al.{u,v}:∀{α:Type u}{β:Type v}{f:α→β}{a:α}{l:List α},List.map f (a::l)=f a::List.map f l:=@List.map_cons
theorem Am:∀{p:Prop} [Decidable p],¬p→Decidable.decide p=Bool.false:=@decide_eq_false
theorem An.{q}:∀{α:Type q}{xs:List α}{i j:Nat},(List.drop i xs)[j]?=xs[i+j]?:=@List.getElem?_drop
theorem Ao:∀{P:Go.Program}{t:Go.TypeId}{d:Go.TypeDesc},P.underlying t=Option.some d→∀(w:Go.World),Go.Sem.run P (Go.underlying t) w=Go.Result.ok d w:=@Go.run_underlying
theorem Ap:∀{n m:Nat},n.ble m=Bool.true→n≤m:=@Nat.le_of_ble_eq_true
theorem Aq.{q}:∀{α:Type q}{i:Nat}{l:List α},(List.take i l).length=Min.min i l.length:=@List.length_take
theorem Ar.{u}:∀{α:Type u}{a:α}{as:List α}{i:Nat},List.take (i+1) (a::as)=a::List.take i as:=@List.take_succ_cons
theorem As.{q}:∀{α:Type q}{l:List α},List.take l.length l=l:=@List.take_length
theorem At.{q}:∀{α:Type q}{l:List α}{i j:Nat},(List.take i l)[j]?=if j<i then l[j]? else Option.none:=@List.getElem?_take
theorem Au.{q}:∀{α:Type q}{p:α→Bool}{l:List α},l.all p=Bool.true↔∀(x:α),x∈l→p x=Bool.true:=@List.all_eq_true
theorem Av:∀{n m:Nat}(k:Nat),n≤m→n*k≤m*k:=@Nat.mul_le_mul_right
theorem Ax.{q}:∀{α:Type q}{xs:Array α}{i:Nat}{d:α},xs.getD i d=xs[i]?.getD d:=@Array.getD_eq_getD_getElem?
theorem Ay:∀(n m k:Nat),(n+m)*k=n*k+m*k:=@Nat.add_mul
theorem Az.{I}:∀{α:Type I}{q J:List α}{i:Nat},q.length≤i→(q++J)[i]?=J[i-q.length]?:=@List.getElem?_append_right
theorem A0.{u}:∀{α:Type u}(as bs cs:List α),as++bs++cs=as++(bs++cs):=@List.append_assoc
theorem A1:(Bool.false=Bool.true)=False:=@Bool.false_eq_true
theorem A3.{q}:∀{α:Type q}{i:Nat}{l:List α},l.length≤i→List.take i l=l:=@List.take_of_length_le
theorem A4.{q,I}:∀{α:Type q}{β:Type I}{f:α→β}{J N:List α},List.map f (J++N)=List.map f J++List.map f N:=@List.map_append
theorem A5:Bool.false≠Bool.true:=@Bool.false_ne_true
theorem A6:∀(n:Nat),0+n=n:=@Nat.zero_add
theorem A7.{q}:∀{α:Type q}{l:List α},l.length=0→l=[]:=@List.eq_nil_of_length_eq_zero
theorem A8.{u}:∀{α:Type u}(as:List α),as++[]=as:=@List.append_nil
theorem A9.{q}:∀{α:Type q}{xs:Array α},xs.toList.length=xs.size:=@Array.length_toList
theorem Ba.{I}:∀{α:Type I}{q J:List α}{i:Nat},i<q.length→(q++J)[i]?=q[i]?:=@List.getElem?_append_left
theorem Bb:∀{m:Nat}(n:Nat),0<m→n≤n*m:=@Nat.le_mul_of_pos_right
theorem Bc.{u}:∀{α:Type u}{a:α}{as bs:List α},a::as++bs=a::(as++bs):=@List.cons_append
theorem Bd.{u}:∀{α:Type u}(as:List α),[]++as=as:=@List.nil_append
theorem Be.{u}:∀{α:Type u}{a:α}{as:List α},(a::as).length=as.length+1:=@List.length_cons
theorem Bf.{q}:∀{α:Type q}{l:List α}{L:List (List α)},(l::L).flatten=l++L.flatten:=@List.flatten_cons
theorem Bg.{q,I}:∀{α:Type q}{β:Type I}{f:α→β}{l:List α}{i:Nat},(List.map f l)[i]?=Option.map f l[i]?:=@List.getElem?_map
theorem Bh.{q}:∀{α:Type q}{a:α}{i:Nat}{l:List α},(a::l)[i+1]?=l[i]?:=@List.getElem?_cons_succ
theorem Bi.{q}:∀{α:Type q}{l:List α}{i:Nat},List.take (i+1) l=List.take i l++l[i]?.toList:=@List.take_add_one
theorem Bj.{q,I,J}:∀{β:Type q}{γ:Type I}{α:Type J}{g:β→γ}{f:α→β}{l:List α},List.map g (List.map f l)=List.map (g∘f) l:=@List.map_map
theorem Bk.{q,I}:∀{α:Type q}{l:List α}{J:Type I}{f g:α→J},(∀(a:α),a∈l→f a=g a)→List.map f l=List.map g l:=@List.map_congr_left
theorem Bl.{q}:∀{α:Type q}{l:List α},l.length=0↔l=[]:=@List.length_eq_zero_iff
theorem Bm.{u,v}:∀{α:Type u}{β:Type v}{a:α}{as:List α}{f:α→Option β},List.findSome? f (a::as)=match f a with | Option.some b=>Option.some b | Option.none=>List.findSome? f as:=@List.findSome?_cons
theorem Bn.{u,v}:∀{α:Type u}{β:Type v}{f:α→β},List.map f []=[]:=@List.map_nil
theorem Bo.{q}:∀{α:Sort q}(a b:α),(bif Bool.true then a else b)=a:=@cond_true
theorem Bp.{q}:∀{α:Type q}{i:Nat}{l:List α}(h:i<l.length),List.drop i l=l[i]::List.drop (i+1) l:=@List.drop_eq_getElem_cons
theorem Bq.{q}:∀{α:Type q}{xs:Array α}{i j:Nat}{a:α},(xs.setIfInBounds i a)[j]?=if i=j then if i<xs.size then Option.some a else Option.none else xs[j]?:=@Array.getElem?_setIfInBounds
theorem Br.{q}:∀{α:Sort q}{_:Decidable False}(t e:α),(if False then t else e)=e:=@if_false
theorem Bs.{q}:∀{α:Sort q}(a b:α),(bif Bool.false then a else b)=b:=@cond_false
theorem Bt.{q}:∀{α:Type q}{l:List α},l.length=1↔∃a,l=[a]:=@List.length_eq_one_iff
theorem Bu.{q,I}:∀{α:Type q}{β:Type I}{f:β→α→β}{b:β}{l l':List α},List.foldl f b (l++l')=List.foldl f (List.foldl f b l) l':=@List.foldl_append
theorem Bv.{q}:∀{α:Type q}{a:α}{l:List α},(a::l).Nodup↔¬a∈l∧l.Nodup:=@List.nodup_cons
theorem Bw.{q}:∀{α:Type q}{I J:List α},(∀(i:Nat),I[i]?=J[i]?)→I=J:=@List.ext_getElem?
theorem Bx.{q}:∀{α:Type q}{i:Nat}{a:α}{l:List α},a∈List.take i l→a∈l:=@List.mem_of_mem_take
theorem By:∀(n:Nat),n+0=n:=@Nat.add_zero
theorem Bz.{q}:∀{α:Type q}{i:Nat}{l:List α},(List.drop i l).length=l.length-i:=@List.length_drop
theorem B0.{I}:∀{α:Type I}{q J:List α}{i:Nat},(q++J)[i]?=if i<q.length then q[i]? else J[i-q.length]?:=@List.getElem?_append
theorem B3.{q}:∀{α:Sort q}{_:Decidable True}(t e:α),(if True then t else e)=t:=@if_true
theorem B4:∀(w:Go.World) (o:Go.Obj),(w.alloc o).heap[w.heap.size]?=Option.some o:=@Go.heap_alloc_new
theorem B5.{I,J}:∀{α:Type I}{b:α}{q:Type J}{x:Option q}{f:q→α},Option.map f x=Option.some b↔∃a,x=Option.some a∧f a=b:=@Option.map_eq_some_iff
theorem B6:∀(a:Nat),a.beq a=Bool.true:=@Nat.beq_refl
theorem B8.{u}:∀{α:Sort u}{p:α→Prop}(h:∃x,p x),p (Classical.choose h):=@Classical.choose_spec
theorem B9:∀{a b:Nat},a≤b→Min.min a b=a:=@Nat.min_eq_left
theorem Ca:∀(n:Int),-9223372036854775808≤n∧n≤9223372036854775807→Go.IntKind.i64.wrap n=n:=@Go.IntWalk.i64_in
theorem Cb.{u}:∀{α:Type u}{l:List α},List.take 0 l=[]:=@List.take_zero
theorem Cc.{u}:∀{α:Type u}{l:List α},List.drop 0 l=l:=@List.drop_zero
theorem Cd.{q}:∀{α:Type q}{l:List α}{i:Nat}{a:α},l.set i a=if i<l.length then List.take i l++a::List.drop (i+1) l else l:=@List.set_eq_take_append_cons_drop
theorem Ce.{u}:∀{α:Type u} [Add α] [Zero α] {a:α}{l:List α},(a::l).sum=a+l.sum:=@List.sum_cons
theorem Cg.{J}:∀{α:Type J}{q I:List α},(q++I).Nodup↔q.Nodup∧I.Nodup∧∀(a:α),a∈q→∀(b:α),b∈I→a≠b:=@List.nodup_append
theorem Ch.{q}:∀{α:Type q}{p:α→Bool}{a:α}{l:List α},p a=Bool.true→List.find? p (a::l)=Option.some a:=@List.find?_cons_of_pos
theorem Ci.{q}:∀{α:Type q}{p:α→Bool}{a:α}{l:List α},¬p a=Bool.true→List.find? p (a::l)=List.find? p l:=@List.find?_cons_of_neg
theorem Cj.{u,v}:∀{α:Type u}{β:Type v}{x:α}{xs:List α}{f:α→List β},List.flatMap f (x::xs)=f x++List.flatMap f xs:=@List.flatMap_cons
theorem Ck.{q}:∀{α:Type q}{x:α}{xs:List α}{p:α→Bool},List.filter p (x::xs)=if p x=Bool.true then x::List.filter p xs else List.filter p xs:=@List.filter_cons
theorem Cl.{q,I}:∀{α:Type q}{β:Type I}(a:α) (f:α→Option β),(Option.some a).bind f=f a:=@Option.bind_some
theorem Cm.{q}:∀{α:Type q}{i:Nat}{b:α}{xs:Array α},xs[i]?=Option.some b↔∃h,xs[i]=b:=@Array.getElem?_eq_some_iff
theorem Cn.{u}:∀{α:Type u}{as:List α}{i:Nat}{a:α},(as.set i a).length=as.length:=@List.length_set
theorem Co:∀(n m k:Nat),n+m+k=n+(m+k):=@Nat.add_assoc
theorem Cp.{q}:∀{α:Type q}{a:α}{as:List α}{p:α→Bool},List.find? p (a::as)=match p a with | Bool.true=>Option.some a | Bool.false=>List.find? p as:=@List.find?_cons
theorem Cq:∀(b:Bool),((!b)=Bool.true)=(b=Bool.false):=@Bool.not_eq_true'
theorem Cr.{u,v}:∀{α:Type u}{β:Type v}{a:α}{l:List α}{f:β→α→β}{b:β},List.foldl f b (a::l)=List.foldl f (f b a) l:=@List.foldl_cons
theorem Cs.{I}:∀{α:Type I}{q J:List α}{i:Nat},i≤q.length→List.take i (q++J)=List.take i q:=@List.take_append_of_le_length
theorem Ct.{q}:∀{α:Type q}{xs I:Array α},(xs++I).toList=xs.toList++I.toList:=@Array.toList_append
theorem Cu.{u}:∀{α:Type u}{a:α}{l:List α}{i:Nat},List.drop (i+1) (a::l)=List.drop i l:=@List.drop_succ_cons
theorem Cv:∀{n m k:Nat},n<m→m≤k→n<k:=@Nat.lt_of_lt_of_le
theorem Cw:∀{p:Prop}{_:Decidable p},Decidable.decide p=Bool.false↔¬p:=@decide_eq_false_iff_not
theorem Cx.{q}:∀{α:Type q}(i:Nat) (l:List α),List.take i l++List.drop i l=l:=@List.take_append_drop
theorem Cy.{q}:∀{α:Type q}{l:List α},List.drop l.length l=[]:=@List.drop_length
theorem Cz:∀(n m k:Nat),n*(m+k)=n*m+n*k:=@Nat.mul_add
theorem C0.{q,I}:∀{α:Type q}{β:Type I}(f:α→β),Option.map f Option.none=Option.none:=@Option.map_none
theorem C1.{q}:∀{α:Type q}{a:α}{i:Nat}{l:List α},a∈List.drop i l→a∈l:=@List.mem_of_mem_drop
theorem C2:∀{n m:Nat}(k:Nat),n≤m→k*n≤k*m:=@Nat.mul_le_mul_left
theorem C3.{q}:∀{α:Type q}{x:α}{xs:List α}{i:Nat}{a:α},(x::xs).set (i+1) a=x::xs.set i a:=@List.set_cons_succ
theorem C4.{u,v}:∀{α:Type u}{β:Type v}{f:α→List β},List.flatMap f []=[]:=@List.flatMap_nil
end Go.AM
open List (all_eq_true cons_append drop_append drop_drop drop_of_length_le drop_succ_cons drop_take eq_nil_of_length_eq_zero filter_cons flatten_cons length_append length_cons length_nil map_cons map_nil mem_cons mem_filter mem_flatMap mem_map mem_range nil_append nodup_cons nodup_range take_left' take_succ_cons take_take)
open Nat (add_assoc add_mul add_zero eq_of_beq_eq_true le_of_ble_eq_true le_refl le_trans lt_irrefl lt_of_lt_of_le min_eq_left mul_le_mul_right sub_zero zero_add zero_le)
namespace Go.AM
open Go
def aXs:Option Nat:=some 0
def a1o:Array Value:=(Lib.pow10Tab.map fun z=>Value.int .u64 z).toArray
def aR3 (w:World):Prop:=∀g,aXs=some g→g<w.heap.size∧∃t fr,w.heap[g]?=some (.cells a1o t fr)
def a04 (w:World) (F:Nat→Prop):Prop:=aR3 w∧∀g,aXs=some g→¬F g
inductive C where
 | int (k:IntKind) (n:Int)
 | bool (b:Bool)
 | str (s:List UInt8)
 | nl
 | sl (es:Nat) (l:List (List C))
 | sn (es:Nat) (l:List (List C))
 | np
 | pt (l:List C)
 | mp (agg:Bool) (l:List (List C))
 | zv (k:Nat)
 | any
 | fn (f:FuncId)
 | clo (f:FuncId) (l:List C)
 | sg (te es:Nat) (l:List (List C))
 deriving Inhabited
inductive MK where
 | all (es:Array MapEntry) (clk:Nat)
 | part (ks:List UInt8→Prop)
 | top (te lo hi:Nat)
def aVg (k:List UInt8) (es:Array MapEntry):Prop:=∃e∈es.toList,e.key=.string ⟨⟨k⟩⟩
def MK.has:MK→List UInt8→Prop
 | .all es _,k=>aVg k es
 | .part ks,k=>ks k
 | .top _ _ _,_=>False
def MK.le:MK→MK→Prop
 | .all es clk,m=>m=.all es clk
 | .part ks,m=>∀k,ks k→m.has k
 | .top te lo hi,m=>m=.top te lo hi
theorem MK.le_refl (m:MK):m.le m:=by cases m<;>simp[MK.le,MK.has]
theorem MK.le_has {m q:MK}(h:m.le q) {k:List UInt8}(e:m.has k):q.has k:=by
 cases m with
 | all es clk=>simp only[MK.le] at h;subst h;exact e
 | part ks=>exact h k e
 | top te lo hi=>cases e
theorem MK.le_trans {m I q:MK}(h:m.le I) (k:I.le q):m.le q:=by
 cases m with
 | all es clk=>simp only[MK.le] at h;subst h;exact k
 | part ks=>exact fun s e=>MK.le_has k (h s e)
 | top te lo hi=>simp only[MK.le] at h;subst h;exact k
def MK.holds:MK→Option Obj→Prop
 | .all es clk,o=>o=some (.map es clk)
 | .part ks,o=>∃es clk,o=some (.map es clk)∧∀k,ks k→aVg k es
 | .top te _ hi,o=>∃vs,o=some (.cells ⟨vs⟩ te (0,0))∧hi≤vs.length
theorem MK.holds_some {m:MK}{o:Option Obj}(h:m.holds o):∃x,o=some x:=by
 cases m with
 | all es clk=>exact⟨_,h⟩
 | part ks=>obtain⟨es,clk,h1,_⟩:=h;exact⟨_,h1⟩
 | top te lo hi=>obtain⟨vs,h1,_⟩:=h;exact⟨_,h1⟩
structure Sto where
 cell:Nat→Nat→Option Value
 mapo:Nat→Option MK
def Sto.le (S S':Sto):Prop:=(∀b o v,S.cell b o=some v→S'.cell b o=some v)∧(∀b m,S.mapo b=some m→∃m',S'.mapo b=some m'∧m.le m')
theorem Sto.le_refl (S:Sto):S.le S:=⟨fun _ _ _ h=>h,fun _ m h=>⟨m,h,m.le_refl⟩⟩
theorem Sto.le_trans {S S' S'':Sto}(h:S.le S') (k:S'.le S''):S.le S'':=⟨fun b o v e=>k.1 b o v (h.1 b o v e),fun b m e=>by
 obtain⟨I,h1,h2⟩:=h.2 b m e;obtain⟨q,h3,h4⟩:=k.2 b I h1
 exact⟨q,h3,MK.le_trans h2 h4⟩⟩
theorem Sto.le_all {S S':Sto}(h:S.le S') {b:Nat}{es:Array MapEntry}{clk:Nat}(e:S.mapo b=some (.all es clk)):S'.mapo b=some (.all es clk):=by
 obtain⟨q,h1,h2⟩:=h.2 b _ e;simp only[MK.le] at h2;rw[h1,h2]
theorem Sto.le_top {S S':Sto}(h:S.le S') {b te lo hi:Nat}(e:S.mapo b=some (.top te lo hi)):S'.mapo b=some (.top te lo hi):=by
 obtain⟨q,h1,h2⟩:=h.2 b _ e;simp only[MK.le] at h2;rw[h1,h2]
def Sto.free (S:Sto):Prop:=∀b te lo hi,S.mapo b=some (.top te lo hi)→∀o,lo≤o→S.cell b o=none
def Sto.noTop (S:Sto):Prop:=∀b m,S.mapo b=some m→∃es clk,m=.all es clk
def aW1:Nat→Value
 | 0=>.map none
 | 1=>.nilFunc
 | _=>.nilIface
def fR (S:Sto) (b o:Nat) (vs:List Value):Prop:=∀i v,vs[i]?=some v→S.cell b (o+i)=some v
theorem fR.mono {S S':Sto}(h:S.le S') {b o:Nat}{vs:List Value}(k:fR S b o vs):fR S' b o vs:=fun i v e=>h.1 _ _ _ (k i v e)
mutual
def Rep (S:Sto):C→Value→Prop
 | .int k n,v=>v=.int k n
 | .bool b,v=>v=.bool b
 | .str s,v=>v=.string ⟨⟨s⟩⟩
 | .nl,v=>v=.slice none 0 0
 | .sl es l,v=>∃a len cap,v=.slice a len cap∧len=l.length∧len≤cap∧cap≤maxLen∧(a=none→len=0∧cap=0)∧
   (∀ad,a=some ad→cap≠0→ad.spot=none)∧∃b o,(∀ad,a=some ad→ad.block=b∧ad.off=o)∧bK S es b l o
 | .sn es l,v=>∃b o sp len cap,v=.slice (some ⟨b,o,sp⟩) len cap∧len=l.length∧len≤cap∧cap≤maxLen∧(cap≠0→sp=none)∧bK S es b l o
 | .np,v=>v=.pointer none
 | .pt l,v=>∃b o,v=.pointer (some ⟨b,o,none⟩)∧∃vs,cZ S l vs∧fR S b o vs
 | .mp agg l,v=>∃b es clk,v=.map (some b)∧S.mapo b=some (.all es clk)∧(b7 S agg l es.toList∨aIw S agg l es)
 | .zv k,v=>v=aW1 k
 | .any,v=>v.cells= #[v]∧v.oneCell'=true
 | .fn f,v=>v=.func (.func f) #[] ⟨[]⟩
 | .clo f l,v=>∃vs,v=.func (.func f) #[] ⟨vs⟩∧cZ S l vs
 | .sg te es l,v=>∃a len cap,v=.slice a len cap∧len=l.length∧len≤cap∧cap≤maxLen∧((a=none∧len=0∧cap=0)∨∃b o,a=some ⟨b,o,none⟩∧bK S es b l o∧S.mapo b=some (.top te (o+l.length*es) (o+cap*es)))
def cZ (S:Sto):List C→List Value→Prop
 | [],vs=>vs=[]
 | c::cs,vs=>∃v vs',vs=v::vs'∧Rep S c v∧cZ S cs vs'
def bK (S:Sto) (es b:Nat):List (List C)→Nat→Prop
 | [],_=>True
 | r::rs,o=>r.length=es∧(∃vs,cZ S r vs∧fR S b o vs)∧bK S es b rs (o+es)
def b7 (S:Sto) (agg:Bool):List (List C)→List MapEntry→Prop
 | [],es=>es=[]
 | r::rs,es=>∃e es',es=e::es'∧(∃vs,cZ S r (e.key::vs)∧(e.val=if agg then .agg ⟨vs⟩ else vs.headD undef)∧(agg=false→vs.length=1))∧b7 S agg rs es'
def lV (S:Sto) (agg:Bool):List (List C)→MapEntry→Prop
 | [],_=>False
 | r::rs,e=>(∃vs,cZ S r (e.key::vs)∧(e.val=if agg then .agg ⟨vs⟩ else vs.headD undef)∧(agg=false→vs.length=1))∨lV S agg rs e
def aIw (S:Sto) (agg:Bool):List (List C)→Array MapEntry→Prop
 | [],_=>False
 | r::rs,es=>r=[]∧(∀e∈es.toList,lV S agg rs e)∧∀k cs,(.str k::cs)∈rs→aVg k es
end
mutual
theorem Rep.mono {S S':Sto}(h:S.le S'):∀(c:C) (v:Value),Rep S c v→Rep S' c v
 | .int _ _,_,k=>by simpa [Rep] using k
 | .bool _,_,k=>by simpa [Rep] using k
 | .str _,_,k=>by simpa [Rep] using k
 | .nl,_,k=>by simpa [Rep] using k
 | .np,_,k=>by simpa [Rep] using k
 | .zv _,_,k=>by simpa [Rep] using k
 | .any,_,k=>by simp only[Rep] at k ⊢;exact k
 | .fn _,_,k=>by simpa [Rep] using k
 | .clo _ l,v,k=>by
  simp only[Rep] at k ⊢;obtain⟨vs,h1,h2⟩:=k;exact⟨vs,h1,cZ.mono h l vs h2⟩
 | .sg te es l,v,k=>by
  simp only[Rep] at k ⊢;obtain⟨a,len,cap,h1,h2,h3,h4,h5⟩:=k;refine⟨a,len,cap,h1,h2,h3,h4,h5.imp id fun⟨b,o,q,h7,J⟩=>⟨b,o,q,bK.mono h es b l o h7,Sto.le_top h J⟩⟩
 | .sl es l,v,k=>by
  simp only[Rep] at k ⊢;obtain⟨a,len,cap,h1,h2,h3,h4,h5,q,b,o,h7,J⟩:=k;exact⟨a,len,cap,h1,h2,h3,h4,h5,q,b,o,h7,bK.mono h es b l o J⟩
 | .sn es l,v,k=>by
  simp only[Rep] at k ⊢;obtain⟨b,o,sp,len,cap,h1,h2,h3,h4,h5,q⟩:=k;exact⟨b,o,sp,len,cap,h1,h2,h3,h4,h5,bK.mono h es b l o q⟩
 | .pt l,v,k=>by
  simp only[Rep] at k ⊢;obtain⟨b,o,h1,vs,h2,h3⟩:=k;exact⟨b,o,h1,vs,cZ.mono h l vs h2,h3.mono h⟩
 | .mp agg l,v,k=>by
  simp only[Rep] at k ⊢;obtain⟨b,es,clk,h1,h2,h3⟩:=k;exact⟨b,es,clk,h1,Sto.le_all h h2,h3.elim (fun h3=>.inl (b7.mono h agg l es.toList h3)) fun h3=>.inr (aIw.mono h agg l es h3)⟩
theorem cZ.mono {S S':Sto}(h:S.le S'):∀(c:List C) (v:List Value),cZ S c v→cZ S' c v
 | [],_,k=>by simpa [cZ] using k
 | c::cs,vs,k=>by
  simp only[cZ] at k ⊢;obtain⟨v,vs',h1,h2,h3⟩:=k;exact⟨v,vs',h1,Rep.mono h c v h2,cZ.mono h cs vs' h3⟩
theorem bK.mono {S S':Sto}(h:S.le S') (es b:Nat):∀(l:List (List C)) (o:Nat),bK S es b l o→bK S' es b l o
 | [],_,_=>by simp[bK]
 | r::rs,o,k=>by
  simp only[bK] at k ⊢;obtain⟨h1,⟨vs,h2,h3⟩,h4⟩:=k;exact⟨h1,⟨vs,cZ.mono h r vs h2,h3.mono h⟩,bK.mono h es b rs (o+es) h4⟩
theorem b7.mono {S S':Sto}(h:S.le S') (agg:Bool):∀(l:List (List C)) (es:List MapEntry),b7 S agg l es→b7 S' agg l es
 | [],_,k=>by simpa [b7] using k
 | r::rs,es,k=>by
  simp only[b7] at k ⊢;obtain⟨e,I,h1,⟨vs,h2,h3⟩,h4⟩:=k;exact⟨e,I,h1,⟨vs,cZ.mono h r _ h2,h3⟩,b7.mono h agg rs I h4⟩
theorem lV.mono {S S':Sto}(h:S.le S') (agg:Bool):∀(l:List (List C)) (e:MapEntry),lV S agg l e→lV S' agg l e
 | [],_,k=>by simp only[lV] at k
 | r::rs,e,k=>by
  simp only[lV] at k ⊢;rcases k with⟨vs,h2,h3⟩ | k
  ·exact .inl ⟨vs,cZ.mono h r _ h2,h3⟩
  ·exact .inr (lV.mono h agg rs e k)
theorem aIw.mono {S S':Sto}(h:S.le S') (agg:Bool):∀(l:List (List C)) (es:Array MapEntry),aIw S agg l es→aIw S' agg l es
 | [],_,k=>by simp only[aIw] at k
 | r::rs,es,k=>by
  simp only[aIw] at k ⊢;exact⟨k.1,fun e he=>lV.mono h agg rs e (k.2.1 e he),k.2.2⟩
end
theorem cZ.length {S:Sto}:∀{c:List C}{v:List Value},cZ S c v→v.length=c.length
 | [],_,k=>by simp only[cZ] at k;subst k;rfl
 | _::cs,_,k=>by
  simp only[cZ] at k;obtain⟨v,vs',rfl,_,h⟩:=k;simp[cZ.length h]
theorem cZ.append {S:Sto}:∀{a:List C}{x:List Value}{b:List C}{y:List Value},cZ S a x→cZ S b y→cZ S (a++b) (x++y)
 | [],_,_,_,h,k=>by simp only[cZ] at h;subst h;simpa using k
 | _::_,_,_,_,h,k=>by
  simp only[cZ,Bc] at h ⊢;obtain⟨v,vs',rfl,h1,h2⟩:=h;exact⟨v,vs'++_,rfl,h1,h2.append k⟩
theorem cZ.take {S:Sto}:∀{a:List C}{x:List Value}(n:Nat),cZ S a x→cZ S (a.take n) (x.take n)
 | _,_,0,_=>by simp[cZ]
 | [],_,n+1,h=>by simp only[cZ] at h;subst h;simp[cZ]
 | _::_,_,n+1,h=>by
  simp only[cZ,Ar] at h ⊢;obtain⟨v,vs',rfl,h1,h2⟩:=h;exact⟨v,vs'.take n,by simp,h1,h2.take n⟩
theorem cZ.drop {S:Sto}:∀{a:List C}{x:List Value}(n:Nat),cZ S a x→cZ S (a.drop n) (x.drop n)
 | _,_,0,h=>by simpa using h
 | [],_,n+1,h=>by simp only[cZ] at h;subst h;simp[cZ]
 | _::_,_,n+1,h=>by
  simp only[cZ,Cu] at h ⊢;obtain⟨v,vs',rfl,h1,h2⟩:=h;simpa using h2.drop n
theorem bK.get {S:Sto}{es b:Nat}:∀{l:List (List C)}{o:Nat},bK S es b l o→∀(i:Nat) (r:List C),l[i]?=some r→r.length=es∧∃vs,cZ S r vs∧fR S b (o+i*es) vs
 | [],_,_,i,r,h=>by simp at h
 | x::xs,o,k,i,r,h=>by
  simp only[bK] at k;obtain⟨h1,h2,h3⟩:=k;cases i with
  | zero=>simp at h;subst h;simpa using ⟨h1,h2⟩
  | succ i=>
   simp at h;have:=h3.get i r h;rw[show o+es+i*es=o+(i+1)*es by rw[Ay];omega] at this;exact this
theorem bK.drop {S:Sto}{es b:Nat}:∀{l:List (List C)}{o:Nat}(n:Nat),bK S es b l o→bK S es b (l.drop n) (o+n*es)
 | _,_,0,h=>by simpa using h
 | [],_,n+1,_=>by simp[bK]
 | x::xs,o,n+1,h=>by
  simp only[bK,Cu] at h ⊢;have:=h.2.2.drop n;rw[show o+es+n*es=o+(n+1)*es by rw[Ay];omega] at this;exact this
theorem bK.take {S:Sto}{es b:Nat}:∀{l:List (List C)}{o:Nat}(n:Nat),bK S es b l o→bK S es b (l.take n) o
 | _,_,0,_=>by simp[bK]
 | [],_,n+1,_=>by simp[bK]
 | x::xs,o,n+1,h=>by
  simp only[bK,Ar] at h ⊢;exact⟨h.1,h.2.1,h.2.2.take n⟩
theorem bK.of_flat {S:Sto}{es b:Nat}:∀{l:List (List C)}{o:Nat}{vs:List Value},(∀r∈l,r.length=es)→cZ S l.flatten vs→fR S b o vs→bK S es b l o
 | [],_,_,_,_,_=>by simp[bK]
 | r::rs,o,vs,hl,h,hc=>by
  have q:r.length=es:=hl r (by simp);simp only[bK,Bf] at h ⊢;have h1:=h.take r.length;have h2:=h.drop r.length;simp only[take_left',List.drop_left'] at h1 h2;refine⟨q,⟨_,h1,fun i v e=>?_⟩,bK.of_flat (fun x hx=>hl x (by simp[hx])) h2 fun i v e=>?_⟩
  ·rw[At] at e;split at e
   ·exact hc i v e
   ·cases e
  ·rw[An,q] at e;have:=hc (es+i) v e;rwa [←Co] at this
inductive R where
 | c (x:C)
 | hs (id off len sz:Nat)
 | tl (id off len sz:Nat)
 | vp (id off:Nat)
 | ep (id i fo sz:Nat)
 | mr (id:Nat)
 | clo (f:FuncId) (caps:List R)
 | mth (f:FuncId) (recv:R)
 | yl (id:Nat)
 | ra (id off len sz:Nat)
 | rp (id i fo sz:Nat)
 | ras (n es:Nat) (l:List R)
 | pas (l:List R)
 deriving Inhabited
inductive V where
 | one (r:R)
 | pa (l:List C)
 | ma (l:List R)
 | tup (l:List V)
 deriving Inhabited
structure LI where
 n:Nat
 params:Array Tmp
 asg:Code
 body:Code
 deriving Inhabited
inductive AObj where
 | var (t:TypeId) (cells:List R)
 | arr (te es:Nat) (elems:List (List C)) (fz:Nat)
 | map (agg:Bool) (ents:List (List C))
 | dead
 | lp (st:LoopState) (jump:Option Code) (i:LI) (e:List (Nat×V))
 | dfr
 | rarr (te es:Nat) (elems:List (List R))
 | tok (r:R) (k:List UInt8)
 deriving Inhabited
abbrev c7:=Nat→Option AObj
abbrev Mu:=Nat→Option (Nat×Nat×Nat)
mutual
def b6 (S:Sto) (μ:Mu) (H:c7):R→Value→Prop
 | .c x,v=>Rep S x v
 | .hs id off len sz,v=>(∃a l c,v=.slice a l c)∧(H id=some .dead∨∃te es elems fz,H id=some (.arr te es elems fz)∧sz≤elems.length∧
   (sz=elems.length→off+len≤sz∧((μ id=none∧elems=[]∧v=.slice none 0 0)∨∃b base cap,μ id=some (b,base,cap)∧v=.slice (some ⟨b,base+off*es,none⟩) len (cap-off))))
 | .tl id off len sz,v=>(∃a l c,v=.slice a l c)∧(H id=some .dead∨∃te es elems fz,H id=some (.arr te es elems fz)∧sz≤elems.length∧
   (sz=elems.length→off+len=sz∧∃b base cap,μ id=some (b,base,cap)∧off≤cap∧v=.slice (some ⟨b,if cap=off then base else base+off*es,none⟩) len (cap-off)))
 | .vp id off,v=>∃t cells b c,H id=some (.var t cells)∧μ id=some (b,c)∧v=.pointer (some ⟨b,off,none⟩)
 | .ep id i fo sz,v=>(∃a,v=.pointer a)∧(H id=some .dead∨∃te es elems fz,H id=some (.arr te es elems fz)∧sz≤elems.length∧
   (sz=elems.length→i<sz∧∃b base cap,μ id=some (b,base,cap)∧v=.pointer (some ⟨b,base+i*es+fo,none⟩)))
 | .mr id,v=>∃agg ents b c,H id=some (.map agg ents)∧μ id=some (b,c)∧v=.map (some b)
 | .clo f caps,v=>∃vs,v=.func (.func f) #[] ⟨vs⟩∧aW S μ H caps vs
 | .mth f recv,v=>∃u,v=.func (.func f) #[u] #[]∧b6 S μ H recv u
 | .yl id,v=>∃st j i e b c,H id=some (.lp st j i e)∧μ id=some (b,c)∧v=.func (.yield b) #[] #[]
 | .ra id off len sz,v=>(∃a l c,v=.slice a l c)∧(H id=some .dead∨∃te es elems,H id=some (.rarr te es elems)∧sz≤elems.length∧
   (sz=elems.length→off+len≤sz∧((μ id=none∧elems=[]∧v=.slice none 0 0)∨∃b base cap,μ id=some (b,base,cap)∧v=.slice (some ⟨b,base+off*es,none⟩) len (cap-off))))
 | .rp id i fo sz,v=>(∃a,v=.pointer a)∧(H id=some .dead∨∃te es elems,H id=some (.rarr te es elems)∧sz≤elems.length∧
   (sz=elems.length→i<sz∧∃b base cap,μ id=some (b,base,cap)∧v=.pointer (some ⟨b,base+i*es+fo,none⟩)))
 | .ras n es l,v=>∃a cap,v=.slice a n cap∧n*es=l.length∧n≤cap∧cap≤maxLen∧(a=none→n=0∧cap=0)∧(∀ad,a=some ad→ad.spot=none)∧∃b o,(∀ad,a=some ad→ad.block=b∧ad.off=o)∧
   ∃vs,aW S μ H l vs∧fR S b o vs
 | .pas l,v=>∃b o,v=.pointer (some ⟨b,o,none⟩)∧∃vs,aW S μ H l vs∧fR S b o vs
def aW (S:Sto) (μ:Mu) (H:c7):List R→List Value→Prop
 | [],vs=>vs=[]
 | r::rs,vs=>∃v vs',vs=v::vs'∧b6 S μ H r v∧aW S μ H rs vs'
end
mutual
def aT (S:Sto) (μ:Mu) (H:c7):V→Value→Prop
 | .one r,v=>b6 S μ H r v
 | .pa l,v=>∃vs,v=.agg ⟨vs⟩∧cZ S l vs
 | .ma l,v=>∃vs,v=.agg ⟨vs⟩∧aW S μ H l vs
 | .tup l,v=>∃vs,v=.tuple ⟨vs⟩∧bG S μ H l vs
def bG (S:Sto) (μ:Mu) (H:c7):List V→List Value→Prop
 | [],vs=>vs=[]
 | r::rs,vs=>∃v vs',vs=v::vs'∧aT S μ H r v∧bG S μ H rs vs'
end
def kJ:List (List C)→Prop
 | []=>True
 | (.str _::_)::r=>kJ r
 | _::_=>False
def u7 (S:Sto) (agg:Bool) (ents:List (List C)) (es:List MapEntry):Prop:=(ents=[[]]∧∃e',kJ e'∧b7 S agg e' es)∨b7 S agg ents es∨∃T,ents=[]::T∧T≠[]∧∀e∈es,lV S agg T e
theorem u7.mono {S S':Sto}(h:S.le S') {agg:Bool}{ents:List (List C)}{es:List MapEntry}(k:u7 S agg ents es):u7 S' agg ents es:=
 k.imp (fun⟨h1,e',h2,h3⟩=>⟨h1,e',h2,b7.mono h _ _ _ h3⟩) fun k=>k.imp (b7.mono h _ _ _) fun⟨T,h1,h2,h3⟩=>⟨T,h1,h2,fun e he=>lV.mono h _ _ _ (h3 e he)⟩
theorem u7.rep {S:Sto}{agg:Bool}{ents:List (List C)}{es:List MapEntry}(hm:kJ ents) (k:u7 S agg ents es):b7 S agg ents es:=
 k.elim (fun h=>by rw[h.1] at hm;simp[kJ] at hm) fun k=>k.elim id fun⟨T,h,_⟩=>by rw[h] at hm;simp[kJ] at hm
def aBn (S:Sto) (b:Nat) (ents:List (List C)):Prop:=S.mapo b=none∨∃T ks,ents=[]::T∧T≠[]∧S.mapo b=some (.part ks)
theorem aBn.kn0 {S:Sto}{b:Nat}{ents:List (List C)}(h:aBn S b ents) (hm:kJ ents):S.mapo b=none:=by
 rcases h with h | ⟨T,ks,h,_⟩
 ·exact h
 ·rw[h] at hm;simp[kJ] at hm
theorem aBn.of_eq {S S':Sto}{b:Nat}{ents:List (List C)}(h:aBn S b ents) (e:S'.mapo b=S.mapo b):aBn S' b ents:=
 h.imp (fun h=>e.trans h) fun⟨T,ks,h1,h2,h3⟩=>⟨T,ks,h1,h2,e.trans h3⟩
def lW (S:Sto) (μ:Mu) (H:c7) (w:World) (id:Nat):AObj→Prop
 | .var t cells=>∃b vs,μ id=some (b,0,0)∧w.heap[b]?=some (.cells ⟨vs⟩ t (0,0))∧aW S μ H cells vs∧(∀o,S.cell b o=none)∧S.mapo b=none
 | .arr te es elems fz=>(∀r∈elems,r.length=es)∧((μ id=none∧elems=[])∨∃b base cap vs,μ id=some (b,base,cap)∧w.heap[b]?=some (.cells ⟨vs⟩ te (0,0))∧
   base+cap*es≤vs.length∧elems.length≤cap∧(cap≤maxLen∧S.mapo b=none)∧cZ S elems.flatten ((vs.drop base).take (elems.length*es))∧
   (fz=0→∀o,base≤o→S.cell b o=none)∧(∀o,base+elems.length*es≤o→S.cell b o=none)∧(fz=2→fR S b base ((vs.drop base).take (elems.length*es))))
 | .map agg ents=>∃b es clk,μ id=some (b,0,0)∧w.heap[b]?=some (.map es clk)∧u7 S agg ents es.toList∧aBn S b ents
 | .dead=>μ id=none
 | .lp st j i e=>∃b r fn tmps,μ id=some (b,0,0)∧w.heap[b]?=some (.loop { state:=st,pending:=j,fn:=fn,tmps:=tmps,params:=i.params,assign:=i.asg,body:=i.body,defers:=r })∧
   tmps.size=i.n∧(∀t v,(t,v)∈e→aT S μ H v (tmps.getD t undef))∧(∀o,S.cell b o=none)∧S.mapo b=none
 | .dfr=>∃b,μ id=some (b,0,0)∧w.heap[b]?=some (.deferred (some []))∧(∀o,S.cell b o=none)∧S.mapo b=none
 | .rarr te es elems=>(∀r∈elems,r.length=es)∧((μ id=none∧elems=[])∨∃b base cap vs,μ id=some (b,base,cap)∧w.heap[b]?=some (.cells ⟨vs⟩ te (0,0))∧
   base+cap*es≤vs.length∧elems.length≤cap∧(cap≤maxLen∧S.mapo b=none)∧aW S μ H elems.flatten ((vs.drop base).take (elems.length*es))∧(∀o,base≤o→S.cell b o=none))
 | .tok r k=>μ id=none∧∃b,b6 S μ H r (.map (some b))∧∃m,S.mapo b=some m∧m.has k
def AObj.succ (same:Prop):AObj→AObj→Prop
 | .var _ _,.var _ _=>same
 | .arr _ es l _,.arr _ es' l' _=>es=es'∧l.length≤l'.length∧(l.length=l'.length→same)
 | .map _ _,.map _ _=>same
 | .arr _ _ _ _,.dead=>True
 | .dead,.dead=>True
 | .lp _ _ _ _,.lp _ _ _ _=>same
 | .dfr,.dfr=>same
 | .rarr _ es l,.rarr _ es' l'=>es=es'∧l.length≤l'.length∧(l.length=l'.length→same)
 | .rarr _ _ _,.dead=>True
 | .tok _ k,.tok _ k'=>k=k'
 | _,_=>False
structure Evolve (S:Sto) (μ:Mu) (H:c7) (S':Sto) (μ':Mu) (H':c7):Prop where
 le:S.le S'
 obj:∀id o,H id=some o→∃o',H' id=some o'∧o.succ (μ' id=μ id) o'
structure Evo0 (S:Sto) (μ:Mu) (H:c7) (S':Sto) (μ':Mu) (H':c7):Prop where
 le:S.le S'
 obj:∀id o,H id=some o→o≠ .dfr→∃o',H' id=some o'∧o.succ (μ' id=μ id) o'
theorem Evolve.weak {S:Sto}{μ:Mu}{H:c7}{S':Sto}{μ':Mu}{H':c7}(E:Evolve S μ H S' μ' H'):Evo0 S μ H S' μ' H':=⟨E.le,fun id o h _=>E.obj id o h⟩
theorem AObj.succ_refl (o:AObj) {p:Prop}(h:p):o.succ p o:=by cases o<;>simp[AObj.succ,h]
theorem AObj.succ_dead {o:AObj}{p:Prop}(h:AObj.dead.succ p o):o=.dead:=by cases o<;>simp only[AObj.succ] at h;rfl
theorem AObj.succ_trans {a b c:AObj}{p q r:Prop}(h:a.succ p b) (k:b.succ q c) (I:p→q→r):a.succ r c:=by
  cases a<;>cases b<;>simp only[AObj.succ] at h<;>cases c<;>simp only[AObj.succ] at k ⊢
  all_goals first
    | exact I h k
    | trivial
    | exact h.trans k
    | (obtain⟨h1,h2,h3⟩:=h
       obtain⟨J,N,O⟩:=k
       exact⟨h1.trans J,le_trans h2 N,fun e=>I (h3 (by omega)) (O (by omega))⟩)
theorem Evolve.refl (S:Sto) (μ:Mu) (H:c7):Evolve S μ H S μ H:=⟨S.le_refl,fun _ o h=>⟨o,h,o.succ_refl rfl⟩⟩
theorem Evolve.trans {S S' S'':Sto}{μ μ' q:Mu}{H H' H'':c7}(h:Evolve S μ H S' μ' H') (k:Evolve S' μ' H' S'' q H''):Evolve S μ H S'' q H'':=
 ⟨Sto.le_trans h.le k.le,fun id o ho=>by
  obtain⟨o',h1,h2⟩:=h.obj id o ho;obtain⟨I,J,N⟩:=k.obj id o' h1
  exact⟨I,J,AObj.succ_trans h2 N fun e f=>f.trans e⟩⟩
section
variable {S S':Sto}{μ μ':Mu}{H H':c7}
mutual
theorem b6.evolve0 (E:Evo0 S μ H S' μ' H'):∀(r:R) (v:Value),b6 S μ H r v→b6 S' μ' H' r v
 | .c x,v,k=>by simp only[b6] at k ⊢;exact Rep.mono E.le x v k
 | .hs id off len sz,v,k=>by
  simp only[b6] at k ⊢;obtain⟨kk,k⟩:=k;refine⟨kk,?_⟩;rcases k with k | ⟨te,es,elems,fz,h1,h2,h3⟩
  ·obtain⟨o',h4,h5⟩:=E.obj _ _ k (by simp);exact .inl (by rw[h4,AObj.succ_dead h5])
  obtain⟨o',h4,h5⟩:=E.obj _ _ h1 (by simp);cases o' with
  | arr q W elems' N=>
   simp only[AObj.succ] at h5;obtain⟨rfl,I,h7⟩:=h5;refine .inr ⟨q,es,elems',N,h4,le_trans h2 I,fun e=>?_⟩;have Y:sz=elems.length:=by omega
   obtain⟨J,O⟩:=h3 Y;have hm:=h7 (by omega);refine⟨J,?_⟩;rcases O with⟨g1,g2,g3⟩ | ⟨b,base,cap,g1,g2⟩
   ·refine .inl ⟨by rw[hm,g1],?_,g3⟩;subst g2;simp only[length_nil] at Y I;exact A7 (by omega)
   ·exact .inr ⟨b,base,cap,by rw[hm,g1],g2⟩
  | dead=>exact .inl h4
  | _=>simp only[AObj.succ] at h5
 | .tl id off len sz,v,k=>by
  simp only[b6] at k ⊢;obtain⟨kk,k⟩:=k;refine⟨kk,?_⟩;rcases k with k | ⟨te,es,elems,fz,h1,h2,h3⟩
  ·obtain⟨o',h4,h5⟩:=E.obj _ _ k (by simp);exact .inl (by rw[h4,AObj.succ_dead h5])
  obtain⟨o',h4,h5⟩:=E.obj _ _ h1 (by simp);cases o' with
  | arr q W elems' N=>
   simp only[AObj.succ] at h5;obtain⟨rfl,I,h7⟩:=h5;refine .inr ⟨q,es,elems',N,h4,le_trans h2 I,fun e=>?_⟩;obtain⟨J,b,base,cap,g1,g2⟩:=h3 (by omega);exact⟨J,b,base,cap,by rw[h7 (by omega),g1],g2⟩
  | dead=>exact .inl h4
  | _=>simp only[AObj.succ] at h5
 | .vp id off,v,k=>by
  simp only[b6] at k ⊢;obtain⟨t,cells,b,c,h1,h2,h3⟩:=k;obtain⟨o',h4,h5⟩:=E.obj _ _ h1 (by simp);cases o' with
  | var t' cells'=>simp only[AObj.succ] at h5;exact⟨t',cells',b,c,h4,by rw[h5,h2],h3⟩
  | _=>simp only[AObj.succ] at h5
 | .ep id i fo sz,v,k=>by
  simp only[b6] at k ⊢;obtain⟨kk,k⟩:=k;refine⟨kk,?_⟩;rcases k with k | ⟨te,es,elems,fz,h1,h2,h3⟩
  ·obtain⟨o',h4,h5⟩:=E.obj _ _ k (by simp);exact .inl (by rw[h4,AObj.succ_dead h5])
  obtain⟨o',h4,h5⟩:=E.obj _ _ h1 (by simp);cases o' with
  | arr q W elems' N=>
   simp only[AObj.succ] at h5;obtain⟨rfl,I,h7⟩:=h5;refine .inr ⟨q,es,elems',N,h4,le_trans h2 I,fun e=>?_⟩;obtain⟨J,b,base,cap,g1,g2⟩:=h3 (by omega);exact⟨J,b,base,cap,by rw[h7 (by omega),g1],g2⟩
  | dead=>exact .inl h4
  | _=>simp only[AObj.succ] at h5
 | .mr id,v,k=>by
  simp only[b6] at k ⊢;obtain⟨agg,ents,b,c,h1,h2,h3⟩:=k;obtain⟨o',h4,h5⟩:=E.obj _ _ h1 (by simp);cases o' with
  | map aa Z=>simp only[AObj.succ] at h5;exact⟨aa,Z,b,c,h4,by rw[h5,h2],h3⟩
  | _=>simp only[AObj.succ] at h5
 | .clo f caps,v,k=>by
  simp only[b6] at k ⊢;obtain⟨vs,h1,h2⟩:=k;exact⟨vs,h1,aW.evolve0 E caps vs h2⟩
 | .mth f recv,v,k=>by
  simp only[b6] at k ⊢;obtain⟨u,h1,h2⟩:=k;exact⟨u,h1,b6.evolve0 E recv u h2⟩
 | .rp id i fo sz,v,k=>by
  simp only[b6] at k ⊢;obtain⟨kk,k⟩:=k;refine⟨kk,?_⟩;rcases k with k | ⟨te,es,elems,h1,h2,h3⟩
  ·obtain⟨o',h4,h5⟩:=E.obj _ _ k (by simp);exact .inl (by rw[h4,AObj.succ_dead h5])
  obtain⟨o',h4,h5⟩:=E.obj _ _ h1 (by simp);cases o' with
  | rarr q W elems'=>
   simp only[AObj.succ] at h5;obtain⟨rfl,I,h7⟩:=h5;refine .inr ⟨q,es,elems',h4,le_trans h2 I,fun e=>?_⟩;obtain⟨J,b,base,cap,g1,g2⟩:=h3 (by omega);exact⟨J,b,base,cap,by rw[h7 (by omega),g1],g2⟩
  | dead=>exact .inl h4
  | _=>simp only[AObj.succ] at h5
 | .yl id,v,k=>by
  simp only[b6] at k ⊢;obtain⟨st,j,i,e,b,c,h1,h2,h3⟩:=k;obtain⟨o',h4,h5⟩:=E.obj _ _ h1 (by simp);cases o' with
  | lp st' j' i' e'=>simp only[AObj.succ] at h5;exact⟨st',j',i',e',b,c,h4,by rw[h5,h2],h3⟩
  | _=>simp only[AObj.succ] at h5
 | .ra id off len sz,v,k=>by
  simp only[b6] at k ⊢;obtain⟨kk,k⟩:=k;refine⟨kk,?_⟩;rcases k with k | ⟨te,es,elems,h1,h2,h3⟩
  ·obtain⟨o',h4,h5⟩:=E.obj _ _ k (by simp);exact .inl (by rw[h4,AObj.succ_dead h5])
  obtain⟨o',h4,h5⟩:=E.obj _ _ h1 (by simp);cases o' with
  | rarr q W elems'=>
   simp only[AObj.succ] at h5;obtain⟨rfl,I,h7⟩:=h5;refine .inr ⟨q,es,elems',h4,le_trans h2 I,fun e=>?_⟩;have Y:sz=elems.length:=by omega
   obtain⟨J,O⟩:=h3 Y;have hm:=h7 (by omega);refine⟨J,?_⟩;rcases O with⟨g1,g2,g3⟩ | ⟨b,base,cap,g1,g2⟩
   ·refine .inl ⟨by rw[hm,g1],?_,g3⟩;subst g2;simp only[length_nil] at Y I;exact A7 (by omega)
   ·exact .inr ⟨b,base,cap,by rw[hm,g1],g2⟩
  | dead=>exact .inl h4
  | _=>simp only[AObj.succ] at h5
 | .ras n es l,v,k=>by
  simp only[b6] at k ⊢;obtain⟨a,cap,h1,h2,h3,h4,h5,I,b,o,h7,vs,J,O⟩:=k;exact⟨a,cap,h1,h2,h3,h4,h5,I,b,o,h7,vs,aW.evolve0 E l vs J,O.mono E.le⟩
 | .pas l,v,k=>by
  simp only[b6] at k ⊢;obtain⟨b,o,h1,vs,J,O⟩:=k;exact⟨b,o,h1,vs,aW.evolve0 E l vs J,O.mono E.le⟩
theorem aW.evolve0 (E:Evo0 S μ H S' μ' H'):∀(r:List R) (v:List Value),aW S μ H r v→aW S' μ' H' r v
 | [],_,k=>by simpa [aW] using k
 | r::rs,vs,k=>by
  simp only[aW] at k ⊢;obtain⟨v,vs',h1,h2,h3⟩:=k;exact⟨v,vs',h1,b6.evolve0 E r v h2,aW.evolve0 E rs vs' h3⟩
end
mutual
theorem aT.evolve0 (E:Evo0 S μ H S' μ' H'):∀(r:V) (v:Value),aT S μ H r v→aT S' μ' H' r v
 | .one r,v,k=>by simp only[aT] at k ⊢;exact b6.evolve0 E r v k
 | .pa l,v,k=>by
  simp only[aT] at k ⊢;obtain⟨vs,h1,h2⟩:=k;exact⟨vs,h1,cZ.mono E.le l vs h2⟩
 | .ma l,v,k=>by
  simp only[aT] at k ⊢;obtain⟨vs,h1,h2⟩:=k;exact⟨vs,h1,aW.evolve0 E l vs h2⟩
 | .tup l,v,k=>by
  simp only[aT] at k ⊢;obtain⟨vs,h1,h2⟩:=k;exact⟨vs,h1,bG.evolve0 E l vs h2⟩
theorem bG.evolve0 (E:Evo0 S μ H S' μ' H'):∀(r:List V) (v:List Value),bG S μ H r v→bG S' μ' H' r v
 | [],_,k=>by simpa [bG] using k
 | r::rs,vs,k=>by
  simp only[bG] at k ⊢;obtain⟨v,vs',h1,h2,h3⟩:=k;exact⟨v,vs',h1,aT.evolve0 E r v h2,bG.evolve0 E rs vs' h3⟩
end
theorem aW.evolve (E:Evolve S μ H S' μ' H') (r:List R) (v:List Value) (k:aW S μ H r v):aW S' μ' H' r v:=aW.evolve0 E.weak r v k
theorem aT.evolve (E:Evolve S μ H S' μ' H') (r:V) (v:Value) (k:aT S μ H r v):aT S' μ' H' r v:=aT.evolve0 E.weak r v k
theorem bG.evolve (E:Evolve S μ H S' μ' H') (r:List V) (v:List Value) (k:bG S μ H r v):bG S' μ' H' r v:=bG.evolve0 E.weak r v k
end
structure Ctx where
 w0:World
 S0:Sto
 F:Nat→Prop
 μ0:Mu
 h0:c7
structure FrameW (w0:World) (F:Nat→Prop) (w:World):Prop where
 os:w.os=w0.os
 tape:w.tape=w0.tape
 output:w.output=w0.output
 size:w0.heap.size≤w.heap.size
 block:∀k,k<w0.heap.size→¬F k→w.heap[k]?=w0.heap[k]?
 tab:a04 w0 F
def Holds (S:Sto) (w:World):Prop:=
 (∀b o v,S.cell b o=some v→∃vs t fr,w.heap[b]?=some (.cells vs t fr)∧vs[o]?=some v)∧(∀b m,S.mapo b=some m→m.holds w.heap[b]?)
structure Inv (G:Ctx) (S:Sto) (μ:Mu) (H:c7) (w:World):Prop where
 holds:Holds S w
 obj:∀id o,H id=some o→lW S μ H w id o
 inj:∀i j o o' b c c',H i=some o→H j=some o'→μ i=some (b,c)→μ j=some (b,c')→i=j
 own:∀i o b c,H i=some o→μ i=some (b,c)→G.w0.heap.size≤b∨G.F b
 frame:FrameW G.w0 G.F w
 sle:G.S0.le S
 sto:∀b,b<G.w0.heap.size→¬G.F b→(∀o,S.cell b o=G.S0.cell b o)∧S.mapo b=G.S0.mapo b
 evo:Evolve G.S0 G.μ0 G.h0 S μ H
 fre:S.free
theorem FrameW.refl (w:World) (F:Nat→Prop) (h:a04 w F):FrameW w F w:=⟨rfl,rfl,rfl,le_refl _,fun _ _ _=>rfl,h⟩
theorem FrameW.tabAt {w0 w:World}{F:Nat→Prop}(h:FrameW w0 F w):aR3 w:=fun g q=>by
 obtain⟨h1,t,fr,h2⟩:=h.tab.1 g q;exact⟨Cv h1 h.size,t,fr,by rw[h.block g h1 (h.tab.2 g q)];exact h2⟩
theorem lW.lt {S:Sto}{μ:Mu}{H:c7}{w:World}{id:Nat}{o:AObj}(h:lW S μ H w id o) {b:Nat}{c:Nat×Nat}(hm:μ id=some (b,c)):b<w.heap.size:=by
 have hl:∀{x:Obj},w.heap[b]?=some x→b<w.heap.size:=fun e=>(Cm.1 e).1
 cases o with
 | var t cells=>
  obtain⟨q,vs,h1,h2,_⟩:=h;rw[hm] at h1;cases h1;exact hl h2
 | arr te es elems fz=>
  obtain⟨_,⟨h1,_⟩ | ⟨q,base,cap,vs,h1,h2,_⟩⟩:=h
  ·rw[hm] at h1;cases h1
  ·rw[hm] at h1;cases h1;exact hl h2
 | map agg ents=>
  obtain⟨q,es,clk,h1,h2,_⟩:=h;rw[hm] at h1;cases h1;exact hl h2
 | dead=>rw[show μ id=none from h] at hm;cases hm
 | lp st j i e=>
  obtain⟨q,r,fn,tmps,h1,h2,_⟩:=h;rw[hm] at h1;cases h1;exact hl h2
 | dfr=>
  obtain⟨q,h1,h2,_⟩:=h;rw[hm] at h1;cases h1;exact hl h2
 | rarr te es elems=>
  obtain⟨_,⟨h1,_⟩ | ⟨q,base,cap,vs,h1,h2,_⟩⟩:=h
  ·rw[hm] at h1;cases h1
  ·rw[hm] at h1;cases h1;exact hl h2
 | tok r k=>rw[h.1] at hm;cases hm
theorem lW.evolve0 {S S':Sto}{μ μ':Mu}{H H':c7}{w w':World}{id:Nat}{o:AObj}(E:Evo0 S μ H S' μ' H') (h:lW S μ H w id o) (hm:μ' id=μ id)
  (hw:∀b c,μ id=some (b,c)→w'.heap[b]?=w.heap[b]?∧(∀o,S'.cell b o=S.cell b o)∧S'.mapo b=S.mapo b):lW S' μ' H' w' id o:=by
 cases o with
 | var t cells=>
  obtain⟨b,vs,h1,h2,h3,h4⟩:=h;obtain⟨g1,g2,g3⟩:=hw _ _ h1;exact⟨b,vs,by rw[hm,h1],by rw[g1,h2],aW.evolve0 E _ _ h3,fun o=>by rw[g2,h4.1],by rw[g3,h4.2]⟩
 | arr te es elems fz=>
  obtain⟨h0,⟨h1,h2⟩ | ⟨b,base,cap,vs,h1,h2,h3,h4,h5,q,h7,I,J⟩⟩:=h
  ·exact⟨h0,.inl ⟨by rw[hm,h1],h2⟩⟩
  ·obtain⟨g1,g2,g3⟩:=hw _ _ h1;exact⟨h0,.inr ⟨b,base,cap,vs,by rw[hm,h1],by rw[g1,h2],h3,h4,⟨h5.1,by rw[g3,h5.2]⟩,cZ.mono E.le _ _ q,fun e o ho=>by rw[g2,h7 e o ho],fun o e=>by rw[g2,I o e],fun e=>(J e).mono E.le⟩⟩
 | map agg ents=>
  obtain⟨b,es,clk,h1,h2,h3,h4⟩:=h;obtain⟨g1,g2,g3⟩:=hw _ _ h1;exact⟨b,es,clk,by rw[hm,h1],by rw[g1,h2],u7.mono E.le h3,h4.of_eq g3⟩
 | dead=>exact hm.trans h
 | lp st j i e=>
  obtain⟨b,r,fn,tmps,h1,h2,h3,h4,h5,q⟩:=h;obtain⟨g1,g2,g3⟩:=hw _ _ h1;exact⟨b,r,fn,tmps,by rw[hm,h1],by rw[g1,h2],h3,fun t v ht=>aT.evolve0 E _ _ (h4 t v ht),fun o=>by rw[g2,h5],by rw[g3,q]⟩
 | dfr=>
  obtain⟨b,h1,h2,h3,h4⟩:=h;obtain⟨g1,g2,g3⟩:=hw _ _ h1;exact⟨b,by rw[hm,h1],by rw[g1,h2],fun o=>by rw[g2,h3],by rw[g3,h4]⟩
 | rarr te es elems=>
  obtain⟨h0,⟨h1,h2⟩ | ⟨b,base,cap,vs,h1,h2,h3,h4,h5,q,h7⟩⟩:=h
  ·exact⟨h0,.inl ⟨by rw[hm,h1],h2⟩⟩
  ·obtain⟨g1,g2,g3⟩:=hw _ _ h1;exact⟨h0,.inr ⟨b,base,cap,vs,by rw[hm,h1],by rw[g1,h2],h3,h4,⟨h5.1,by rw[g3,h5.2]⟩,aW.evolve0 E _ _ q,fun o ho=>by rw[g2,h7 o ho]⟩⟩
 | tok r k=>
  obtain⟨h1,b,h2,m,h3,h4⟩:=h;obtain⟨N,h5,q⟩:=E.le.2 b m h3;exact⟨by rw[hm,h1],b,b6.evolve0 E _ _ h2,N,h5,MK.le_has q h4⟩
theorem lW.evolve {S S':Sto}{μ μ':Mu}{H H':c7}{w w':World}{id:Nat}{o:AObj}(E:Evolve S μ H S' μ' H') (h:lW S μ H w id o) (hm:μ' id=μ id)
  (hw:∀b c,μ id=some (b,c)→w'.heap[b]?=w.heap[b]?∧(∀o,S'.cell b o=S.cell b o)∧S'.mapo b=S.mapo b):lW S' μ' H' w' id o:=lW.evolve0 E.weak h hm hw
def upd {α:Type}(f:Nat→Option α) (k:Nat) (x:Option α):Nat→Option α:=fun i=>if Nat.beq i k then x else f i
theorem aI {α:Type}(f:Nat→Option α) (k:Nat) (x:Option α):upd f k x k=x:=by simp[upd]
theorem aS {α:Type}(f:Nat→Option α) (k:Nat) (x:Option α) {i:Nat}(h:i≠k):upd f k x i=f i:=by
 have:Nat.beq i k=false:=by
  cases hb:Nat.beq i k with
  | false=>rfl
  | true=>exact absurd (ε hb) h
 simp[upd,this]
structure WChg (w w':World) (b:Nat) (o:Obj):Prop where
 os:w'.os=w.os
 tape:w'.tape=w.tape
 output:w'.output=w.output
 size:w.heap.size≤w'.heap.size
 new:w'.heap[b]?=some o
 old:∀k,k<w.heap.size→k≠b→w'.heap[k]?=w.heap[k]?
theorem WChg.alloc (w:World) (o:Obj):WChg w (w.alloc o) w.heap.size o:=
 ⟨rfl,rfl,rfl,by simp,B4 w o,fun k hk _=>RowKit.Below.heap_alloc w o k hk⟩
theorem WChg.alloc_drew (w:World) (o:Obj):WChg w (w.drew.alloc o) w.heap.size o:=
 ⟨rfl,rfl,rfl,by simp,B4 w.drew o,fun k hk _=>RowKit.Below.heap_alloc w.drew o k hk⟩
theorem WChg.setRow (w:World) (g:Nat) (cur cs:Array Value) (t:TypeId) (fr:Nat×Nat) (q:w.heap[g]?=some (.cells cur t fr)):WChg w (w.setRow g cs) g (.cells cs t fr):=
 ⟨rfl,rfl,rfl,by simp,setRow_heap w g cur cs t fr q,fun k _ hk=>setRow_other w g k cs hk⟩
theorem bZ {w:World}{b:Nat}{x:Obj}(e:w.heap[b]?=some x):b<w.heap.size:=(Cm.1 e).1
theorem Inv.chg {G:Ctx}{S:Sto}{μ:Mu}{H:c7}{w w':World}{id b:Nat}{cap:Nat×Nat}{bo:Obj}{ao:AObj}(h:Inv G S μ H w) (hw:WChg w w' b bo)
  (hb:w.heap.size≤b∨(∃o c,H id=some o∧μ id=some (b,c)))
  (hE:Evolve S μ H S (upd μ id (some (b,cap))) (upd H id (some ao)))
  (hO:lW S (upd μ id (some (b,cap))) (upd H id (some ao)) w' id ao)
  (hS:∀o v,S.cell b o=some v→∃vs t fr,bo=.cells vs t fr∧vs[o]?=some v) (hSm:∀m,S.mapo b=some m→w.heap.size≤b):
  Inv G S (upd μ id (some (b,cap))) (upd H id (some ao)) w':=by
 have Z:∀j o,H j=some o→j≠id→∀q c',μ j=some (q,c')→q≠b:=by
  intro j o I hne q c' hm e;subst e;rcases hb with hb | ⟨o',c,h1,h2⟩
  ·have:=(h.obj j o I).lt hm;omega
  ·exact hne (h.inj j id o o' q c' c I h1 hm h2)
 refine⟨⟨?_,?_⟩,?_,?_,?_,?_,h.sle,h.sto,h.evo.trans hE,h.fre⟩
 ·intro q o v e;obtain⟨vs,t,fr,h1,h2⟩:=h.holds.1 q o v e;by_cases W:q=b
  ·subst W;obtain⟨vs',t',fr',h3,h4⟩:=hS o v e;exact⟨vs',t',fr',by rw[hw.new,h3],h4⟩
  ·exact⟨vs,t,fr,by rw[hw.old q (bZ h1) W,h1],h2⟩
 ·intro q m e;have h1:=h.holds.2 q m e;obtain⟨_,h2⟩:=MK.holds_some h1;by_cases W:q=b
  ·subst W;have:=hSm _ e;have:=bZ h2;omega
  ·rw[hw.old q (bZ h2) W];exact h1
 ·intro j o I;by_cases aa:j=id
  ·subst aa;rw[aI] at I;cases I;exact hO
  ·rw[aS _ _ _ aa] at I;refine(h.obj j o I).evolve hE (aS _ _ _ aa) fun q c' hm=>⟨?_,fun _=>rfl,rfl⟩
   exact hw.old q ((h.obj j o I).lt hm) (Z j o I aa q c' hm)
 ·intro i j o o' q c c' hi I N O;by_cases J:i=id<;>by_cases Y:j=id
  ·rw[J,Y]
  ·subst J;rw[aI] at N;cases N;rw[aS _ _ _ Y] at I O;exact absurd rfl (Z j o' I Y _ _ O)
  ·subst Y;rw[aI] at O;cases O;rw[aS _ _ _ J] at hi N;exact absurd rfl (Z i o hi J _ _ N)
  ·rw[aS _ _ _ J] at hi N;rw[aS _ _ _ Y] at I O;exact h.inj i j o o' q c c' hi I N O
 ·intro i o q c hi hm;by_cases J:i=id
  ·subst J;rw[aI] at hm;cases hm;rcases hb with hb | ⟨o',c',h1,h2⟩
   ·exact .inl (le_trans h.frame.size hb)
   ·exact h.own _ _ _ _ h1 h2
  ·rw[aS _ _ _ J] at hi hm;exact h.own _ _ _ _ hi hm
 ·refine⟨hw.os.trans h.frame.os,hw.tape.trans h.frame.tape,hw.output.trans h.frame.output,le_trans h.frame.size hw.size,fun k hk hF=>?_,h.frame.tab⟩;rw[hw.old k (Cv hk h.frame.size) ?_,h.frame.block k hk hF];rintro rfl;rcases hb with hb | ⟨o',c',h1,h2⟩
  ·have:=h.frame.size;omega
  ·rcases h.own _ _ _ _ h1 h2 with h3 | h3
   ·omega
   ·exact hF h3
theorem Inv.same {G:Ctx}{S:Sto}{μ:Mu}{H:c7}{w w':World}(h:Inv G S μ H w) (hh:w'.heap=w.heap) (ho:w'.os=w.os) (ht:w'.tape=w.tape) (hu:w'.output=w.output):Inv G S μ H w':=by
 obtain⟨h1,h2,h3,h4,h5,q,h7,I,J⟩:=h;refine⟨⟨fun b o v e=>by rw[hh];exact h1.1 b o v e,fun b m e=>by rw[hh];exact h1.2 b m e⟩,fun id o e=>(h2 id o e).evolve (Evolve.refl _ _ _) rfl fun b c hm=>⟨by rw[hh],fun _=>rfl,rfl⟩,h3,h4,?_,q,h7,I,J⟩;exact⟨ho.trans h5.os,ht.trans h5.tape,hu.trans h5.output,by rw[hh];exact h5.size,fun k hk N=>by rw[hh];exact h5.block k hk N,h5.tab⟩
theorem Holds.cell {S:Sto}{w:World}(h:Holds S w) {b o:Nat}{v:Value}(e:S.cell b o=some v):w.cell? ⟨b,o,none⟩=some v:=by
 obtain⟨vs,t,fr,h1,h2⟩:=h.1 b o v e;simp[World.cell?,h1,h2]
structure St where
 e:Nat→Option V
 h:c7
 d:List Nat
def Marks (lo:Nat) (μ:Mu) (H:c7):List Nat→List Deferred→Prop
 | [],ds=>ds=[]
 | id::ids,ds=>∃b c ds',ds={ target:=.collected b,args:= #[] }::ds'∧μ id=some (b,c)∧H id=some .dfr∧lo≤b∧id∉ids∧Marks lo μ H ids ds'
theorem Marks.ren {lo:Nat}{μ μ':Mu}{H H':c7}(σ:Nat→Nat):∀{ids:List Nat}{q:List Deferred},Marks lo μ H (ids.map σ) q→(∀id∈ids,H (σ id)=some .dfr→μ' id=μ (σ id)∧H' id=some .dfr)→Marks lo μ' H' ids q
 | [],_,h,_=>h
 | id::ids,_,⟨b,c,I,h1,h2,h3,h5,J,h4⟩,k=>by
  obtain⟨N,O⟩:=k id (by simp) h3;exact⟨b,c,I,h1,by rw[N,h2],O,h5,fun h=>J (Af.2 ⟨_,h,rfl⟩),Marks.ren σ h4 fun i hi=>k i (by simp[hi])⟩
theorem Marks.go {lo:Nat}{μ μ':Mu}{H H':c7}{ids:List Nat}{q:List Deferred}(h:Marks lo μ H ids q) (k:∀id∈ids,H id=some .dfr→μ' id=μ id∧H' id=some .dfr):Marks lo μ' H' ids q:=
 Marks.ren (fun i=>i) (by simpa using h) fun id hid=>k id hid
theorem Marks.evolve {lo:Nat}{S S':Sto}{μ μ':Mu}{H H':c7}(E:Evolve S μ H S' μ' H') {ids:List Nat}{q:List Deferred}(h:Marks lo μ H ids q):Marks lo μ' H' ids q:=
 h.go fun id _ hd=>by
  obtain⟨o',h1,h2⟩:=E.obj id _ hd;cases o' with
  | dfr=>exact⟨h2,h1⟩
  | _=>simp only[AObj.succ] at h2
structure Sim (G:Ctx) (n:Nat) (S:Sto) (μ:Mu) (st:St) (a:Act) (w:World):Prop where
 inv:Inv G S μ st.h w
 size:a.tmps.size=n
 defers:Marks G.w0.heap.size μ st.h st.d a.defers
 env:∀t v,st.e t=some v→aT S μ st.h v (a.tmps.getD t undef)
theorem xH (ts:Array Value) (d t:Nat) (v:Value) (hd:d<ts.size):(ts.setIfInBounds d v).getD t undef=if t=d then v else ts.getD t undef:=by
 simp only[Ax,Bq];by_cases h:d=t
 ·subst h;simp[hd]
 ·have:¬t=d:=fun e=>h e.symm
  simp[h,this]
theorem Sim.put {G:Ctx}{n:Nat}{S S':Sto}{μ μ':Mu}{st:St}{H':c7}{a:Act}{w w':World}(h:Sim G n S μ st a w) (hi:Inv G S' μ' H' w') (q:Evolve S μ st.h S' μ' H') {d:Nat}(hd:d<n) {v:Value}{x:Option V}
  (hv:∀y,x=some y→aT S' μ' H' y v):Sim G n S' μ' ⟨upd st.e d x,H',st.d⟩ (a.put (some d) v) w':=by
 refine⟨hi,by simp[Act.put,h.size],h.defers.evolve q,fun t y e=>?_⟩;show aT S' μ' H' y ((a.tmps.setIfInBounds d v).getD t undef);rw[xH _ _ _ _ (by rw[h.size];exact hd)];by_cases ht:t=d
 ·subst ht;rw[ξ rfl];exact hv y (by simpa [aI] using e)
 ·rw[φ ht];have e':st.e t=some y:=by simpa [aS _ _ _ ht] using e
  exact aT.evolve q y _ (h.env t y e')
theorem Sim.put_none {G:Ctx}{n:Nat}{S S':Sto}{μ μ':Mu}{st:St}{H':c7}{a:Act}{w w':World}(h:Sim G n S μ st a w) (hi:Inv G S' μ' H' w') (q:Evolve S μ st.h S' μ' H') (v:Value):
  Sim G n S' μ' ⟨st.e,H',st.d⟩ (a.put none v) w':=
 ⟨hi,h.size,h.defers.evolve q,fun t y e=>aT.evolve q y _ (h.env t y e)⟩
structure Rd where
 e:List Nat
 h:List Nat
structure Eff where
 d:Option (Nat×Option V)
 h:List (Nat×Option AObj)
def look {α:Type}:List (Nat×α)→Nat→Option α
 | [],_=>none
 | (k,x)::l,i=>if Nat.beq i k then some x else look l i
def updL (f:c7) (l:List (Nat×Option AObj)):c7:=fun i=>match look l i with | some o=>o | none=>f i
theorem aD9 (f:c7):updL f []=f:=rfl
theorem dE (f:c7) (id:Nat) (x:Option AObj):updL f [(id,x)]=upd f id x:=by
 funext i;simp only[look,upd,updL];cases Nat.beq i id<;>rfl
def Eff.apply (f:Eff) (st:St):St:=
 {
   e:=match f.d with | some (t,v)=>upd st.e t v | none=>st.e
   h:=updL st.h f.h
   d:=st.d }
def Eff.we (f:Eff):List Nat:=(f.d.map (·.1)).toList
def Eff.wh (f:Eff):List Nat:=f.h.map (·.1)
def mN (rd:Rd) (st st':St):Prop:=(∀t∈rd.e,st'.e t=st.e t)∧(∀i∈rd.h,st'.h i=st.h i)
theorem mN.refl (rd:Rd) (st:St):mN rd st st:=⟨fun _ _=>rfl,fun _ _=>rfl⟩
def Wd (ro:Option Nat):Fence:={ fn:=fun _=>True,depth:=none,alive:=false,round:=ro }
theorem Wd.fenced (P:Program) (ro:Option Nat) (m:Machine):m.fenced P (Wd ro):=fenced_wide P m
theorem Wd.room (ro:Option Nat) (k:Nat):(Wd ro).room k:=fun _ h=>by simp[Wd] at h
theorem Wd.steps {ro:Option Nat}{P:Program}{m q:Machine}:StepsIn (Machine.fenced P (Wd ro)) P m q↔Steps P m q:=
 ⟨StepsIn.steps,fun h=>(StepsIn.of_steps h).mono fun m _=>Wd.fenced P ro m⟩
theorem Wd.comes {ro:Option Nat}{P:Program}{m q:Machine}{e:Ending}:ComesIn (Machine.fenced P (Wd ro)) P m q e↔Comes P m q e:=by
 cases e with
 | returned v=>exact Wd.steps
 | panicked chain=>exact Wd.steps
 | outgrown=>exact Iff.rfl
theorem Wd.calls {ro:Option Nat}{n:Nat}{P:Program}{f:FuncId}{args:Array Value}{w:World}{R:Ending→World→Prop}:CallsIn (Wd ro) n P f args w R↔Calls P f args w R:=
  ⟨fun h cs=>let ⟨e,w',fr,r,s,x⟩:=h.2 cs (Wd.room _ _);⟨e,w',fr,r,Wd.comes.1 s,x⟩,
   fun h=>⟨trivial,fun cs _=>let ⟨e,w',fr,r,s,x⟩:=h cs;⟨e,w',fr,r,Wd.comes.2 s,x⟩⟩⟩
theorem jU {P:Program}{o:Oper}{ro:Option Nat}{ρ:Operand→Value}{w w':World}{r:Next}(h:(execOp ρ o).run P w=.ok r w') (I:∀d,r≠ .defer d):(o.semAt ro ρ).run P w=.ok r w':=by
 rw[Oper.semAt_eq]
 ·exact h
 ·intro c hc;rw[execOp,hc] at h;simp only[Ad] at h;cases q:(resolve ρ c o.type).run P w with
  | ok d J=>
   rw[q] at h;simp only[Result.andThen,Ae] at h;cases h;exact I _ rfl
  | halt x J=>rw[q] at h;simp[Result.andThen] at h
section
variable {P:Program}{o:Oper}{ro:Option Nat}{a:Act}{w w':World}{K:Act→World→Prop}{Q:Exit→Act→World→Prop}
theorem iG {v:Value}(q:(execOp a.eval o).run P w=.ok (.value v) w') (h:K (a.put o.dst v) w'):o.wpIn (Wd ro) 0 P a w K Q:=by
 refine⟨fun _ _=>trivial,?_⟩;rw[jU q (by simp),Oper.uponIn_value];exact h
theorem yO (q:(execOp a.eval o).run P w=.ok .skip w') (h:K (a.put o.dst undef) w'):o.wpIn (Wd ro) 0 P a w K Q:=by
 refine⟨fun _ _=>trivial,?_⟩;rw[jU q (by simp),Oper.uponIn_skip];exact h
theorem wA {f:FuncId}{args:Array Value}(I:(execOp a.eval o).run P w=.ok (.enter f args) w')
  (h:Calls P f args w' fun
   | .returned v,q=>K (a.put o.dst v) q
   | .panicked chain,q=>Q (.panic chain) a q
   | .outgrown,_=>LetsOut Q):o.wpIn (Wd ro) 0 P a w K Q:=by
 refine⟨fun _ _=>trivial,?_⟩;rw[jU I (by simp),Oper.uponIn_enter];exact⟨fun h=>by simp[Wd] at h,Wd.calls.2 h⟩
end
def Step (P:Program) (n:Nat) (o:Oper) (st:St) (rd:Rd) (f:Eff):Prop:=
 ∀st',mN rd st st'→∀G S μ a w (K:Act→World→Prop) (Q:Exit→Act→World→Prop),Sim G n S μ st' a w→
  (∀S' μ' a' w',Sim G n S' μ' (f.apply st') a' w'→K a' w')→∀ro,o.wpIn (Wd ro) 0 P a w K Q
def GStep (P:Program) (n:Nat) (ops:Array Oper) (i:Nat) (st:St) (rd:Rd) (f:Eff):Prop:=
 ∀st',mN rd st st'→∀G S μ a w (K:Act→World→Prop) (Q:Exit→Act→World→Prop),Sim G n S μ st' a w→
  (∀S' μ' a' w',Sim G n S' μ' (f.apply st') a' w'→K a' w')→∀ro,wpOpIn (Wd ro) 0 P ops Q i K a w
theorem GStep.plain {P:Program}{n:Nat}{ops:Array Oper}{i:Nat}{o:Oper}{st:St}{rd:Rd}{f:Eff}(ho:ops[i]?=some o) (q:o.guard=none) (h:Step P n o st rd f):GStep P n ops i st rd f:=by
 intro st' ha G S μ a w K Q hs hk ro;unfold wpOpIn;simp only[ho];rw[ξ (by simp[Region.wanted,q])];exact h st' ha G S μ a w K Q hs hk ro
theorem getElem?_of_getD {ts:Array Value}{t:Nat}{b:Bool}(h:ts.getD t undef=.bool b):ts[t]?=some (.bool b):=by
 rw[Ax] at h;cases q:ts[t]? with
 | none=>simp[q,undef] at h
 | some v=>simp[q] at h;rw[h]
theorem GStep.yes {P:Program}{n:Nat}{ops:Array Oper}{i j t:Nat}{want b:Bool}{o:Oper}{st:St}{rd:Rd}{f:Eff}(ho:ops[i]?=some o) (J:o.guard=some (j,want)) (N:(ops[j]?).bind (·.dst)=some t)
  (hb:st.e t=some (.one (.c (.bool b)))) (hw:b=want) (h:Step P n o st rd f):GStep P n ops i st ⟨t::rd.e,rd.h⟩ f:=by
 intro st' ha G S μ a w K Q hs hk ro;have q:st'.e t=some (.one (.c (.bool b))):=by rw[ha.1 t (by simp),hb]
 have hv:=hs.env t _ q;simp only[aT,b6,Rep] at hv;have I:=getElem?_of_getD hv;unfold wpOpIn;simp only[ho];rw[ξ (by simp[Region.wanted,J,yielded,N,I,hw])];exact h st' ⟨fun t ht=>ha.1 t (by simp[ht]),ha.2⟩ G S μ a w K Q hs hk ro
theorem GStep.no {P:Program}{n:Nat}{ops:Array Oper}{i j t d:Nat}{want b:Bool}{o:Oper}{st:St}(ho:ops[i]?=some o) (W:o.guard=some (j,want)) (hd:o.dst=some d) (q:d<n) (Y:(ops[j]?).bind (·.dst)=some t)
  {I:Bool} (hb:st.e t=some (.one (.c (.bool b)))) (J:b=I) (hn:I= !want):GStep P n ops i st ⟨[t],[]⟩ ⟨some (d,some (.tup [])),[]⟩:=by
 have hw:b= !want:=J.trans hn;intro st' ha G S μ a w K Q hs hk ro;have N:st'.e t=some (.one (.c (.bool b))):=by rw[ha.1 t (by simp),hb]
 have hv:=hs.env t _ N;simp only[aT,b6,Rep] at hv;have O:=getElem?_of_getD hv;unfold wpOpIn;simp only[ho];rw[φ (by simp[Region.wanted,W,yielded,Y,O,hw])];rw[hd];refine⟨fun _ _=>trivial,hk S μ _ _ ?_⟩;exact hs.put hs.inv (Evolve.refl _ _ _) q (fun y Z=>by cases Z;simp only[aT];exact⟨[],rfl,by simp[bG]⟩)
theorem GStep.un {P:Program}{n:Nat}{ops:Array Oper}{i j t d:Nat}{want:Bool}{o:Oper}{st:St}(ho:ops[i]?=some o) (O:o.guard=some (j,want)) (hd:o.dst=some d) (I:d<n) (W:(ops[j]?).bind (·.dst)=some t)
  (hb:st.e t=some (.tup [])):GStep P n ops i st ⟨[t],[]⟩ ⟨some (d,some (.tup [])),[]⟩:=by
 intro st' ha G S μ a w K Q hs hk ro;have J:st'.e t=some (.tup []):=by rw[ha.1 t (by simp),hb]
 have hv:=hs.env t _ J;simp only[aT] at hv;obtain⟨vs,hv,q⟩:=hv;simp only[bG] at q;subst q;have N:yielded ops a.tmps j=none:=by
  unfold yielded;rw[W];simp only[Cl];rw[Ax] at hv;cases Y:a.tmps[t]? with
  | none=>rfl
  | some v=>rw[Y] at hv;simp at hv;subst hv;rfl
 unfold wpOpIn;simp only[ho];rw[φ (by simp[Region.wanted,O,N])];rw[hd];refine⟨fun _ _=>trivial,hk S μ _ _ ?_⟩;exact hs.put hs.inv (Evolve.refl _ _ _) I (fun y Z=>by cases Z;simp only[aT];exact⟨[],rfl,by simp[bG]⟩)
abbrev REs:=List (Rd×Eff)
def eL (L:Nat→Bool):Nat→REs→St→St
 | _,[],st=>st
 | k,x::xs,st=>eL L (k+1) xs (bif L k then x.2.apply st else st)
inductive Run (P:Program) (n:Nat) (ops:Array Oper):Nat→St→REs→St→Prop
 | nil {k st}:Run P n ops k st [] st
 | cons {k st rd f xs st'}:GStep P n ops k st rd f→Run P n ops (k+1) (f.apply st) xs st'→Run P n ops k st ((rd,f)::xs) st'
theorem Run.final {P:Program}{n:Nat}{ops:Array Oper}{k:Nat}{st st':St}{xs:REs}(h:Run P n ops k st xs st'):∀L:Nat→Bool,(∀j,k≤j→L j=true)→eL L k xs st=st':=by
 induction h with
 | nil=>intro L _;rfl
 | cons _ _ I=>
  intro L q;simp only[eL,q _ (le_refl _),Bo];exact I L fun j J=>q j (by omega)
theorem Run.at {P:Program}{n:Nat}{ops:Array Oper}{k:Nat}{st st':St}{xs:REs}(h:Run P n ops k st xs st'):∀(i:Nat) (x:Rd×Eff),xs[i]?=some x→
  GStep P n ops (k+i) (eL (fun j=>decide (j<k+i)) k xs st) x.1 x.2:=by
 induction h with
 | nil=>intro i x hx;simp at hx
 | @cons k st rd f xs st' N W I=>
  intro i x hx;cases i with
  | zero=>
   simp at hx;subst hx;have O:∀(q:REs) (m:Nat) (s:St),k<m→eL (fun j=>decide (j<k+0)) m q s=s:=by
    intro q
    induction q with
    | nil=>intro m s _;rfl
    | cons y q I=>
     intro m s hm;simp only[eL];have:decide (m<k+0)=false:=by simp;omega
     rw[this,Bs];exact I (m+1) _ (by omega)
   simp only[eL];have:decide (k<k+0)=false:=by simp
   rw[this,Bs];rw[O xs (k+1) st (by omega)];exact N
  | succ i=>
   simp at hx;have:=I i x hx;simp only[eL];have J:decide (k<k+(i+1))=true:=by simp
   rw[J,Bo];rw[show k+(i+1)=k+1+i by omega];exact this
theorem aC6 (L:Nat→Bool):∀(xs:REs) (k:Nat) (st:St),(eL L k xs st).d=st.d
 | [],_,_=>rfl
 | x::xs,k,st=>by
  rw[eL,aC6 L xs];cases L k<;>rfl
theorem fW (f:Eff) (st:St) {t:Nat}(h:t∉f.we):(f.apply st).e t=st.e t:=by
 unfold Eff.apply Eff.we at *;cases hd:f.d with
 | none=>rfl
 | some p=>
  obtain⟨k,v⟩:=p;simp only[hd] at h ⊢;exact aS _ _ _ (by simpa using h)
theorem sK {α:Type}:∀{l:List (Nat×α)}{i:Nat},i∉l.map (·.1)→look l i=none
 | [],_,_=>rfl
 | (k,x)::l,i,h=>by
  simp at h;have hb:Nat.beq i k=false:=by
   cases hb:Nat.beq i k with
   | false=>rfl
   | true=>exact absurd (ε hb) h.1
  simp only[look,hb,A1,Br];exact sK (by simpa using h.2)
theorem cQ {α:Type}:∀{l:List (Nat×α)}{i:Nat},i∈l.map (·.1)→∃x,look l i=some x
 | [],_,h=>by simp at h
 | (k,x)::l,i,h=>by
  by_cases hb:Nat.beq i k=true
  ·exact⟨x,by simp[look,hb]⟩
  ·have q:i≠k:=fun e=>hb (by subst e;simp)
   simp at hb;simp only[look];obtain⟨y,I⟩:=cQ (l:=l) (i:=i) (by simpa [q] using h);exact⟨y,by simp[hb,I]⟩
theorem fV (f:Eff) (st:St) {i:Nat}(h:i∉f.wh):(f.apply st).h i=st.h i:=by
 unfold Eff.apply Eff.wh at *;simp only[updL,sK h]
theorem pW (f:Eff) (st st':St) {t:Nat}(h:t∈f.we):(f.apply st).e t=(f.apply st').e t:=by
 unfold Eff.apply Eff.we at *;cases hd:f.d with
 | none=>simp[hd] at h
 | some p=>
  obtain⟨k,v⟩:=p;simp only[hd] at h ⊢;simp at h;subst h;simp[aI]
theorem pV (f:Eff) (st st':St) {i:Nat}(h:i∈f.wh):(f.apply st).h i=(f.apply st').h i:=by
 unfold Eff.apply Eff.wh at *;obtain⟨x,hx⟩:=cQ h;simp only[updL,hx]
theorem vG (t:Nat):∀(xs:REs) (k:Nat) (L L':Nat→Bool) (st st':St),st.e t=st'.e t→(∀i x,xs[i]?=some x→L (k+i)≠L' (k+i)→t∉x.2.we)→(eL L k xs st).e t=(eL L' k xs st').e t:=by
 intro xs
 induction xs with
 | nil=>intro k L L' st st' h _;exact h
 | cons x xs I=>
  intro k L L' st st' h hx;simp only[eL];refine I (k+1) L L' _ _ ?_ fun i y J N=>hx (i+1) y (by simpa using J) (by rwa [show k+(i+1)=k+1+i by omega])
  have h0:=hx 0 x rfl;simp only[By] at h0;by_cases q:L k=L' k
  ·rw[q];cases L' k
   ·exact h
   ·by_cases hw:t∈x.2.we
    ·exact pW _ _ _ hw
    ·simp only[Bo];rw[fW _ _ hw,fW _ _ hw,h]
  ·have hw:=h0 q;cases L k<;>cases L' k<;>simp only[Bo,Bs,fW _ _ hw,h]
theorem vF (t:Nat):∀(xs:REs) (k:Nat) (L L':Nat→Bool) (st st':St),st.h t=st'.h t→(∀i x,xs[i]?=some x→L (k+i)≠L' (k+i)→t∉x.2.wh)→(eL L k xs st).h t=(eL L' k xs st').h t:=by
 intro xs
 induction xs with
 | nil=>intro k L L' st st' h _;exact h
 | cons x xs I=>
  intro k L L' st st' h hx;simp only[eL];refine I (k+1) L L' _ _ ?_ fun i y J N=>hx (i+1) y (by simpa using J) (by rwa [show k+(i+1)=k+1+i by omega])
  have h0:=hx 0 x rfl;simp only[By] at h0;by_cases q:L k=L' k
  ·rw[q];cases L' k
   ·exact h
   ·by_cases hw:t∈x.2.wh
    ·exact pV _ _ _ hw
    ·simp only[Bo];rw[fV _ _ hw,fV _ _ hw,h]
  ·have hw:=h0 q;cases L k<;>cases L' k<;>simp only[Bo,Bs,fV _ _ hw,h]
theorem aMp (L:Nat→Bool) (m:Nat) (f:Eff):∀(xs:REs) (k:Nat) (rd:Rd) (st:St),k≤m→xs[m-k]?=some (rd,f)→L m=false→
  (∀i x,xs[i]?=some x→L (k+i)=true→m<k+i→(∀t∈f.we,t∉x.2.we)∧(∀t∈f.wh,t∉x.2.wh))→
  eL (fun j=>L j || Nat.beq j m) k xs st=f.apply (eL L k xs st):=by
 have tail:∀(xs:REs) (k:Nat) (st:St),m<k→(∀i x,xs[i]?=some x→L (k+i)=true→(∀t∈f.we,t∉x.2.we)∧(∀t∈f.wh,t∉x.2.wh))→
   eL (fun j=>L j || Nat.beq j m) k xs (f.apply st)=f.apply (eL L k xs st):=by
  intro xs
  induction xs with
  | nil=>intro k st _ _;rfl
  | cons x xs N=>
   intro k st hk hx;simp only[eL];have hb:Nat.beq k m=false:=by
    cases hb:Nat.beq k m with
    | false=>rfl
    | true=>have:=ε hb;omega
   rw[hb,Bool.or_false];have h0:=hx 0 x rfl;simp only[By] at h0;have I:∀i y,xs[i]?=some y→L (k+1+i)=true→(∀t∈f.we,t∉y.2.we)∧(∀t∈f.wh,t∉y.2.wh):=fun i y J hl=>hx (i+1) y (by simpa using J) (by rwa [show k+(i+1)=k+1+i by omega])
   cases Y:L k with
   | false=>simp only[Bs];exact N (k+1) st (by omega) I
   | true=>
    simp only[Bo];obtain⟨h1,h2⟩:=h0 Y;have hc:x.2.apply (f.apply st)=f.apply (x.2.apply st):=by
     have he:(x.2.apply (f.apply st)).e=(f.apply (x.2.apply st)).e:=funext fun t=>by
      by_cases ht:t∈f.we
      ·rw[fW _ _ (h1 t ht)];exact pW _ _ _ ht
      ·rw[fW f _ ht];by_cases q:t∈x.2.we
       ·exact pW _ _ _ q
       ·rw[fW _ _ q,fW _ _ q,fW _ _ ht]
     have hh:(x.2.apply (f.apply st)).h=(f.apply (x.2.apply st)).h:=funext fun t=>by
      by_cases ht:t∈f.wh
      ·rw[fV _ _ (h2 t ht)];exact pV _ _ _ ht
      ·rw[fV f _ ht];by_cases q:t∈x.2.wh
       ·exact pV _ _ _ q
       ·rw[fV _ _ q,fV _ _ q,fV _ _ ht]
     cases Z:x.2.apply (f.apply st);cases hB:f.apply (x.2.apply st);have hd:(x.2.apply (f.apply st)).d=(f.apply (x.2.apply st)).d:=rfl;simp only[Z,hB] at he hh hd;rw[he,hh,hd]
    rw[hc];exact N (k+1) _ (by omega) I
 intro xs
 induction xs with
 | nil=>intro k rd st _ hx;simp at hx
 | cons x xs N=>
  intro k rd st hk hx hm hd;simp only[eL];by_cases O:k=m
  ·subst O;simp at hx;subst hx;have hb:Nat.beq k k=true:=by simp
   rw[hb,hm,Bool.or_true];simp only[Bo,Bs];exact tail xs (k+1) st (by omega) fun i y J hl=>hd (i+1) y (by simpa using J) (by rwa [show k+(i+1)=k+1+i by omega]) (by omega)
  ·have hb:Nat.beq k m=false:=by
    cases hb:Nat.beq k m with
    | false=>rfl
    | true=>exact absurd (ε hb) O
   rw[hb,Bool.or_false];have W:xs[m-(k+1)]?=some (rd,f):=by
    rw[show m-k=(m-(k+1))+1 by omega] at hx;simpa using hx
   exact N (k+1) rd _ (by omega) W hm fun i y J hl hlt=>hd (i+1) y (by simpa using J) (by rwa [show k+(i+1)=k+1+i by omega]) (by omega)
def aZ2:List Nat→List Nat→List Nat
 | [],acc=>acc
 | x::l,acc=>if acc.any (Nat.beq x) then aZ2 l acc else aZ2 l (x::acc)
def dd (l:List Nat):List Nat:=aZ2 l []
theorem xZ:∀(l acc:List Nat) (x:Nat),x∈aZ2 l acc→x∈l∨x∈acc
 | [],_,_,h=>.inr h
 | y::l,acc,x,h=>by
  simp only[aZ2] at h;split at h
  ·rcases xZ l acc x h with h | h
   ·exact .inl (by simp[h])
   ·exact .inr h
  ·rcases xZ l (y::acc) x h with h | h
   ·exact .inl (by simp[h])
   ·rcases Ai.1 h with rfl | h
    ·exact .inl (by simp)
    ·exact .inr h
theorem aZ1 {l:List Nat}{x:Nat}(h:x∈dd l):x∈l:=(xZ l [] x h).resolve_right (by simp)
def aCu:List Oper→List (List Nat)→List (List Nat)
 | [],acc=>acc
 | o::os,acc=>aCu os (acc++[dd (o.after.toList.flatMap fun e=>if Region.binds .any e then e.on::(acc.getD e.on []) else [])])
def pC (ops:Array Oper):List (List Nat):=aCu ops.toList []
def aZ0 (a b:List Nat):Bool:=a.all fun x=>!(b.contains x)
def indep (x y:Rd×Eff):Bool:=aZ0 x.2.we (y.1.e++y.2.we)&&aZ0 x.2.wh (y.1.h++y.2.wh)&&aZ0 y.2.we x.1.e&&aZ0 y.2.wh x.1.h
def rI (ps:List Nat) (y:Rd×Eff):Nat→REs→Bool
 | _,[]=>true
 | i,x::xs=>(ps.contains i || indep x y)&&rI ps y (i+1) xs
def fG:List (List Nat)→REs→REs→Bool
 | p::ps,y::ys,done=>rI p y 0 done&&fG ps ys (done++[y])
 | _,[],_=>true
 | [],_::_,_=>false
def i7 (ops:Array Oper):Bool:=ops.toList.zipIdx.all fun(o,i)=>o.after.toList.all fun e=>!Region.binds .any e || decide (e.on<i)
theorem jR {a b:List Nat}(h:aZ0 a b=true):∀t∈a,t∉b:=by
 intro t ht hb;have:=Au.1 h t ht;simp at this;exact this hb
theorem yF {ps:List Nat}{y:Rd×Eff}:∀(xs:REs) (k:Nat),rI ps y k xs=true→∀i x,xs[i]?=some x→k+i∈ps∨indep x y=true:=by
 intro xs
 induction xs with
 | nil=>intro k _ i x hx;simp at hx
 | cons z xs q=>
  intro k h i x hx;simp only[rI,Ac,Bool.or_eq_true] at h;cases i with
  | zero=>simp at hx;subst hx;simpa using h.1
  | succ i=>
   simp at hx;have:=q (k+1) h.2 i x hx;rwa [show k+(i+1)=k+1+i by omega]
theorem qK:∀(ps:List (List Nat)) (I done:REs),fG ps I done=true→∀j y,I[j]?=some y→∃p,ps[j]?=some p∧∀i x,i<done.length+j→(done++I)[i]?=some x→i∈p∨indep x y=true:=by
 intro ps
 induction ps with
 | nil=>
  intro I done h j y J;cases I with
  | nil=>simp at J
  | cons _ _=>simp[fG] at h
 | cons p ps W=>
  intro I done h j y J;cases I with
  | nil=>simp at J
  | cons z I=>
   simp only[fG,Ac] at h;cases j with
   | zero=>
    simp at J;subst J;refine⟨p,rfl,fun i x hi hx=>?_⟩;have O:i<done.length:=by omega
    rw[Ba O] at hx;simpa using yF done 0 h.1 i x hx
   | succ j=>
    simp at J;obtain⟨q,Y,N⟩:=W I (done++[z]) h.2 j y J;refine⟨q,by simpa using Y,fun i x hi hx=>N i x (by simp;omega) (by simpa using hx)⟩
theorem zS (L:Nat→Bool):∀(os:List Oper) (acc:List (List Nat)),(∀i p,acc[i]?=some p→L i=true→∀j∈p,L j=true)→
  (∀i o,os[i]?=some o→L (acc.length+i)=true→∀e∈o.after.toList,Region.binds .any e=true→L e.on=true)→
  ∀i p,(aCu os acc)[i]?=some p→L i=true→∀j∈p,L j=true:=by
 intro os
 induction os with
 | nil=>intro acc h _;exact h
 | cons o os ih=>
  intro acc h ho;refine ih _ ?_ ?_
  ·intro i p hp hl j J;by_cases hi:i<acc.length
   ·rw[Ba hi] at hp;exact h i p hp hl j J
   ·rw[Az (by omega)] at hp;have W:i-acc.length=0:=by
     rcases Nat.eq_zero_or_pos (i-acc.length) with h0 | h0
     ·exact h0
     ·rw[List.getElem?_eq_none (by simp;omega)] at hp;cases hp
    have Y:i=acc.length:=by omega
    rw[W] at hp;simp at hp;subst hp;have J:=aZ1 J;simp only[mem_flatMap] at J;obtain⟨e,he,I⟩:=J;split at I
    ·rename_i hb;have N:=ho 0 o rfl (by simpa [Y] using hl) e he hb;simp only[Ai] at I;rcases I with rfl | I
     ·exact N
     ·cases O:acc[e.on]? with
      | none=>simp[O] at I
      | some q=>
       simp[O] at I;exact h e.on q O N j I
    ·simp at I
  ·intro i o' Z hl;exact ho (i+1) o' (by simpa using Z) (by simpa [Co,Nat.add_comm 1 i] using hl)
def aOy (ops:Array Oper) (listed:Array Bool):Prop:=∀(i:Nat) (o:Oper),ops[i]?=some o→listed.getD i false=true→∀e∈o.after.toList,Region.binds .any e=true→listed.getD e.on false=true
theorem lE {l:Array Bool}{i:Nat}(h:i<l.size):l.getD i true=l.getD i false:=by simp[h]
theorem uP {ops:Array Oper}{listed:Array Bool}(hl:listed.size=ops.size) {i:Nat}(h:i∈Region.ready .any ops listed):
  i<ops.size∧listed.getD i false=false∧∀o,ops[i]?=some o→∀e∈o.after.toList,Region.binds .any e=true→listed.getD e.on false=true:=by
 simp only[Region.ready,mem_filter,mem_range,Ac,Cq] at h;obtain⟨h1,h2,h3⟩:=h;refine⟨h1,by rwa [←lE (by omega)],fun o ho e he hb=>?_⟩;simp only[ho,Option.map_some,Option.getD_some] at h3;have:=(Array.all_eq_true_iff_forall_mem.1 h3) e (by simpa using he);simpa [hb] using this
theorem aUd {P:Program}{n:Nat}{ops:Array Oper}{G:Ctx}{st st':St}{xs:REs}{Q:Exit→Act→World→Prop}(hr:Run P n ops 0 st xs st') (hlen:xs.length=ops.size)
  (hap:fG (pC ops) xs []=true) (hed:i7 ops=true)
  (hQ:∀S' μ' a' w',Sim G n S' μ' st' a' w'→Q .normal a' w'):
  ∀(fuel:Nat) (listed:Array Bool),listed.size=ops.size→((List.range ops.size).filter fun i=>!listed.getD i false).length=fuel→aOy ops listed→
   ∀S μ a w,Sim G n S μ (eL (fun j=>listed.getD j false) 0 xs st) a w→∀ro,wpAnyIn (Wd ro) 0 P .any ops Q fuel listed a w:=by
 have ac:∀(listed:Array Bool),listed.size=ops.size→Region.ready .any ops listed=[]→∀S μ a w,Sim G n S μ (eL (fun j=>listed.getD j false) 0 xs st) a w→Q .normal a w:=by
  intro listed hl O S μ a w hs;have hall:∀i,i<ops.size→listed.getD i false=true:=by
   intro i
   induction i using Nat.strongRecOn with
   | _ i ih=>
    intro hi;cases hc:listed.getD i false with
    | true=>rfl
    | false=>
     exfalso;have:i∈Region.ready .any ops listed:=by
      simp only[Region.ready,mem_filter,mem_range,Ac,Cq];refine⟨hi,by rw[lE (by omega)];exact hc,?_⟩;have ho:ops[i]?=some ops[i]:=by simp[hi]
      simp only[ho,Option.map_some,Option.getD_some];refine Array.all_eq_true_iff_forall_mem.2 fun e he=>?_
      have hlt:=(Au.1 hed) (ops[i],i) (by
       rw[List.mem_iff_getElem?]
       exact⟨i,by simp[hi]⟩)
      have I:=(Au.1 hlt) e (by simpa using he);simp only[Bool.or_eq_true,Cq,decide_eq_true_eq] at I ⊢;rcases I with I | I
      ·exact .inl I
      ·exact .inr (ih e.on I (by omega))
     rw[O] at this;simp at this
  have he:eL (fun j=>listed.getD j false) 0 xs st=st':=by
   rw[←hr.final (fun _=>true) (fun _ _=>rfl)];have key:∀i x,xs[i]?=some x→listed.getD (0+i) false≠true→False:=by
    intro i x hx q;have hi:i<xs.length:=(Aa.1 hx).1
    exact q (by rw[A6];exact hall i (by omega))
   have e1:(eL (fun j=>listed.getD j false) 0 xs st).e=(eL (fun _=>true) 0 xs st).e:=funext fun t=>vG t xs 0 _ _ _ _ rfl fun i x hx q=>(key i x hx q).elim
   have e2:(eL (fun j=>listed.getD j false) 0 xs st).h=(eL (fun _=>true) 0 xs st).h:=funext fun t=>vF t xs 0 _ _ _ _ rfl fun i x hx q=>(key i x hx q).elim
   cases hA:eL (fun j=>listed.getD j false) 0 xs st;cases hB:eL (fun _=>true) 0 xs st;simp only[hA,hB] at e1 e2;have e3:(eL (fun j=>listed.getD j false) 0 xs st).d=(eL (fun _=>true) 0 xs st).d:=by rw[aC6,aC6]
   simp only[hA,hB] at e3;rw[e1,e2,e3]
  rw[he] at hs;exact hQ S μ a w hs
 intro fuel
 induction fuel with
 | zero=>
  intro listed hl hf _ S μ a w hs;have O:Region.ready .any ops listed=[]:=by
   rw[List.eq_nil_iff_forall_not_mem];intro i hi;obtain⟨h1,h2,_⟩:=uP hl hi;have:i∈(List.range ops.size).filter fun i=>!listed.getD i false:=by simp only[mem_filter,mem_range,Cq];exact⟨h1,h2⟩
   rw[A7 hf] at this;simp at this
  exact fun _=>⟨O,ac listed hl O S μ a w hs⟩
 | succ fuel ih=>
  intro listed hl hf hcl S μ a w hs ro;refine⟨fun O=>ac listed hl O S μ a w hs,fun i hi=>?_⟩;obtain⟨h1,h2,h3⟩:=uP hl hi;have hx:xs[i]?=some xs[i]:=by simp[hlen,h1]
  have ho:ops[i]?=some ops[i]:=by simp[h1]
  have ad:aOy ops (listed.setIfInBounds i true):=by
   intro j o N J e he hb;simp only[Ax,Bq] at J ⊢;have ae:listed.getD e.on false=true→(if i=e.on then if i<listed.size then some true else none else listed[e.on]?).getD false=true:=by
    intro hh;split
    ·simp[hl,h1]
    ·rwa [Ax] at hh
   by_cases aa:i=j
   ·subst aa;exact ae (h3 o N e he hb)
   ·rw[φ aa] at J;exact ae (hcl j o N (by rwa [Ax]) e he hb)
  have hpd:∀(L:Array Bool),aOy ops L→∀k p,(pC ops)[k]?=some p→L.getD k false=true→∀j∈p,L.getD j false=true:=by
   intro L hL k p hp hk;refine zS (fun j=>L.getD j false) ops.toList [] (by simp) ?_ k p hp hk;intro k' o ho' hl' e he hb;exact hL k' o (by simpa using ho') (by simpa using hl') e he hb
  have Y:(listed.setIfInBounds i true).getD i false=true:=by simp[hl,h1]
  have hold:∀j,j≠i→(listed.setIfInBounds i true).getD j false=listed.getD j false:=by
   intro j N;simp only[Ax,Bq];rw[φ (fun e=>N e.symm)]
  have hdis1:∀j y,xs[j]?=some y→j<i→listed.getD j false=false→indep y xs[i]=true:=by
   intro j y hy hji J;obtain⟨p,hp,Z⟩:=qK _ _ _ hap i _ hx;rcases Z j y (by simpa using hji) (by simpa using hy) with hm | hm
   ·have:=hpd _ ad i p hp Y j hm;rw[hold j (by omega)] at this;rw[this] at J;cases J
   ·exact hm
  have ab:∀j y,xs[j]?=some y→i<j→listed.getD j false=true→indep xs[i] y=true:=by
   intro j y hy aa J;obtain⟨p,hp,Z⟩:=qK _ _ _ hap j _ hy;rcases Z i xs[i] (by simpa using aa) (by simp) with hm | hm
   ·have:=hpd _ hcl j p hp J i hm;rw[this] at h2;cases h2
   ·exact hm
  have hg:=hr.at i _ hx;simp only[A6] at hg;have hag:mN xs[i].1 (eL (fun j=>decide (j<i)) 0 xs st) (eL (fun j=>listed.getD j false) 0 xs st):=by
   have key:∀k x,xs[k]?=some x→listed.getD (0+k) false≠decide (0+k<i)→(∀t∈xs[i].1.e,t∉x.2.we)∧(∀t∈xs[i].1.h,t∉x.2.wh):=by
    intro k x hk q;rw[A6] at q;by_cases ag:k<i
    ·have W:listed.getD k false=false:=by
      cases hc:listed.getD k false with
      | false=>rfl
      | true=>simp[hc,ag] at q
     have hd:=hdis1 k x hk ag W;simp only[indep,Ac] at hd;obtain⟨⟨⟨d1,d2⟩,d3⟩,d4⟩:=hd;exact⟨fun t ht hw=>jR d1 t hw (by simp[ht]),fun t ht hw=>jR d2 t hw (by simp[ht])⟩
    ·by_cases hke:k=i
     ·subst hke;rw[h2] at q;simp at q
     ·have W:listed.getD k false=true:=by
       cases hc:listed.getD k false with
       | true=>rfl
       | false=>simp[hc,ag] at q
      have hd:=ab k x hk (by omega) W;simp only[indep,Ac] at hd;obtain⟨⟨⟨d1,d2⟩,d3⟩,d4⟩:=hd;exact⟨fun t ht hw=>jR d3 t hw ht,fun t ht hw=>jR d4 t hw ht⟩
   exact⟨fun t ht=>vG t xs 0 _ _ _ _ rfl fun k x hk q=>(key k x hk q).1 t ht,fun t ht=>vF t xs 0 _ _ _ _ rfl fun k x hk q=>(key k x hk q).2 t ht⟩
  refine hg _ hag G S μ a w _ Q hs (fun S' μ' a' w' hs'=>?_) ro;refine ih (listed.setIfInBounds i true) (by simp[hl]) ?_ ad S' μ' a' w' ?_ ro
  ·--one fewer is left
   have:∀(l:List Nat),l.Nodup→i∈l→((l.filter fun j=>!listed.getD j false).length=((l.filter fun j=>!(listed.setIfInBounds i true).getD j false).length)+1):=by
    intro l
    induction l with
    | nil=>intro _ h;simp at h
    | cons b l ihl=>
     intro hnd hmem;have ah:=(Bv.1 hnd)
     by_cases hb:b=i
     ·subst hb;have hno:∀j∈l,(!(listed.setIfInBounds b true).getD j false)=(!listed.getD j false):=fun j N=>by rw[hold j (fun e=>ah.1 (e▸N))]
      rw[Ck,Ck,h2,Y];simp only[Bool.not_false,B3,Bool.not_true,A1,Br,Ak];rw[List.filter_congr hno]
     ·have hm':i∈l:=(Ai.1 hmem).resolve_left fun e=>hb e.symm
      have:=ihl ah.2 hm';rw[Ck,Ck,hold b hb];split
      ·simp only[Ak];omega
      ·exact this
   have:=this (List.range ops.size) nodup_range (by simpa using h1);omega
  ·have hadd:=aMp (fun j=>listed.getD j false) i xs[i].2 xs 0 xs[i].1 st (Aj _) (by rw[sub_zero,hx]) h2 (by
    intro k x hk W hik;rw[A6] at W hik;have hd:=ab k x hk hik W;simp only[indep,Ac] at hd;obtain⟨⟨⟨d1,d2⟩,d3⟩,d4⟩:=hd
    exact⟨fun t ht hw=>jR d1 t ht (by simp[hw]),fun t ht hw=>jR d2 t ht (by simp[hw])⟩)
   rw[←hadd] at hs';have hfe:(fun j=>(listed.setIfInBounds i true).getD j false)=fun j=>listed.getD j false || Nat.beq j i:=funext fun j=>by
    by_cases N:j=i
    ·subst N;rw[Y];simp
    ·rw[hold j N];have hb:Nat.beq j i=false:=by
      cases hb:Nat.beq j i with
      | false=>rfl
      | true=>exact absurd (ε hb) N
     rw[hb,Bool.or_false]
   rw[hfe];exact hs'
def aM1:Value→Option V
 | .int k n=>some (.one (.c (.int k n)))
 | .bool b=>some (.one (.c (.bool b)))
 | .string s=>some (.one (.c (.str s.data.toList)))
 | .slice none 0 0=>some (.one (.c .nl))
 | .pointer none=>some (.one (.c .np))
 | .map none=>some (.one (.c (.zv 0)))
 | .nilFunc=>some (.one (.c (.zv 1)))
 | .nilIface=>some (.one (.c (.zv 2)))
 | _=>none
def opv (st:St):Operand→Option V
 | .tmp t=>st.e t
 | .const v=>aM1 v
 | .func f=>some (.one (.clo f []))
 | .global _=>none
def opr:Operand→List Nat
 | .tmp t=>[t]
 | _=>[]
theorem aIa {S:Sto}{μ:Mu}{H:c7}{v:Value}{x:V}(h:aM1 v=some x):aT S μ H x v:=by
 unfold aM1 at h;split at h<;>first | (cases h;simp[aT,b6,Rep,aW1];done) | cases h
theorem aM {G:Ctx}{n:Nat}{S:Sto}{μ:Mu}{st st':St}{a:Act}{w:World}{x:Operand}{v:V}(hs:Sim G n S μ st' a w) (h:opv st x=some v) (ha:∀t∈opr x,st'.e t=st.e t):aT S μ st'.h v (a.eval x):=by
 cases x with
 | tmp t=>exact hs.env t v (by rw[ha t (by simp[opr])];exact h)
 | const u=>exact aIa h
 | func f=>simp[opv] at h;subst h;simp[aT,b6,aW,Act.eval]
 | global g=>simp[opv] at h
section
variable {P:Program}{n:Nat}{o:Oper}{st:St}{d:Nat}
theorem Step.value {rd:Rd}{y:V}(hd:o.dst=some d) (q:d<n)
  (h:∀st',mN rd st st'→∀G S μ a w,Sim G n S μ st' a w→∃v,(execOp a.eval o).run P w=.ok (.value v) w∧aT S μ st'.h y v):Step P n o st rd ⟨some (d,some y),[]⟩:=by
 intro st' ha G S μ a w K Q hs hk;obtain⟨v,I,hv⟩:=h st' ha G S μ a w hs;refine fun ro=>iG I ?_
 rw[hd];exact hk S μ _ _ (hs.put hs.inv (Evolve.refl _ _ _) q fun z J=>by cases J;exact hv)
theorem aYl {x:Operand}{y:V}(ho:o.op=.move x) (hd:o.dst=some d) (q:d<n) (hx:opv st x=some y):Step P n o st ⟨opr x,[]⟩ ⟨some (d,some y),[]⟩:=
 Step.value hd q fun _ ha _ _ _ a _ hs=>⟨a.eval x,by simp[execOp,ho],aM hs hx ha.1⟩
theorem aP3 {x:Operand}{y:V}(ho:o.op=.assign x) (hd:o.dst=some d) (q:d<n) (hx:opv st x=some y):Step P n o st ⟨opr x,[]⟩ ⟨some (d,some y),[]⟩:=
 Step.value hd q fun _ ha _ _ _ a _ hs=>⟨a.eval x,by simp[execOp,ho],aM hs hx ha.1⟩
theorem eJ {S:Sto}{μ:Mu}{H:c7}{k:IntKind}{m:Int}{v:Value}(h:aT S μ H (.one (.c (.int k m))) v):v=.int k m:=by simpa [aT,b6,Rep] using h
theorem j8 {S:Sto}{μ:Mu}{H:c7}{b:Bool}{v:Value}(h:aT S μ H (.one (.c (.bool b))) v):v=.bool b:=by simpa [aT,b6,Rep] using h
theorem kY {S:Sto}{μ:Mu}{H:c7}{b:List UInt8}{v:Value}(h:aT S μ H (.one (.c (.str b))) v):v=.string ⟨⟨b⟩⟩:=by simpa [aT,b6,Rep] using h
abbrev I (k:IntKind) (m:Int):V:=.one (.c (.int k m))
abbrev B (b:Bool):V:=.one (.c (.bool b))
abbrev T (s:List UInt8):V:=.one (.c (.str s))
theorem eO {x y:Operand}{st':St}(ha:mN ⟨opr x++opr y,[]⟩ st st'):(∀t∈opr x,st'.e t=st.e t)∧(∀t∈opr y,st'.e t=st.e t):=
 ⟨fun t h=>ha.1 t (by simp[h]),fun t h=>ha.1 t (by simp[h])⟩
theorem eX {op:BinOp}{q ty:TypeId}{x y:Operand}{k:IntKind}{a b:Int}{z:V}(ho:o.op=.binOp op q x y ty) (hd:o.dst=some d) (J:d<n) (hx:opv st x=some (I k a)) (N:opv st y=some (I k b))
  (O:∀w:World,∃v,(binOp op q (.int k a) (.int k b)).run P w=.ok v w∧∀S μ H,aT S μ H z v):Step P n o st ⟨opr x++opr y,[]⟩ ⟨some (d,some z),[]⟩:=by
 refine Step.value hd J fun _ ha _ _ _ ac w hs=>?_
 have h1:=eJ (aM hs hx (eO ha).1);have h2:=eJ (aM hs N (eO ha).2);obtain⟨v,h3,h4⟩:=O w;refine⟨v,?_,h4 _ _ _⟩;simp only[execOp,ho,h1,h2,Ad];have:(eqGuard op q x y (.int k a) (.int k b)).run P w=.ok () w:=by
  unfold eqGuard;split<;>rfl
 rw[this];simp only[κ,h3,Ae]
theorem aP4 {J ty:TypeId}{x y:Operand}{k:IntKind}{a b r:Int}(ho:o.op=.binOp .add J x y ty) (hd:o.dst=some d) (q:d<n) (hx:opv st x=some (I k a)) (N:opv st y=some (I k b)) (O:k.wrap (a+b)=r):
  Step P n o st ⟨opr x++opr y,[]⟩ ⟨some (d,some (I k r)),[]⟩:=
 eX ho hd q hx N fun w=>⟨.int k r,by simp[binOp,Op.intArith,O],fun _ _ _=>by simp[aT,b6,Rep]⟩
theorem aPt {J ty:TypeId}{x y:Operand}{k:IntKind}{a b r:Int}(ho:o.op=.binOp .sub J x y ty) (hd:o.dst=some d) (q:d<n) (hx:opv st x=some (I k a)) (N:opv st y=some (I k b)) (O:k.wrap (a-b)=r):
  Step P n o st ⟨opr x++opr y,[]⟩ ⟨some (d,some (I k r)),[]⟩:=
 eX ho hd q hx N fun w=>⟨.int k r,by simp[binOp,Op.intArith,O],fun _ _ _=>by simp[aT,b6,Rep]⟩
theorem aPy {J ty:TypeId}{x y:Operand}{k:IntKind}{a b r:Int}(ho:o.op=.binOp .mul J x y ty) (hd:o.dst=some d) (q:d<n) (hx:opv st x=some (I k a)) (N:opv st y=some (I k b)) (O:k.wrap (a*b)=r):
  Step P n o st ⟨opr x++opr y,[]⟩ ⟨some (d,some (I k r)),[]⟩:=
 eX ho hd q hx N fun w=>⟨.int k r,by simp[binOp,Op.intArith,O],fun _ _ _=>by simp[aT,b6,Rep]⟩
theorem aYg {J ty:TypeId}{x y:Operand}{k:IntKind}{a b r:Int}(ho:o.op=.binOp .quo J x y ty) (hd:o.dst=some d) (q:d<n) (hx:opv st x=some (I k a)) (N:opv st y=some (I k b)) (hb:b≠0) (O:k.wrap (a.tdiv b)=r):
  Step P n o st ⟨opr x++opr y,[]⟩ ⟨some (d,some (I k r)),[]⟩:=
 eX ho hd q hx N fun w=>⟨.int k r,by simp[binOp,Op.intDiv,hb,O],fun _ _ _=>by simp[aT,b6,Rep]⟩
theorem aYe {J ty:TypeId}{x y:Operand}{k:IntKind}{a b r:Int}(ho:o.op=.binOp .rem J x y ty) (hd:o.dst=some d) (q:d<n) (hx:opv st x=some (I k a)) (N:opv st y=some (I k b)) (hb:b≠0) (O:a.tmod b=r):
  Step P n o st ⟨opr x++opr y,[]⟩ ⟨some (d,some (I k r)),[]⟩:=
 eX ho hd q hx N fun w=>⟨.int k r,by simp[binOp,Op.intDiv,hb,O],fun _ _ _=>by simp[aT,b6,Rep]⟩
theorem a1z {J ty:TypeId}{x y:Operand}{k:IntKind}{a b:Int}(ho:o.op=.binOp .lss J x y ty) (hd:o.dst=some d) (q:d<n) (hx:opv st x=some (I k a)) (N:opv st y=some (I k b)):
  Step P n o st ⟨opr x++opr y,[]⟩ ⟨some (d,some (B (decide (a<b)))),[]⟩:=
 eX ho hd q hx N fun w=>⟨.bool (decide (a<b)),by simp[binOp,Op.intCmp],fun _ _ _=>by simp[aT,b6,Rep]⟩
theorem a10 {J ty:TypeId}{x y:Operand}{k:IntKind}{a b:Int}(ho:o.op=.binOp .leq J x y ty) (hd:o.dst=some d) (q:d<n) (hx:opv st x=some (I k a)) (N:opv st y=some (I k b)):
  Step P n o st ⟨opr x++opr y,[]⟩ ⟨some (d,some (B (decide (a≤b)))),[]⟩:=
 eX ho hd q hx N fun w=>⟨.bool (decide (a≤b)),by simp[binOp,Op.intCmp],fun _ _ _=>by simp[aT,b6,Rep]⟩
theorem a11 {J ty:TypeId}{x y:Operand}{k:IntKind}{a b:Int}(ho:o.op=.binOp .gtr J x y ty) (hd:o.dst=some d) (q:d<n) (hx:opv st x=some (I k a)) (N:opv st y=some (I k b)):
  Step P n o st ⟨opr x++opr y,[]⟩ ⟨some (d,some (B (decide (b<a)))),[]⟩:=
 eX ho hd q hx N fun w=>⟨.bool (decide (b<a)),by simp[binOp,Op.intCmp],fun _ _ _=>by simp[aT,b6,Rep]⟩
theorem a13 {J ty:TypeId}{x y:Operand}{k:IntKind}{a b:Int}(ho:o.op=.binOp .geq J x y ty) (hd:o.dst=some d) (q:d<n) (hx:opv st x=some (I k a)) (N:opv st y=some (I k b)):
  Step P n o st ⟨opr x++opr y,[]⟩ ⟨some (d,some (B (decide (b≤a)))),[]⟩:=
 eX ho hd q hx N fun w=>⟨.bool (decide (b≤a)),by simp[binOp,Op.intCmp],fun _ _ _=>by simp[aT,b6,Rep]⟩
theorem a14 {J ty:TypeId}{x y:Operand}{k:IntKind}{a b:Int}(ho:o.op=.binOp .eql J x y ty) (hd:o.dst=some d) (q:d<n) (hx:opv st x=some (I k a)) (N:opv st y=some (I k b)):
  Step P n o st ⟨opr x++opr y,[]⟩ ⟨some (d,some (B (decide (a=b)))),[]⟩:=
 eX ho hd q hx N fun w=>⟨.bool (decide (a=b)),by simp[binOp,Op.intCmp];rfl,fun _ _ _=>by simp[aT,b6,Rep]⟩
theorem a1v {J ty:TypeId}{x y:Operand}{k:IntKind}{a b:Int}(ho:o.op=.binOp .neq J x y ty) (hd:o.dst=some d) (q:d<n) (hx:opv st x=some (I k a)) (N:opv st y=some (I k b)):
  Step P n o st ⟨opr x++opr y,[]⟩ ⟨some (d,some (B (!decide (a=b)))),[]⟩:=
 eX ho hd q hx N fun w=>⟨.bool (!decide (a=b)),by simp[binOp,Op.intCmp];rfl,fun _ _ _=>by simp[aT,b6,Rep]⟩
theorem nO {op:BinOp}{q ty:TypeId}{x y:Operand}{a b:List UInt8}{z:V}(ho:o.op=.binOp op q x y ty) (hd:o.dst=some d) (I:d<n) (hx:opv st x=some (T a)) (N:opv st y=some (T b))
  (O:∀w:World,∃v,(Op.stringOp op ⟨⟨a⟩⟩ ⟨⟨b⟩⟩).run P w=.ok v w∧∀S μ H,aT S μ H z v) (J:∀w:World,(binOp op q (.string ⟨⟨a⟩⟩) (.string ⟨⟨b⟩⟩)).run P w=(Op.stringOp op ⟨⟨a⟩⟩ ⟨⟨b⟩⟩).run P w):Step P n o st ⟨opr x++opr y,[]⟩ ⟨some (d,some z),[]⟩:=by
 refine Step.value hd I fun _ ha _ _ _ ac w hs=>?_
 have h1:=kY (aM hs hx (eO ha).1);have h2:=kY (aM hs N (eO ha).2);obtain⟨v,h3,h4⟩:=O w;refine⟨v,?_,h4 _ _ _⟩;simp only[execOp,ho,h1,h2,Ad];have:(eqGuard op q x y (.string ⟨⟨a⟩⟩) (.string ⟨⟨b⟩⟩)).run P w=.ok () w:=by
  unfold eqGuard;split<;>rfl
 rw[this];simp only[κ,J,h3,Ae]
theorem kZ (a:List UInt8):(ByteArray.mk ⟨a⟩).toList=a:=by rw[ByteArray.toList_eq]
theorem aYa {I ty:TypeId}{x y:Operand}{a b:List UInt8}(ho:o.op=.binOp .eql I x y ty) (hd:o.dst=some d) (q:d<n) (hx:opv st x=some (T a)) (J:opv st y=some (T b)):
  Step P n o st ⟨opr x++opr y,[]⟩ ⟨some (d,some (B (decide (a=b)))),[]⟩:=
 nO ho hd q hx J (fun w=>⟨.bool (decide (a=b)),by simp only[Op.stringOp,kZ,Ae];congr 2;exact(Bool.beq_eq_decide_eq a b),fun _ _ _=>by simp[aT,b6,Rep]⟩) fun _=>rfl
theorem aX8 {I ty:TypeId}{x y:Operand}{a b:List UInt8}(ho:o.op=.binOp .neq I x y ty) (hd:o.dst=some d) (q:d<n) (hx:opv st x=some (T a)) (J:opv st y=some (T b)):
  Step P n o st ⟨opr x++opr y,[]⟩ ⟨some (d,some (B (!decide (a=b)))),[]⟩:=
 nO ho hd q hx J (fun w=>⟨.bool (!decide (a=b)),by simp only[Op.stringOp,kZ,Ae];rw[Bool.beq_eq_decide_eq a b],fun _ _ _=>by simp[aT,b6,Rep]⟩) fun _=>rfl
theorem aYc {I ty:TypeId}{x y:Operand}{a b:List UInt8}(ho:o.op=.binOp .add I x y ty) (hd:o.dst=some d) (q:d<n) (hx:opv st x=some (T a)) (J:opv st y=some (T b)) (hl:a.length+b.length≤maxLen):
  Step P n o st ⟨opr x++opr y,[]⟩ ⟨some (d,some (T (a++b))),[]⟩:=
 nO ho hd q hx J (fun w=>⟨.string ⟨⟨a++b⟩⟩,by
  have h1:(ByteArray.mk ⟨a⟩).size=a.length:=rfl;have h2:(ByteArray.mk ⟨b⟩).size=b.length:=rfl;have h3:¬(((ByteArray.mk ⟨a⟩).size+(ByteArray.mk ⟨b⟩).size:Nat):Int)>IntKind.i64.max:=by
   rw[h1,h2];simp only[IntKind.max,IntKind.signed];unfold maxLen at hl;simp[IntKind.bits];omega
  have h4:(ByteArray.mk ⟨a⟩)++(ByteArray.mk ⟨b⟩)=(⟨⟨a++b⟩⟩:ByteArray):=by
   apply ByteArray.ext;simp
  simp only[Op.stringOp];rw[φ h3,h4]
  rfl,fun _ _ _=>by simp[aT,b6,Rep]⟩) fun _=>rfl
theorem aX9 {I ty:TypeId}{x y:Operand}{a b:List UInt8}(ho:o.op=.binOp .lss I x y ty) (hd:o.dst=some d) (q:d<n) (hx:opv st x=some (T a)) (J:opv st y=some (T b)):
  Step P n o st ⟨opr x++opr y,[]⟩ ⟨some (d,some (B (Op.bytesLess a b))),[]⟩:=
 nO ho hd q hx J (fun w=>⟨.bool (Op.bytesLess a b),by simp only[Op.stringOp,kZ,Ae],fun _ _ _=>by simp[aT,b6,Rep]⟩) fun _=>rfl
theorem a1u {t:TypeId}{x:Operand}{b:Bool}(ho:o.op=.unOp .not t x) (hd:o.dst=some d) (q:d<n) (hx:opv st x=some (B b)):Step P n o st ⟨opr x,[]⟩ ⟨some (d,some (B (!b))),[]⟩:=by
 refine Step.value hd q fun _ ha _ _ _ ac w hs=>?_
 have h1:=j8 (aM hs hx ha.1);exact⟨.bool (!b),by simp[execOp,ho,h1,Op.unary],by simp[aT,b6,Rep]⟩
theorem a1w {t:TypeId}{x:Operand}{k:IntKind}{a r:Int}(ho:o.op=.unOp .neg t x) (hd:o.dst=some d) (q:d<n) (hx:opv st x=some (I k a)) (J:k.wrap (0-a)=r):Step P n o st ⟨opr x,[]⟩ ⟨some (d,some (I k r)),[]⟩:=by
 refine Step.value hd q fun _ ha _ _ _ ac w hs=>?_
 have h1:=eJ (aM hs hx ha.1);refine⟨.int k r,?_,by simp[aT,b6,Rep]⟩;simp only[Int.zero_sub] at J;simp[execOp,ho,h1,Op.unary,Op.intArith,J]
theorem aPw {c x y:Operand}{b:Bool}{z:V}(ho:o.op=.pick c x y) (hd:o.dst=some d) (q:d<n) (hc:opv st c=some (B b)) (hb:b=true) (hx:opv st x=some z):Step P n o st ⟨opr c++opr x,[]⟩ ⟨some (d,some z),[]⟩:=by
 refine Step.value hd q fun _ ha _ _ _ ac w hs=>?_
 have h1:=j8 (aM hs hc (eO ha).1);subst hb;exact⟨ac.eval x,by simp[execOp,ho,h1,asBool],aM hs hx (eO ha).2⟩
theorem aPx {c x y:Operand}{b:Bool}{z:V}(ho:o.op=.pick c x y) (hd:o.dst=some d) (q:d<n) (hc:opv st c=some (B b)) (hb:b=false) (I:opv st y=some z):Step P n o st ⟨opr c++opr y,[]⟩ ⟨some (d,some z),[]⟩:=by
 refine Step.value hd q fun _ ha _ _ _ ac w hs=>?_
 have h1:=j8 (aM hs hc (eO ha).1);subst hb;exact⟨ac.eval y,by simp[execOp,ho,h1,asBool],aM hs I (eO ha).2⟩
theorem aKo {x:Operand}{i:Nat}{l:List V}{z:V}(ho:o.op=.extract x i) (hd:o.dst=some d) (q:d<n) (hx:opv st x=some (.tup l)) (hi:l[i]?=some z):Step P n o st ⟨opr x,[]⟩ ⟨some (d,some z),[]⟩:=by
 refine Step.value hd q fun st' ha _ S μ ac w hs=>?_
 have h1:=aM hs hx ha.1;simp only[aT] at h1;obtain⟨vs,h1,h2⟩:=h1;have:∀(l:List V) (vs:List Value) (i:Nat),bG S μ st'.h l vs→l[i]?=some z→∃v,vs[i]?=some v∧aT S μ st'.h z v:=by
  intro l
  induction l with
  | nil=>intro vs i _ h;simp at h
  | cons r rs I=>
   intro vs i h hi;simp only[bG] at h;obtain⟨v,vs',rfl,h1,h2⟩:=h;cases i with
   | zero=>simp at hi;subst hi;exact⟨v,rfl,h1⟩
   | succ i=>simp at hi;simpa using I vs' i h2 hi
 obtain⟨v,h3,h4⟩:=this l vs i h2 hi;refine⟨v,?_,h4⟩;simp[execOp,ho,h1,Instr.extract,h3]
end
inductive TK where
 | bool | int (k:IntKind) | str | pt (e:TypeId) | sl (e:TypeId) | mp (k e:TypeId) | fn
 | st (fs:List (Nat×TypeId)) | ar (m:Nat) (e:TypeId)
 deriving DecidableEq,Inhabited
structure TI where
 k:TK
 size:Nat
 bytes:Nat
 zero:List C
 deriving Inhabited
abbrev TT:=List (Option TI)
def aM2:C→Value→Bool
 | .int k n,.int k' n'=>k==k'&&n==n'
 | .bool b,.bool b'=>b==b'
 | .str s,.string t=>s==t.data.toList
 | .nl,.slice none 0 0=>true
 | .np,.pointer none=>true
 | .zv 0,.map none=>true
 | .zv 1,.nilFunc=>true
 | .zv 2,.nilIface=>true
 | _,_=>false
def sU:List C→List Value→Bool
 | [],[]=>true
 | c::cs,v::vs=>aM2 c v&&sU cs vs
 | _,_=>false
def TK.fits:TK→TypeDesc→Bool
 | .bool,.bool=>true
 | .int k,.int k'=>k==k'
 | .str,.string=>true
 | .pt e,.pointer e'=>e==e'
 | .sl e,.slice e'=>e==e'
 | .mp k e,.map k' e'=>k==k'&&e==e'
 | .fn,.func _ _ _=>true
 | .st fs,.struct fields=>fs==fields.toList.map fun f=>(f.offset,f.type)
 | .ar m e,.array m' e'=>m==m'&&e==e'
 | _,_=>false
def TK.agg:TK→Bool
 | .st _=>true
 | .ar _ _=>true
 | _=>false
def TI.check (P:Program) (t:TypeId) (i:TI):Bool:=
 match P.info? t,P.underlying t with
 | some inf,some d=>(inf.size==i.size&&(i.zero.length==i.size&&(i.k.agg || i.size==1)))&&inf.bytes==i.bytes&&i.k.fits d&&
   (match inf.zero with | some z=>sU i.zero z.cells.toList&&(match i.k.agg,z with | true,.agg _=>true | true,_=>false | false,.agg _=>false | false,_=>true) | none=>false)
 | _,_=>false
def TT.check (P:Program) (T:TT):Bool:=T.zipIdx.all fun(i,t)=>match i with | some i=>i.check P t | none=>true
theorem aIb {S:Sto}{c:C}{v:Value}(h:aM2 c v=true):Rep S c v:=by
 unfold aM2 at h;split at h<;>simp_all [Rep,aW1]
theorem iM {S:Sto}:∀{c:List C}{v:List Value},sU c v=true→cZ S c v
 | [],[],_=>by simp[cZ]
 | c::cs,v::vs,h=>by
  simp only[sU,Ac] at h;simp only[cZ];exact⟨v,vs,rfl,aIb h.1,iM h.2⟩
 | [],_::_,h=>by simp[sU] at h
 | _::_,[],h=>by simp[sU] at h
def Tok (P:Program) (T:TT):Prop:=TT.check P T=true
structure TIok (P:Program) (t:TypeId) (i:TI):Prop where
 ex:∃inf d z,P.info? t=some inf∧P.underlying t=some d∧inf.size=i.size∧inf.bytes=i.bytes∧i.k.fits d=true∧inf.zero=some z∧sU i.zero z.cells.toList=true∧(z=if i.k.agg then .agg z.cells else z)∧(i.k.agg=false→∃u,z.cells= #[u]∧z=u)
 len:i.zero.length=i.size
 one:i.k.agg=false→i.size=1
theorem Tok.get {P:Program}{T:TT}(h:Tok P T) {t:TypeId}{i:TI}(hi:T[t]?=some (some i)):TIok P t i:=by
 unfold Tok TT.check at h
 have:=(Au.1 h) (some i,t) (by
  rw[List.mem_iff_getElem?]
  exact⟨t,by simp[List.getElem?_zipIdx,hi]⟩)
 simp only[TI.check] at this;split at this
 ·rename_i inf d h1 h2;simp only[Ac,beq_iff_eq] at this;obtain⟨⟨⟨⟨h3,hl,ho⟩,h4⟩,h5⟩,q⟩:=this;split at q
  ·rename_i z I;simp only[Ac] at q;obtain⟨q,h7⟩:=q;refine⟨⟨inf,d,z,h1,h2,h3,h4,h5,I,q,?_,?_⟩,hl,fun hk=>by simpa [hk] using ho⟩
   ·cases hk:i.k.agg with
    | false=>simp
    | true=>
     cases z<;>simp_all [Value.cells]
   ·intro hk;cases z<;>simp_all [Value.cells]
  ·cases q
 ·cases this
theorem TIok.size_run {P:Program}{t:TypeId}{i:TI}(h:TIok P t i) (w:World):(sizeOf t).run P w=.ok i.size w:=by
 obtain⟨inf,d,z,h1,h2,h3,h4,h5,q,h7,I⟩:=h.ex;simp[sizeOf,typeInfo,h1,h3]
theorem TIok.zero_run {P:Program}{t:TypeId}{i:TI}(h:TIok P t i):∃z,(∀w:World,(zeroValue t).run P w=.ok z w)∧(∀S,cZ S i.zero z.cells.toList)∧(z=if i.k.agg then .agg z.cells else z)∧(i.k.agg=false→∃u,z.cells= #[u]∧z=u):=by
 obtain⟨inf,d,z,h1,h2,h3,h4,h5,q,h7,I⟩:=h.ex;exact⟨z,fun w=>by simp[zeroValue,typeInfo,h1,q],fun S=>iM h7,I⟩
theorem TIok.agg_run {P:Program}{t:TypeId}{i:TI}(h:TIok P t i) (w:World):(isAgg t).run P w=.ok i.k.agg w:=by
 obtain⟨inf,d,z,h1,h2,h3,h4,h5,q,h7,I⟩:=h.ex;unfold isAgg;rw[Ad,Ao h2 w];simp only[κ];cases hk:i.k<;>rw[hk] at h5<;>cases d<;>simp[TK.fits] at h5<;>rfl
theorem TIok.slice {P:Program}{t e:TypeId}{i:TI}(h:TIok P t i) (hk:i.k=.sl e):P.underlying t=some (.slice e):=by
 obtain⟨inf,d,z,h1,h2,h3,h4,h5,q,h7,I⟩:=h.ex;rw[hk] at h5;cases d<;>simp[TK.fits] at h5;rw[h2,h5]
theorem TIok.array {P:Program}{t e:TypeId}{m:Nat}{i:TI}(h:TIok P t i) (hk:i.k=.ar m e):P.underlying t=some (.array m e):=by
 obtain⟨inf,d,z,h1,h2,h3,h4,h5,q,h7,I⟩:=h.ex;rw[hk] at h5;cases d<;>simp[TK.fits] at h5;rw[h2,h5.1,h5.2]
theorem TIok.str {P:Program}{t:TypeId}{i:TI}(h:TIok P t i) (hk:i.k=.str):P.underlying t=some .string:=by
 obtain⟨inf,d,z,h1,h2,h3,h4,h5,q,h7,I⟩:=h.ex;rw[hk] at h5;cases d<;>simp[TK.fits] at h5;rw[h2]
theorem TIok.int {P:Program}{t:TypeId}{k:IntKind}{i:TI}(h:TIok P t i) (hk:i.k=.int k):P.underlying t=some (.int k):=by
 obtain⟨inf,d,z,h1,h2,h3,h4,h5,q,h7,I⟩:=h.ex;rw[hk] at h5;cases d<;>simp[TK.fits] at h5;rw[h2,h5]
theorem TIok.bool {P:Program}{t:TypeId}{i:TI}(h:TIok P t i) (hk:i.k=.bool):P.underlying t=some .bool:=by
 obtain⟨inf,d,z,h1,h2,h3,h4,h5,q,h7,I⟩:=h.ex;rw[hk] at h5;cases d<;>simp[TK.fits] at h5;rw[h2]
theorem TIok.ptr {P:Program}{t e:TypeId}{i:TI}(h:TIok P t i) (hk:i.k=.pt e):P.underlying t=some (.pointer e):=by
 obtain⟨inf,d,z,h1,h2,h3,h4,h5,q,h7,I⟩:=h.ex;rw[hk] at h5;cases d<;>simp[TK.fits] at h5;rw[h2,h5]
theorem TIok.map {P:Program}{t k e:TypeId}{i:TI}(h:TIok P t i) (hk:i.k=.mp k e):P.underlying t=some (.map k e):=by
 obtain⟨inf,d,z,h1,h2,h3,h4,h5,q,h7,I⟩:=h.ex;rw[hk] at h5;cases d<;>simp[TK.fits] at h5;rw[h2,h5.1,h5.2]
theorem TIok.struct {P:Program}{t:TypeId}{fs:List (Nat×TypeId)}{i:TI}(h:TIok P t i) (hk:i.k=.st fs):∃fields,P.underlying t=some (.struct fields)∧fs=fields.toList.map fun f=>(f.offset,f.type):=by
 obtain⟨inf,d,z,h1,h2,h3,h4,h5,q,h7,I⟩:=h.ex;rw[hk] at h5;cases d<;>simp[TK.fits] at h5;exact⟨_,h2,h5⟩
theorem TIok.info {P:Program}{t:TypeId}{i:TI}(h:TIok P t i):(P.info? t).map (·.size)=some i.size:=by
 obtain⟨inf,d,z,h1,h2,h3,h4,h5,q,h7,I⟩:=h.ex;simp[h1,h3]
theorem aW.length {S:Sto}{μ:Mu}{H:c7}:∀{c:List R}{v:List Value},aW S μ H c v→v.length=c.length
 | [],_,k=>by simp only[aW] at k;subst k;rfl
 | _::cs,_,k=>by
  simp only[aW] at k;obtain⟨v,vs',rfl,_,h⟩:=k;simp[aW.length h]
theorem aW.get {S:Sto}{μ:Mu}{H:c7}:∀{c:List R}{v:List Value},aW S μ H c v→∀(i:Nat) (x:R),c[i]?=some x→∃u,v[i]?=some u∧b6 S μ H x u
 | [],_,_,i,x,h=>by simp at h
 | c::cs,_,k,i,x,h=>by
  simp only[aW] at k;obtain⟨v,vs',rfl,h1,h2⟩:=k;cases i with
  | zero=>simp at h;subst h;exact⟨v,rfl,h1⟩
  | succ i=>simp at h;simpa using h2.get i x h
theorem aW.append {S:Sto}{μ:Mu}{H:c7}:∀{a:List R}{x:List Value}{b:List R}{y:List Value},aW S μ H a x→aW S μ H b y→aW S μ H (a++b) (x++y)
 | [],_,_,_,h,k=>by simp only[aW] at h;subst h;simpa using k
 | _::_,_,_,_,h,k=>by
  simp only[aW,Bc] at h ⊢;obtain⟨v,vs',rfl,h1,h2⟩:=h;exact⟨v,vs'++_,rfl,h1,h2.append k⟩
theorem aW.take {S:Sto}{μ:Mu}{H:c7}:∀{a:List R}{x:List Value}(n:Nat),aW S μ H a x→aW S μ H (a.take n) (x.take n)
 | _,_,0,_=>by simp[aW]
 | [],_,n+1,h=>by simp only[aW] at h;subst h;simp[aW]
 | _::_,_,n+1,h=>by
  simp only[aW,Ar] at h ⊢;obtain⟨v,vs',rfl,h1,h2⟩:=h;exact⟨v,vs'.take n,by simp,h1,h2.take n⟩
theorem aW.drop {S:Sto}{μ:Mu}{H:c7}:∀{a:List R}{x:List Value}(n:Nat),aW S μ H a x→aW S μ H (a.drop n) (x.drop n)
 | _,_,0,h=>by simpa using h
 | [],_,n+1,h=>by simp only[aW] at h;subst h;simp[aW]
 | _::_,_,n+1,h=>by
  simp only[aW,Cu] at h ⊢;obtain⟨v,vs',rfl,h1,h2⟩:=h;simpa using h2.drop n
theorem cZ.toR {S:Sto}{μ:Mu}{H:c7}:∀{c:List C}{v:List Value},cZ S c v→aW S μ H (c.map R.c) v
 | [],_,k=>by simp only[cZ] at k;subst k;simp[aW]
 | c::cs,_,k=>by
  simp only[cZ] at k;obtain⟨v,vs',rfl,h1,h2⟩:=k;simp only[Al,aW];exact⟨v,vs',rfl,by simpa [b6] using h1,h2.toR⟩
def j3:List R→Option (List C)
 | []=>some []
 | .c x::l=>match j3 l with | some l'=>some (x::l') | none=>none
 | _::_=>none
theorem nQ:∀{rs:List R}{l:List C},j3 rs=some l→rs=l.map R.c
 | [],l,h=>by simp[j3] at h;subst h;rfl
 | .c x::rs,l,h=>by
  simp only[j3] at h;split at h
  ·rename_i l' hl;cases h;simp[nQ hl]
  ·cases h
 | .hs ..::_,_,h=>by simp[j3] at h
 | .tl ..::_,_,h=>by simp[j3] at h
 | .vp ..::_,_,h=>by simp[j3] at h
 | .ep ..::_,_,h=>by simp[j3] at h
 | .mr ..::_,_,h=>by simp[j3] at h
 | .clo ..::_,_,h=>by simp[j3] at h
 | .mth ..::_,_,h=>by simp[j3] at h
 | .yl ..::_,_,h=>by simp[j3] at h
 | .ra ..::_,_,h=>by simp[j3] at h
 | .rp ..::_,_,h=>by simp[j3] at h
 | .ras ..::_,_,h=>by simp[j3] at h
 | .pas ..::_,_,h=>by simp[j3] at h
theorem aW.pure {S:Sto}{μ:Mu}{H:c7}:∀{l:List C}{v:List Value},aW S μ H (l.map R.c) v→cZ S l v
 | [],_,k=>by simp only[Bn,aW] at k;subst k;simp[cZ]
 | c::cs,_,k=>by
  simp only[Al,aW] at k;obtain⟨v,vs',rfl,h1,h2⟩:=k;simp only[cZ];exact⟨v,vs',rfl,by simpa [b6] using h1,h2.pure⟩
def aXa (rs:List R):V:=match j3 rs with | some l=>.pa l | none=>.ma rs
theorem aG8 {S:Sto}{μ:Mu}{H:c7}{rs:List R}{vs:List Value}(h:aW S μ H rs vs):aT S μ H (aXa rs) (.agg ⟨vs⟩):=by
 unfold aXa;split
 ·rename_i l hl;rw[nQ hl] at h;simp only[aT];exact⟨vs,rfl,h.pure⟩
 ·simp only[aT];exact⟨vs,rfl,h⟩
def i6:V→Option (List R)
 | .one r=>some [r]
 | .pa l=>some (l.map R.c)
 | .ma l=>some l
 | .tup _=>none
theorem Rep.one {S:Sto}:∀{c:C}{v:Value},Rep S c v→v.cells= #[v]∧v.oneCell'=true:=by
 intro c v h;cases c<;>simp only[Rep] at h
 case zv k=>subst h;unfold aW1;split<;>exact⟨rfl,rfl⟩
 case sl=>obtain⟨a,len,cap,rfl,_⟩:=h;exact⟨rfl,rfl⟩
 case sg=>obtain⟨a,len,cap,rfl,_⟩:=h;exact⟨rfl,rfl⟩
 case sn=>obtain⟨b,o,sp,len,cap,rfl,_⟩:=h;exact⟨rfl,rfl⟩
 case pt=>obtain⟨b,o,rfl,_⟩:=h;exact⟨rfl,rfl⟩
 case mp=>obtain⟨b,es,clk,rfl,_⟩:=h;exact⟨rfl,rfl⟩
 case clo=>obtain⟨vs,rfl,_⟩:=h;exact⟨rfl,rfl⟩
 case any=>exact h
 all_goals (subst h;exact⟨rfl,rfl⟩)
theorem b6.one {S:Sto}{μ:Mu}{H:c7}:∀{r:R}{v:Value},b6 S μ H r v→v.cells= #[v]∧v.oneCell'=true:=by
 intro r v h;cases r<;>simp only[b6] at h
 case c x=>exact h.one
 case hs=>obtain⟨⟨a,l,c,rfl⟩,_⟩:=h;exact⟨rfl,rfl⟩
 case tl=>obtain⟨⟨a,l,c,rfl⟩,_⟩:=h;exact⟨rfl,rfl⟩
 case vp=>obtain⟨t,cells,b,c,_,_,rfl⟩:=h;exact⟨rfl,rfl⟩
 case ep=>obtain⟨⟨a,rfl⟩,_⟩:=h;exact⟨rfl,rfl⟩
 case mr=>obtain⟨agg,ents,b,c,_,_,rfl⟩:=h;exact⟨rfl,rfl⟩
 case clo=>obtain⟨vs,rfl,_⟩:=h;exact⟨rfl,rfl⟩
 case mth=>obtain⟨u,rfl,_⟩:=h;exact⟨rfl,rfl⟩
 case yl=>obtain⟨st,j,i,e,b,c,_,_,rfl⟩:=h;exact⟨rfl,rfl⟩
 case ra=>obtain⟨⟨a,l,c,rfl⟩,_⟩:=h;exact⟨rfl,rfl⟩
 case rp=>obtain⟨⟨a,rfl⟩,_⟩:=h;exact⟨rfl,rfl⟩
 case ras=>obtain⟨a,cap,rfl,_⟩:=h;exact⟨rfl,rfl⟩
 case pas=>obtain⟨b,o,rfl,_⟩:=h;exact⟨rfl,rfl⟩
theorem aW.one {S:Sto}{μ:Mu}{H:c7}:∀{rs:List R}{vs:List Value},aW S μ H rs vs→∀v∈vs,v.oneCell'=true
 | [],_,h=>by simp only[aW] at h;subst h;simp
 | _::_,_,h=>by
  simp only[aW] at h;obtain⟨v,vs',rfl,h1,h2⟩:=h;intro u hu;rcases Ai.1 hu with rfl | hu
  ·exact h1.one.2
  ·exact h2.one u hu
theorem dW {S:Sto}{μ:Mu}{H:c7}{x:V}{v:Value}{rs:List R}(h:aT S μ H x v) (hc:i6 x=some rs):aW S μ H rs v.cells.toList:=by
 cases x<;>simp only[i6] at hc
 case one r=>
  cases hc;simp only[aT] at h;rw[h.one.1];simp only[aW];exact⟨v,[],rfl,h,rfl⟩
 case pa l=>
  cases hc;simp only[aT] at h;obtain⟨vs,rfl,h⟩:=h;exact h.toR
 case ma l=>
  cases hc;simp only[aT] at h;obtain⟨vs,rfl,h⟩:=h;exact h
 case tup=>cases hc
section
variable {P:Program}{n:Nat}{o:Oper}{st:St}{d:Nat}{T:TT}
theorem eI {S:Sto}{μ:Mu}{H:c7}{id:Nat}(h:H id=none) (p:Option (Nat×Nat×Nat)) (x:Option AObj):Evolve S μ H S (upd μ id p) (upd H id x):=
 ⟨S.le_refl,fun j o I=>by
  have q:j≠id:=fun e=>by subst e;rw[h] at I;cases I
  exact⟨o,by rw[aS _ _ _ q];exact I,o.succ_refl (aS _ _ _ q)⟩⟩
theorem Step.new {rd:Rd}{y:V}{id:Nat}{ao:AObj}(hd:o.dst=some d) (I:d<n) (hid:st.h id=none) (J:id∈rd.h)
  (h:∀st',mN rd st st'→st'.h id=none→∀G S μ a w,Sim G n S μ st' a w→∃w' N v c,(execOp a.eval o).run P w=.ok (.value v) w'∧WChg w w' w.heap.size N∧
   lW S (upd μ id (some (w.heap.size,c))) (upd st'.h id (some ao)) w' id ao∧aT S (upd μ id (some (w.heap.size,c))) (upd st'.h id (some ao)) y v):
  Step P n o st rd ⟨some (d,some y),[(id,some ao)]⟩:=by
 intro st' ha G S μ a w K Q hs hk;have q:st'.h id=none:=by rw[ha.2 id J,hid]
 obtain⟨w',N,v,c,O,hw,W,hv⟩:=h st' ha q G S μ a w hs;refine fun ro=>iG O ?_
 rw[hd];have hi:=hs.inv.chg (id:=id) (cap:=c) (ao:=ao) hw (.inl (le_refl _)) (eI q _ _) W
  (fun o v e=>by obtain⟨vs,t,fr,h1,_⟩:=hs.inv.holds.1 _ _ _ e;exact absurd (bZ h1) (lt_irrefl _)) (fun m e=>le_refl _)
 refine hk S (upd μ id (some (w.heap.size,c))) _ _ ?_;have:=hs.put hi (eI q _ _) I (x:=some y) (fun z Y=>by cases Y;exact hv);unfold Eff.apply;rw[dE];exact this
theorem fO {G:Ctx}{S:Sto}{μ:Mu}{H:c7}{w:World}(h:Inv G S μ H w) (o:Nat):S.cell w.heap.size o=none:=by
 cases hc:S.cell w.heap.size o with
 | none=>rfl
 | some v=>obtain⟨vs,t,fr,h1,_⟩:=h.holds.1 _ _ _ hc;exact absurd (bZ h1) (lt_irrefl _)
theorem qD {G:Ctx}{S:Sto}{μ:Mu}{H:c7}{w:World}(h:Inv G S μ H w):S.mapo w.heap.size=none:=by
 cases hc:S.mapo w.heap.size with
 | none=>rfl
 | some v=>obtain⟨_,h1⟩:=MK.holds_some (h.holds.2 _ _ hc);exact absurd (bZ h1) (lt_irrefl _)
theorem iK (P:Program) (w:World) (t:TypeId) (cs:Array Value):(newRow t cs).run P w=.ok ⟨w.heap.size,0,none⟩ (w.alloc (.cells cs t)):=rfl
theorem aUn {t:TypeId}{i:TI}(id:Nat) (J:Tok P T) (ho:o.op=.alloc t) (hd:o.dst=some d) (q:d<n) (hi:T[t]?=some (some i)) (hid:st.h id=none):
  Step P n o st ⟨[],[id]⟩ ⟨some (d,some (.one (.vp id 0))),[(id,some (.var t (i.zero.map R.c)))]⟩:=by
 refine Step.new hd q hid (by simp) fun st' _ N G S μ a w hs=>?_
 obtain⟨z,O,I,_⟩:=(J.get hi).zero_run;refine⟨_,_,.pointer (some ⟨w.heap.size,0,none⟩),(0,0),?_,WChg.alloc w (.cells z.cells t),?_,?_⟩
 ·simp[execOp,ho,Instr.alloc,O,newVar,iK]
 ·exact⟨w.heap.size,z.cells.toList,aI _ _ _,B4 w _,(I S).toR,fO hs.inv,qD hs.inv⟩
 ·simp only[aT,b6];exact⟨t,_,_,_,aI _ _ _,aI _ _ _,rfl⟩
theorem a16 {t:TypeId}{x:Operand}{y:V}{rs:List R}(id:Nat) (ho:o.op=.box t x) (hd:o.dst=some d) (I:d<n) (hx:opv st x=some y) (hc:i6 y=some rs) (hid:st.h id=none):
  Step P n o st ⟨opr x,[id]⟩ ⟨some (d,some (.one (.vp id 0))),[(id,some (.var t rs))]⟩:=by
 refine Step.new hd I hid (by simp) fun st' ha q G S μ a w hs=>?_
 have hv:=aM hs hx ha.1;refine⟨_,_,.pointer (some ⟨w.heap.size,0,none⟩),(0,0),?_,WChg.alloc w (.cells (a.eval x).cells t),?_,?_⟩
 ·simp[execOp,ho,Instr.box,newVar,iK]
 ·exact⟨w.heap.size,(a.eval x).cells.toList,aI _ _ _,B4 w _,aW.evolve (eI q _ _) _ _ (dW hv hc),fO hs.inv,qD hs.inv⟩
 ·simp only[aT,b6];exact⟨t,_,_,_,aI _ _ _,aI _ _ _,rfl⟩
theorem aKf {t:TypeId}(id:Nat) (agg:Bool) (ho:o.op=.makeMap t none) (hd:o.dst=some d) (q:d<n) (hid:st.h id=none):
  Step P n o st ⟨[],[id]⟩ ⟨some (d,some (.one (.mr id))),[(id,some (.map agg []))]⟩:=by
 refine Step.new hd q hid (by simp) fun st' _ I G S μ a w hs=>?_
 refine⟨w.alloc (.map #[] 0),_,.map (some w.heap.size),(0,0),?_,WChg.alloc w (.map #[] 0),?_,?_⟩
 ·simp only[execOp,ho,Instr.makeMap,C0];rfl
 ·exact⟨w.heap.size, #[],0,aI _ _ _,B4 w _,.inr (.inl (by simp[b7])),.inl (qD hs.inv)⟩
 ·simp only[aT,b6];exact⟨_,_,_,_,aI _ _ _,aI _ _ _,rfl⟩
theorem jZ {w:World}{b:Nat}{vs:List Value}{t:TypeId}(h:w.heap[b]?=some (.cells ⟨vs⟩ t (0,0))) (off k:Nat):w.rangeAt b off ((vs.drop off).take k):=by
 intro j v q;rw[cell_of_row w b (off+j) ⟨vs⟩ t (0,0) h];rw[At] at q;split at q
 ·rw[An] at q;simpa using q
 ·cases q
theorem run_load {t:TypeId}{i:TI}(I:TIok P t i) (w:World) (b off:Nat) (cs:List Value) (N:w.rangeAt b off cs) (hl:cs.length=i.size):
  (Instr.loadAt t (.pointer (some ⟨b,off,none⟩))).run P w=.ok (if i.k.agg then .agg ⟨cs⟩ else cs.headD undef) w:=by
 obtain⟨inf,dd,z,g1,g2,g3,g4,g5,g6,g7,g8⟩:=I.ex;cases hk:i.k.agg with
 | true=>
  have J:dd.isRow=true:=by
   cases O:i.k<;>rw[O] at g5 hk<;>cases dd<;>simp[TK.fits,TK.agg] at g5 hk<;>rfl
  rw[run_loadAt_mid w b off t cs dd N g2 J (by rw[I.info,hl])];simp
 | false=>
  have hs:=I.one hk;rw[hs] at hl
  match cs,hl with
  | [c],_=>
   have hc:=N 0 c rfl;have q:=I.agg_run w;rw[hk] at q;simp only[Instr.loadAt,Instr.sureAddr,Ad,Ae,κ,loadVar,q];simp only[A1,Br,load];simp only[Sem.run];rw[show(⟨b,off,none⟩:Addr)=⟨b,off+0,none⟩ from rfl,hc];simp
def qS (i:TI) (rs:List R):Option V:=if i.k.agg then some (aXa rs) else match rs with | [r]=>some (.one r) | _=>none
theorem lD {i:TI}{S:Sto}{μ:Mu}{H:c7}{rs:List R}{vs:List Value}{y:V}(h:aW S μ H rs vs) (q:qS i rs=some y):aT S μ H y (if i.k.agg then .agg ⟨vs⟩ else vs.headD undef):=by
 unfold qS at q;cases hk:i.k.agg with
 | true=>
  simp only[hk,B3] at q ⊢;cases q;exact aG8 h
 | false=>
  simp only[hk,A1,Br] at q ⊢;split at q
  ·cases q;simp only[aW] at h;obtain⟨v,vs',rfl,h1,rfl⟩:=h;simpa [aT] using h1
  ·cases q
theorem a2n {α:Type}{l:List α}{off k:Nat}(h:off+k≤l.length):((l.drop off).take k).length=k:=by simp;omega
theorem aYm {t tv:TypeId}{i:TI}{x:Operand}{id off:Nat}{cells:List R}{y:V}(J:Tok P T) (ho:o.op=.load t x) (hd:o.dst=some d) (q:d<n) (hi:T[t]?=some (some i)) (hx:opv st x=some (.one (.vp id off)))
  (hh:st.h id=some (.var tv cells)) (hl:Nat.ble (off+i.size) cells.length=true) (N:qS i ((cells.drop off).take i.size)=some y):Step P n o st ⟨opr x,[id]⟩ ⟨some (d,some y),[]⟩:=by
 refine Step.value hd q fun st' ha G S μ a w hs=>?_
 have I:st'.h id=some (.var tv cells):=by rw[ha.2 id (by simp),hh]
 have hv:=aM hs hx ha.1;simp only[aT,b6] at hv;obtain⟨t',cells',b,c,h1,h2,h3⟩:=hv;obtain⟨W,vs,g1,g2,g3,g4⟩:=hs.inv.obj id _ I;rw[g1] at h2;cases h2;have hlen:=Ap hl;have O:=g3.length;refine⟨_,?_,lD ((g3.drop off).take i.size) N⟩;simp only[execOp,ho,h3,Ad,run_load (J.get hi) w b off _ (jZ g2 off i.size) (a2n (by omega)),κ,Ae]
def aH5 (i:TI) (l:List C):Option V:=if i.k.agg then some (.pa l) else match l with | [c]=>some (.one (.c c)) | _=>none
theorem aAc {i:TI}{S:Sto}{μ:Mu}{H:c7}{l:List C}{vs:List Value}{y:V}(h:cZ S l vs) (q:aH5 i l=some y):aT S μ H y (if i.k.agg then .agg ⟨vs⟩ else vs.headD undef):=by
 unfold aH5 at q;cases hk:i.k.agg with
 | true=>
  simp only[hk,B3] at q ⊢;cases q;simp only[aT];exact⟨vs,rfl,h⟩
 | false=>
  simp only[hk,A1,Br] at q ⊢;split at q
  ·cases q;simp only[cZ] at h;obtain⟨v,vs',rfl,h1,rfl⟩:=h;simpa [aT,b6] using h1
  ·cases q
theorem mU {S:Sto}{w:World}(hh:Holds S w) {b off:Nat}{vs:List Value}(h:fR S b off vs):w.rangeAt b off vs:=fun j v q=>hh.cell (h j v q)
theorem aKj {t:TypeId}{i:TI}{x:Operand}{l:List C}{y:V}(N:Tok P T) (ho:o.op=.load t x) (hd:o.dst=some d) (I:d<n) (hi:T[t]?=some (some i)) (hx:opv st x=some (.one (.c (.pt l))))
  (hl:i.size≤l.length) (O:aH5 i (l.take i.size)=some y):Step P n o st ⟨opr x,[]⟩ ⟨some (d,some y),[]⟩:=by
 refine Step.value hd I fun st' ha G S μ a w hs=>?_
 have hv:=aM hs hx ha.1;simp only[aT,b6,Rep] at hv;obtain⟨b,off,h1,vs,h2,h3⟩:=hv;have Y:=h2.length;refine⟨_,?_,aAc (h2.take i.size) O⟩;have W:=mU hs.inv.holds h3;have J:w.rangeAt b off (vs.take i.size):=fun j v q=>by
  rw[At] at q;split at q
  ·exact W j v q
  ·cases q
 simp only[execOp,ho,h1,Ad,run_load (N.get hi) w b off _ J (by simp;omega),κ,Ae]
theorem eC {α:Type}{es:Nat}:∀{l:List (List α)},(∀r∈l,r.length=es)→∀(k:Nat),∀r,l[k]?=some r→(l.flatten.drop (k*es)).take es=r
 | [],_,k,r,h=>by simp at h
 | x::xs,hl,0,r,h=>by
  simp at h;subst h;have:=hl x (by simp);simp[←this]
 | x::xs,hl,k+1,r,h=>by
  simp at h;have hx:=hl x (by simp);have:=eC (l:=xs) (fun r q=>hl r (by simp[q])) k r h;rw[Bf,drop_append,show(k+1)*es-x.length=k*es by rw[hx,Ay];omega];rw[drop_of_length_le (by rw[hx,Ay];omega),Bd];exact this
theorem iV {α:Type}{es:Nat}:∀{l:List (List α)},(∀r∈l,r.length=es)→l.flatten.length=l.length*es
 | [],_=>by simp
 | x::xs,hl=>by
  rw[Bf,τ,iV (fun r q=>hl r (by simp[q])),hl x (by simp),Ak,Ay];omega
theorem lW.arr {S:Sto}{μ:Mu}{H:c7}{w:World}{id:Nat}{te es:Nat}{elems:List (List C)}{fz:Nat}(h:lW S μ H w id (.arr te es elems fz)) {b base cap:Nat}(hm:μ id=some (b,base,cap)):
  (∀r∈elems,r.length=es)∧∃vs,w.heap[b]?=some (.cells ⟨vs⟩ te (0,0))∧
   base+cap*es≤vs.length∧elems.length≤cap∧(cap≤maxLen∧S.mapo b=none)∧cZ S elems.flatten ((vs.drop base).take (elems.length*es))∧
   (fz=0→∀o,base≤o→S.cell b o=none)∧(∀o,base+elems.length*es≤o→S.cell b o=none)∧(fz=2→fR S b base ((vs.drop base).take (elems.length*es))):=by
 obtain⟨h0,⟨h1,_⟩ | ⟨J,q,I,vs,h1,h2⟩⟩:=h
 ·rw[hm] at h1;cases h1
 ·rw[hm] at h1;cases h1;exact⟨h0,vs,h2⟩
theorem aSj {S:Sto}{es base:Nat}{elems:List (List C)}{vs:List Value}(h0:∀r∈elems,r.length=es) (h:cZ S elems.flatten ((vs.drop base).take (elems.length*es))) {k:Nat}{r:List C}(hk:elems[k]?=some r):
  cZ S r ((vs.drop (base+k*es)).take es):=by
 have h1:=(h.drop (k*es)).take es;rw[eC h0 k r hk] at h1;have q:k<elems.length:=(Aa.1 hk).1
 have hle:(k+1)*es≤elems.length*es:=Av _ q;rw[Ay] at hle;rw[drop_take,drop_drop,take_take] at h1;rwa [B9 (by omega)] at h1
theorem aKk {t te es:Nat}{i:TI}{x:Operand}{id k fo sz:Nat}{elems:List (List C)}{fz:Nat}{r:List C}{y:V}(Y:Tok P T) (ho:o.op=.load t x) (hd:o.dst=some d) (N:d<n) (hi:T[t]?=some (some i)) (hx:opv st x=some (.one (.ep id k fo sz)))
  (hh:st.h id=some (.arr te es elems fz)) (O:sz=elems.length) (W:elems[k]?=some r) (hl:fo+i.size≤es) (Z:aH5 i ((r.drop fo).take i.size)=some y):Step P n o st ⟨opr x,[id]⟩ ⟨some (d,some y),[]⟩:=by
 refine Step.value hd N fun st' ha G S μ a w hs=>?_
 have q:st'.h id=some (.arr te es elems fz):=by rw[ha.2 id (by simp),hh]
 have hv:=aM hs hx ha.1;simp only[aT,b6] at hv;obtain⟨_,hv | ⟨te',es',elems',fz',h1,h2,h3⟩⟩:=hv
 ·rw[q] at hv;cases hv
 rw[q] at h1;cases h1;obtain⟨h4,b,base,cap,h5,h6⟩:=h3 O;obtain⟨g0,vs,g1,g2,g3,g4,g5,g6,g7⟩:=(hs.inv.obj id _ q).arr h5;have I:=aSj g0 g5 W;have hlr:=I.length;have hres:r.length=es:=g0 r (Ab W);have J:=((I.drop fo).take i.size)
 have hlen:=J.length;have hE:((List.drop fo (List.take es (List.drop (base+k*es) vs))).take i.size)=(vs.drop (base+k*es+fo)).take i.size:=by
  rw[drop_take,drop_drop,take_take,B9 (by omega)]
 rw[hE] at J hlen;refine⟨_,?_,aAc J Z⟩;simp only[execOp,ho,h6,Ad,run_load (Y.get hi) w b (base+k*es+fo) _ (jZ g1 _ i.size) (by rw[hlen];simp;omega),κ,Ae]
end
end Go.AM
