/-
  Texts Am0 to Am6 in one.
-/
import Derived.Lib.ItoaNum
import Derived.WalkKit
import Derived.Below
import Derived.OrdersIn
import Derived.Deep.MidRow
namespace Go.AM
open Go
theorem ψ:∀{p:Prop} [Decidable p],Decidable.decide p=Bool.true→p:=@of_decide_eq_true
theorem φ.{u}:∀{c:Prop}{_:Decidable c},¬c→∀{α:Sort u}{t e:α},(if c then t else e)=e:=@if_neg
theorem θ.{u,I}:∀{α:Type u}{β:Type I}{as:List α}(f:α→β),(List.map f as).length=as.length:=@List.length_map
theorem ξ.{u}:∀{c:Prop}{_:Decidable c},c→∀{α:Sort u}{t e:α},(if c then t else e)=t:=@if_pos
theorem ζ.{u}:∀{α:Type u}{a:α}{l:List α},a∈a::l:=@List.mem_cons_self
theorem η.{u}:∀{α:Type u}{l:List α}{i:Nat}{a:α},l[i]?=Option.some a→a∈l:=@List.mem_of_getElem?
theorem κ.{u}:∀{α:Type u}{as bs:List α},(as++bs).length=as.length+bs.length:=@List.length_append
theorem χ:∀{p:Prop} [Decidable p],Decidable.decide p=Bool.false→¬p:=@of_decide_eq_false
theorem ω.{u}:∀{α:Type u}(y:α) {a:α}{l:List α},a∈l→a∈y::l:=@List.mem_cons_of_mem
theorem δ:∀{α β:Type}(a:α) (w:Go.World) (f:α→Go.World→Go.Result β),(Go.Result.ok a w).andThen f=f a w:=@Go.Result.andThen_ok
theorem ε.{u}:∀{α:Type u}{a b:α},a∈[b]↔a=b:=@List.mem_singleton
theorem τ.{u}:∀{α:Type u}{a:α}{s t:List α},a∈s++t↔a∈s∨a∈t:=@List.mem_append
theorem Aa.{u}:∀{α:Type u}{i:Nat}{a:α}{l:List α},l[i]?=Option.some a↔∃h,l[i]=a:=@List.getElem?_eq_some_iff
theorem Ab:∀{n m:Nat},n.beq m=Bool.true→n=m:=@Nat.eq_of_beq_eq_true
theorem Ac.{u}:∀{α:Type u}{a:α}{as:List α},(a::as).length=as.length+1:=@List.length_cons
theorem Ad:∀{p:Prop} [Decidable p],p→Decidable.decide p=Bool.true:=@decide_eq_true
theorem Ae:∀{p:Prop} [Decidable p],¬p→Decidable.decide p=Bool.false:=@decide_eq_false
theorem Af.{u,I}:∀{α:Type u}{β:Type I}{b:β}{f:α→β}{l:List α},b∈List.map f l↔∃a,a∈l∧f a=b:=@List.mem_map
theorem Ag:∀(n:Nat),0≤n:=@Nat.zero_le
theorem Ah:∀{α β:Type}(P:Go.Program) (w:Go.World) (x:Go.Sem α) (f:α→Go.Sem β),Go.Sem.run P (x>>=f) w=(Go.Sem.run P x w).andThen fun a w'=>Go.Sem.run P (f a) w':=@Go.Sem.run_bind
theorem Ai:∀{α:Type}(P:Go.Program) (w:Go.World) (a:α),Go.Sem.run P (Pure.pure a) w=Go.Result.ok a w:=@Go.Sem.run_pure
theorem Aj:∀(a b:Bool),((a&&b)=Bool.true)=(a=Bool.true∧b=Bool.true):=@Bool.and_eq_true
theorem Ak.{I,J}:∀{α:Type I}{b:α}{u:Type J}{x:Option u}{f:u→Option α},x.bind f=Option.some b↔∃a,x=Option.some a∧f a=Option.some b:=@Option.bind_eq_some_iff
theorem Al.{u}:∀{α:Type u}{l:List α},List.take l.length l=l:=@List.take_length
theorem Am.{u,v}:∀{α:Type u}{β:Type v}{f:α→β}{a:α}{l:List α},List.map f (a::l)=f a::List.map f l:=@List.map_cons
theorem An.{u}:∀{α:Type u}{a:α}{as:List α}{i:Nat},List.take (i+1) (a::as)=a::List.take i as:=@List.take_succ_cons
theorem Ao.{u}:∀{α:Type u}{xs:List α}{i j:Nat},(List.drop i xs)[j]?=xs[i+j]?:=@List.getElem?_drop
theorem Ap.{u}:∀{α:Type u}{b:α}{l:List α}{a:α},a∈b::l↔a=b∨a∈l:=@List.mem_cons
theorem Aq:∀{n m:Nat},n.ble m=Bool.true→n≤m:=@Nat.le_of_ble_eq_true
theorem Ar.{u}:∀{α:Type u}{i:Nat}{l:List α},(List.take i l).length=Min.min i l.length:=@List.length_take
theorem As:∀{P:Go.Program}{t:Go.TypeId}{d:Go.TypeDesc},P.underlying t=Option.some d→∀(w:Go.World),Go.Sem.run P (Go.underlying t) w=Go.Result.ok d w:=@Go.run_underlying
theorem At.{u,I}:∀{α:Type u}{β:Type I}{f:α→β}{J N:List α},List.map f (J++N)=List.map f J++List.map f N:=@List.map_append
theorem Au.{u}:∀{α:Type u}{l:List α}{i j:Nat},(List.take i l)[j]?=if j<i then l[j]? else Option.none:=@List.getElem?_take
theorem Av:Bool.false≠Bool.true:=@Bool.false_ne_true
theorem Aw:∀{n m:Nat}(k:Nat),n≤m→n*k≤m*k:=@Nat.mul_le_mul_right
theorem Ax.{u}:∀{α:Type u}(as:List α),as++[]=as:=@List.append_nil
theorem Ay.{u}:∀{α:Type u}(as bs cs:List α),as++bs++cs=as++(bs++cs):=@List.append_assoc
theorem Az.{u}:∀{α:Type u}{l:List α},l.length=0→l=[]:=@List.eq_nil_of_length_eq_zero
theorem A0.{u}:∀{α:Type u}(as:List α),[]++as=as:=@List.nil_append
theorem A1:∀(n m k:Nat),(n+m)*k=n*k+m*k:=@Nat.add_mul
theorem A3.{u}:∀{α:Type u}{a:α}{as bs:List α},a::as++bs=a::(as++bs):=@List.cons_append
theorem A4.{u}:∀{α:Type u}{p:α→Bool}{l:List α},l.all p=Bool.true↔∀(x:α),x∈l→p x=Bool.true:=@List.all_eq_true
theorem A5.{u,I}:∀{α:Type u}{β:Type I}{f:α→β}{l:List α}{i:Nat},(List.map f l)[i]?=Option.map f l[i]?:=@List.getElem?_map
theorem A6.{I}:∀{α:Type I}{u J:List α}{i:Nat},u.length≤i→(u++J)[i]?=J[i-u.length]?:=@List.getElem?_append_right
theorem A7:∀{m:Nat}(n:Nat),0<m→n≤n*m:=@Nat.le_mul_of_pos_right
theorem A8.{u,I,J}:∀{β:Type u}{γ:Type I}{α:Type J}{g:β→γ}{f:α→β}{l:List α},List.map g (List.map f l)=List.map (g∘f) l:=@List.map_map
theorem A9.{u}:∀{α:Type u}{xs:Array α}{i:Nat}{d:α},xs.getD i d=xs[i]?.getD d:=@Array.getD_eq_getD_getElem?
theorem Ba.{u}:∀{α:Type u}{i:Nat}{l:List α},l.length≤i→List.take i l=l:=@List.take_of_length_le
theorem Bb.{u}:∀{α:Type u}{i:Nat}{a:α}{l:List α},a∈List.take i l→a∈l:=@List.mem_of_mem_take
theorem Bc:∀(n:Nat),0+n=n:=@Nat.zero_add
theorem Bd.{I}:∀{α:Type I}{u J:List α}{i:Nat},i<u.length→(u++J)[i]?=u[i]?:=@List.getElem?_append_left
theorem Be:(Bool.false=Bool.true)=False:=@Bool.false_eq_true
theorem Bf.{u,I}:∀{α:Type u}{l:List α}{J:Type I}{f g:α→J},(∀(a:α),a∈l→f a=g a)→List.map f l=List.map g l:=@List.map_congr_left
theorem Bg.{u}:∀{α:Type u}{xs:Array α},xs.toList.length=xs.size:=@Array.length_toList
theorem Bh.{u}:∀{α:Type u}{l:List α}{i:Nat},List.take (i+1) l=List.take i l++l[i]?.toList:=@List.take_add_one
theorem Bi.{u}:∀{α:Type u}{l:List α}{L:List (List α)},(l::L).flatten=l++L.flatten:=@List.flatten_cons
theorem Bj.{u}:∀{α:Type u}{l:List α},List.take 0 l=[]:=@List.take_zero
theorem Bk.{u}:∀{α:Type u}{a:α}{i:Nat}{l:List α},(a::l)[i+1]?=l[i]?:=@List.getElem?_cons_succ
theorem Bl.{u}:∀{α:Type u}{a:α}{as:List α},(a::as).length=as.length+1:=@List.length_cons
theorem Bm.{u}:∀{α:Type u}{l:List α},l.length=1↔∃a,l=[a]:=@List.length_eq_one_iff
theorem Bn.{u}:∀{α:Sort u}(a b:α),(bif Bool.true then a else b)=a:=@cond_true
theorem Bo.{u,v}:∀{α:Type u}{β:Type v}{f:α→β},List.map f []=[]:=@List.map_nil
theorem Bp.{u}:∀{α:Type u}{p:α→Bool}{a:α}{l:List α},List.find? p l=Option.some a→a∈l:=@List.mem_of_find?_eq_some
theorem Bq.{I,J}:∀{α:Type I}{b:α}{u:Type J}{x:Option u}{f:u→α},Option.map f x=Option.some b↔∃a,x=Option.some a∧f a=b:=@Option.map_eq_some_iff
theorem Br:∀(n m k:Nat),n+m+k=n+(m+k):=@Nat.add_assoc
theorem Bs.{u}:∀{α:Sort u}(a b:α),(bif Bool.false then a else b)=b:=@cond_false
theorem Bt.{u}:∀{α:Type u} [Add α] [Zero α] {a:α}{l:List α},(a::l).sum=a+l.sum:=@List.sum_cons
theorem Bu.{u}:∀{α:Type u}{i:Nat}{l:List α}(h:i<l.length),List.drop i l=l[i]::List.drop (i+1) l:=@List.drop_eq_getElem_cons
theorem Bv.{u}:∀{α:Type u}{l:List α},l.length=0↔l=[]:=@List.length_eq_zero_iff
theorem Bw:∀{a b c:Int},a≤b→0≤c→a*c≤b*c:=@Int.mul_le_mul_of_nonneg_right
theorem Bx.{u}:∀{α:Type u}{I J:List α},(∀(i:Nat),I[i]?=J[i]?)→I=J:=@List.ext_getElem?
theorem By:∀(n:Nat),n+0=n:=@Nat.add_zero
theorem Bz.{u}:∀{α:Type u}{xs:Array α}{i j:Nat}{a:α},(xs.setIfInBounds i a)[j]?=if i=j then if i<xs.size then Option.some a else Option.none else xs[j]?:=@Array.getElem?_setIfInBounds
theorem B0.{u}:∀{α:Type u}{a:α}{i:Nat}{l:List α},a∈List.drop i l→a∈l:=@List.mem_of_mem_drop
theorem B3.{u}:∀{α:Type u}{a:α}{l:List α},(a::l).Nodup↔¬a∈l∧l.Nodup:=@List.nodup_cons
theorem B4.{u}:∀{α:Sort u}{_:Decidable False}(t e:α),(if False then t else e)=e:=@if_false
theorem B5.{u}:∀{α:Type u}{l:List α}{i:Nat}{a b:α},a∈l.set i b→a∈l∨a=b:=@List.mem_or_eq_of_mem_set
theorem B6.{u}:∀{α:Type u}{i:Nat}{l:List α},(List.drop i l).length=l.length-i:=@List.length_drop
theorem B7.{I}:∀{α:Type I}{u J:List α}{i:Nat},(u++J)[i]?=if i<u.length then u[i]? else J[i-u.length]?:=@List.getElem?_append
theorem B8.{u}:∀{α:Type u}{l:List α}{i:Nat}{a:α},l.getD i a=l[i]?.getD a:=@List.getD_eq_getElem?_getD
theorem B9.{u,I}:∀{α:Type u}{β:Type I}{f:β→α→β}{b:β}{l l':List α},List.foldl f b (l++l')=List.foldl f (List.foldl f b l) l':=@List.foldl_append
theorem Ca.{u,v}:∀{α:Type u}{β:Type v}{x:α}{xs:List α}{f:α→List β},List.flatMap f (x::xs)=f x++List.flatMap f xs:=@List.flatMap_cons
theorem Cb.{u,I}:∀{α:Type u}{β:Type I}{b:β}{l:List α}{f:α→Option β},List.findSome? f l=Option.some b→∃a,a∈l∧f a=Option.some b:=@List.exists_of_findSome?_eq_some
theorem Cc.{u}:∀{α:Type u}{l:List α},List.drop 0 l=l:=@List.drop_zero
theorem Cd:∀{a b:Nat},a≤b→Min.min a b=a:=@Nat.min_eq_left
theorem Ce:∀(a:Nat),a.beq a=Bool.true:=@Nat.beq_refl
theorem Cf.{u}:∀{α:Sort u}{p:α→Prop}(h:∃x,p x),p (Classical.choose h):=@Classical.choose_spec
theorem Cg:∀(n m k:Nat),n*(m+k)=n*m+n*k:=@Nat.mul_add
theorem Ch:∀(w:Go.World) (o:Go.Obj),(w.alloc o).heap[w.heap.size]?=Option.some o:=@Go.heap_alloc_new
theorem Ci:∀(n:Int),-9223372036854775808≤n∧n≤9223372036854775807→Go.IntKind.i64.wrap n=n:=@Go.IntWalk.i64_in
theorem Cj.{u,v}:∀{α:Type u}{β:Type v}{xs I:List α}{f:α→List β},List.flatMap f (xs++I)=List.flatMap f xs++List.flatMap f I:=@List.flatMap_append
theorem Ck.{u,v}:∀{α:Type u}{β:Type v}{f:α→List β},List.flatMap f []=[]:=@List.flatMap_nil
theorem Cl.{u}:∀{α:Type u}{l:List α}{i:Nat}{a:α},l.set i a=if i<l.length then List.take i l++a::List.drop (i+1) l else l:=@List.set_eq_take_append_cons_drop
theorem Cn.{u}:∀{α:Type u}{p:α→Bool}{a:α}{l:List α},p a=Bool.true→List.find? p (a::l)=Option.some a:=@List.find?_cons_of_pos
theorem Co.{u}:∀{α:Type u}{p:α→Bool}{a:α}{l:List α},¬p a=Bool.true→List.find? p (a::l)=List.find? p l:=@List.find?_cons_of_neg
theorem Cp.{u,I}:∀{α:Type u}{β:Type I}(a:α) (f:α→Option β),(Option.some a).bind f=f a:=@Option.bind_some
theorem Cq.{u}:∀{α:Type u}{as:List α}{i:Nat}{a:α},(as.set i a).length=as.length:=@List.length_set
theorem Cr:∀{n:Nat}(m:Nat),0<n→m≤n*m:=@Nat.le_mul_of_pos_left
theorem Cs.{u}:∀{α:Sort u}{_:Decidable True}(t e:α),(if True then t else e)=t:=@if_true
theorem Ct.{J}:∀{α:Type J}{u I:List α},(u++I).Nodup↔u.Nodup∧I.Nodup∧∀(a:α),a∈u→∀(b:α),b∈I→a≠b:=@List.nodup_append
theorem Cu.{I}:∀{α:Type I}{u J:List α}{i:Nat},i≤u.length→List.take i (u++J)=List.take i u:=@List.take_append_of_le_length
theorem Cv.{u}:∀{α:Type u}{a:α}{l:List α}{i:Nat},List.drop (i+1) (a::l)=List.drop i l:=@List.drop_succ_cons
theorem Cw:∀{p:Prop}{_:Decidable p},Decidable.decide p=Bool.false↔¬p:=@decide_eq_false_iff_not
theorem Cx:∀{n m k:Nat},n≤m→m<k→n<k:=@Nat.lt_of_le_of_lt
theorem Cz.{u}:∀{α:Type u}{x:α}{xs:List α}{p:α→Bool},List.filter p (x::xs)=if p x=Bool.true then x::List.filter p xs else List.filter p xs:=@List.filter_cons
theorem C1.{u}:∀{α:Type u}{p:α→Bool}{as:List α}{x:α},x∈List.filter p as↔x∈as∧p x=Bool.true:=@List.mem_filter
theorem C2:∀(a b:Nat),b≤Max.max a b:=@Nat.le_max_right
theorem C3.{u,I}:∀{α:Type u}{β:Type I}(f:α→β),Option.map f Option.none=Option.none:=@Option.map_none
theorem C4:∀{n m:Nat}(k:Nat),n≤m→k*n≤k*m:=@Nat.mul_le_mul_left
theorem C5.{u}:∀{α:Type u}{x:α}{xs:List α}{i:Nat}{a:α},(x::xs).set (i+1) a=x::xs.set i a:=@List.set_cons_succ
theorem C6.{u,I}:∀{α:Type u}{β:Type I}{f:α→List β}{b:β}{l:List α},b∈List.flatMap f l↔∃a,a∈l∧b∈f a:=@List.mem_flatMap
theorem C7.{u}:∀{α:Type u}{l:List α},List.drop l.length l=[]:=@List.drop_length
theorem C8:∀(a b:Nat),a≤Max.max a b:=@Nat.le_max_left
end Go.AM
open List (all_eq_true cons_append drop_append drop_drop drop_of_length_le drop_succ_cons drop_take eq_nil_of_length_eq_zero filter_cons flatten_cons length_append length_cons length_nil map_cons map_nil mem_cons mem_filter mem_flatMap mem_map mem_range nil_append nodup_cons take_left' take_succ_cons take_take)
open Nat (add_assoc add_mul add_zero eq_of_beq_eq_true le_of_ble_eq_true le_refl le_trans lt_of_lt_of_le min_eq_left mul_le_mul_right sub_zero zero_add zero_le)
namespace Go.AM
open Go
def a05:Option Nat:=some 0
def a4y:Array Value:=(Lib.pow10Tab.map fun z=>Value.int .u64 z).toArray
def aUz (w:World):Prop:=∀g,a05=some g→g<w.heap.size∧∃t fr,w.heap[g]?=some (.cells a4y t fr)
def a63 (w:World) (F:Nat→Prop):Prop:=aUz w∧∀g,a05=some g→¬F g
inductive C where
 | int (k:IntKind) (n:Int)
 | bool (b:Bool)
 | str (s:List UInt8)
 | nl
 | sl (es:Nat) (l:List (List C))
 | sn (es:Nat) (l:List (List C))
 | np
 | pt (l:List C)
 | mp (agg:Bool) (l:List (List C))
 | zv (k:Nat)
 | any
 | fn (f:FuncId)
 | clo (f:FuncId) (l:List C)
 | sg (te es:Nat) (l:List (List C))
 deriving Inhabited
inductive MK where
 | all (es:Array MapEntry) (clk:Nat)
 | part (ks:List UInt8→Prop)
 | top (te lo hi:Nat)
def aYp (k:List UInt8) (es:Array MapEntry):Prop:=∃e∈es.toList,e.key=.string ⟨⟨k⟩⟩
def MK.has:MK→List UInt8→Prop
 | .all es _,k=>aYp k es
 | .part ks,k=>ks k
 | .top _ _ _,_=>False
def MK.le:MK→MK→Prop
 | .all es clk,m=>m=.all es clk
 | .part ks,m=>∀k,ks k→m.has k
 | .top te lo hi,m=>m=.top te lo hi
theorem MK.le_refl (m:MK):m.le m:=by cases m<;>simp[MK.le,MK.has]
theorem MK.le_has {m u:MK}(h:m.le u) {k:List UInt8}(e:m.has k):u.has k:=by
 cases m with
 | all es clk=>simp only[MK.le] at h;subst h;exact e
 | part ks=>exact h k e
 | top te lo hi=>cases e
theorem MK.le_trans {m I u:MK}(h:m.le I) (k:I.le u):m.le u:=by
 cases m with
 | all es clk=>simp only[MK.le] at h;subst h;exact k
 | part ks=>exact fun s e=>MK.le_has k (h s e)
 | top te lo hi=>simp only[MK.le] at h;subst h;exact k
def MK.holds:MK→Option Obj→Prop
 | .all es clk,o=>o=some (.map es clk)
 | .part ks,o=>∃es clk,o=some (.map es clk)∧∀k,ks k→aYp k es
 | .top te _ hi,o=>∃vs,o=some (.cells ⟨vs⟩ te (0,0))∧hi≤vs.length
theorem MK.holds_some {m:MK}{o:Option Obj}(h:m.holds o):∃x,o=some x:=by
 cases m with
 | all es clk=>exact⟨_,h⟩
 | part ks=>obtain⟨es,clk,h1,_⟩:=h;exact⟨_,h1⟩
 | top te lo hi=>obtain⟨vs,h1,_⟩:=h;exact⟨_,h1⟩
structure Sto where
 cell:Nat→Nat→Option Value
 mapo:Nat→Option MK
def Sto.le (S S':Sto):Prop:=(∀b o v,S.cell b o=some v→S'.cell b o=some v)∧(∀b m,S.mapo b=some m→∃m',S'.mapo b=some m'∧m.le m')
theorem Sto.le_refl (S:Sto):S.le S:=⟨fun _ _ _ h=>h,fun _ m h=>⟨m,h,m.le_refl⟩⟩
theorem Sto.le_trans {S S' S'':Sto}(h:S.le S') (k:S'.le S''):S.le S'':=⟨fun b o v e=>k.1 b o v (h.1 b o v e),fun b m e=>by
 obtain⟨I,h1,h2⟩:=h.2 b m e;obtain⟨u,h3,h4⟩:=k.2 b I h1
 exact⟨u,h3,MK.le_trans h2 h4⟩⟩
theorem Sto.le_all {S S':Sto}(h:S.le S') {b:Nat}{es:Array MapEntry}{clk:Nat}(e:S.mapo b=some (.all es clk)):S'.mapo b=some (.all es clk):=by
 obtain⟨u,h1,h2⟩:=h.2 b _ e;simp only[MK.le] at h2;rw[h1,h2]
theorem Sto.le_top {S S':Sto}(h:S.le S') {b te lo hi:Nat}(e:S.mapo b=some (.top te lo hi)):S'.mapo b=some (.top te lo hi):=by
 obtain⟨u,h1,h2⟩:=h.2 b _ e;simp only[MK.le] at h2;rw[h1,h2]
def Sto.free (S:Sto):Prop:=∀b te lo hi,S.mapo b=some (.top te lo hi)→∀o,lo≤o→S.cell b o=none
def Sto.noTop (S:Sto):Prop:=∀b m,S.mapo b=some m→∃es clk,m=.all es clk
def a0q:Nat→Value
 | 0=>.map none
 | 1=>.nilFunc
 | _=>.nilIface
def gN (S:Sto) (b o:Nat) (vs:List Value):Prop:=∀i v,vs[i]?=some v→S.cell b (o+i)=some v
theorem gN.mono {S S':Sto}(h:S.le S') {b o:Nat}{vs:List Value}(k:gN S b o vs):gN S' b o vs:=fun i v e=>h.1 _ _ _ (k i v e)
mutual
def Rep (S:Sto):C→Value→Prop
 | .int k n,v=>v=.int k n
 | .bool b,v=>v=.bool b
 | .str s,v=>v=.string ⟨⟨s⟩⟩
 | .nl,v=>v=.slice none 0 0
 | .sl es l,v=>∃a len cap,v=.slice a len cap∧len=l.length∧len≤cap∧cap≤maxLen∧(a=none→len=0∧cap=0)∧
   (∀ad,a=some ad→cap≠0→ad.spot=none)∧∃b o,(∀ad,a=some ad→ad.block=b∧ad.off=o)∧bN S es b l o
 | .sn es l,v=>∃b o sp len cap,v=.slice (some ⟨b,o,sp⟩) len cap∧len=l.length∧len≤cap∧cap≤maxLen∧(cap≠0→sp=none)∧bN S es b l o
 | .np,v=>v=.pointer none
 | .pt l,v=>∃b o,v=.pointer (some ⟨b,o,none⟩)∧∃vs,dQ S l vs∧gN S b o vs
 | .mp agg l,v=>∃b es clk,v=.map (some b)∧S.mapo b=some (.all es clk)∧(bP S agg l es.toList∨aR4 S agg l es)
 | .zv k,v=>v=a0q k
 | .any,v=>v.cells= #[v]∧v.oneCell'=true
 | .fn f,v=>v=.func (.func f) #[] ⟨[]⟩
 | .clo f l,v=>∃vs,v=.func (.func f) #[] ⟨vs⟩∧dQ S l vs
 | .sg te es l,v=>∃a len cap,v=.slice a len cap∧len=l.length∧len≤cap∧cap≤maxLen∧((a=none∧len=0∧cap=0)∨∃b o,a=some ⟨b,o,none⟩∧bN S es b l o∧S.mapo b=some (.top te (o+l.length*es) (o+cap*es)))
def dQ (S:Sto):List C→List Value→Prop
 | [],vs=>vs=[]
 | c::cs,vs=>∃v vs',vs=v::vs'∧Rep S c v∧dQ S cs vs'
def bN (S:Sto) (es b:Nat):List (List C)→Nat→Prop
 | [],_=>True
 | r::rs,o=>r.length=es∧(∃vs,dQ S r vs∧gN S b o vs)∧bN S es b rs (o+es)
def bP (S:Sto) (agg:Bool):List (List C)→List MapEntry→Prop
 | [],es=>es=[]
 | r::rs,es=>∃e es',es=e::es'∧(∃vs,dQ S r (e.key::vs)∧(e.val=if agg then .agg ⟨vs⟩ else vs.headD undef)∧(agg=false→vs.length=1))∧bP S agg rs es'
def nO (S:Sto) (agg:Bool):List (List C)→MapEntry→Prop
 | [],_=>False
 | r::rs,e=>(∃vs,dQ S r (e.key::vs)∧(e.val=if agg then .agg ⟨vs⟩ else vs.headD undef)∧(agg=false→vs.length=1))∨nO S agg rs e
def aR4 (S:Sto) (agg:Bool):List (List C)→Array MapEntry→Prop
 | [],_=>False
 | r::rs,es=>r=[]∧(∀e∈es.toList,nO S agg rs e)∧∀k cs,(.str k::cs)∈rs→aYp k es
end
mutual
theorem Rep.mono {S S':Sto}(h:S.le S'):∀(c:C) (v:Value),Rep S c v→Rep S' c v
 | .int _ _,_,k=>by simpa [Rep] using k
 | .bool _,_,k=>by simpa [Rep] using k
 | .str _,_,k=>by simpa [Rep] using k
 | .nl,_,k=>by simpa [Rep] using k
 | .np,_,k=>by simpa [Rep] using k
 | .zv _,_,k=>by simpa [Rep] using k
 | .any,_,k=>by simp only[Rep] at k ⊢;exact k
 | .fn _,_,k=>by simpa [Rep] using k
 | .clo _ l,v,k=>by
  simp only[Rep] at k ⊢;obtain⟨vs,h1,h2⟩:=k;exact⟨vs,h1,dQ.mono h l vs h2⟩
 | .sg te es l,v,k=>by
  simp only[Rep] at k ⊢;obtain⟨a,len,cap,h1,h2,h3,h4,h5⟩:=k;refine⟨a,len,cap,h1,h2,h3,h4,h5.imp id fun⟨b,o,h6,h7,I⟩=>⟨b,o,h6,bN.mono h es b l o h7,Sto.le_top h I⟩⟩
 | .sl es l,v,k=>by
  simp only[Rep] at k ⊢;obtain⟨a,len,cap,h1,h2,h3,h4,h5,h6,b,o,h7,I⟩:=k;exact⟨a,len,cap,h1,h2,h3,h4,h5,h6,b,o,h7,bN.mono h es b l o I⟩
 | .sn es l,v,k=>by
  simp only[Rep] at k ⊢;obtain⟨b,o,sp,len,cap,h1,h2,h3,h4,h5,h6⟩:=k;exact⟨b,o,sp,len,cap,h1,h2,h3,h4,h5,bN.mono h es b l o h6⟩
 | .pt l,v,k=>by
  simp only[Rep] at k ⊢;obtain⟨b,o,h1,vs,h2,h3⟩:=k;exact⟨b,o,h1,vs,dQ.mono h l vs h2,h3.mono h⟩
 | .mp agg l,v,k=>by
  simp only[Rep] at k ⊢;obtain⟨b,es,clk,h1,h2,h3⟩:=k;exact⟨b,es,clk,h1,Sto.le_all h h2,h3.elim (fun h3=>.inl (bP.mono h agg l es.toList h3)) fun h3=>.inr (aR4.mono h agg l es h3)⟩
theorem dQ.mono {S S':Sto}(h:S.le S'):∀(c:List C) (v:List Value),dQ S c v→dQ S' c v
 | [],_,k=>by simpa [dQ] using k
 | c::cs,vs,k=>by
  simp only[dQ] at k ⊢;obtain⟨v,vs',h1,h2,h3⟩:=k;exact⟨v,vs',h1,Rep.mono h c v h2,dQ.mono h cs vs' h3⟩
theorem bN.mono {S S':Sto}(h:S.le S') (es b:Nat):∀(l:List (List C)) (o:Nat),bN S es b l o→bN S' es b l o
 | [],_,_=>by simp[bN]
 | r::rs,o,k=>by
  simp only[bN] at k ⊢;obtain⟨h1,⟨vs,h2,h3⟩,h4⟩:=k;exact⟨h1,⟨vs,dQ.mono h r vs h2,h3.mono h⟩,bN.mono h es b rs (o+es) h4⟩
theorem bP.mono {S S':Sto}(h:S.le S') (agg:Bool):∀(l:List (List C)) (es:List MapEntry),bP S agg l es→bP S' agg l es
 | [],_,k=>by simpa [bP] using k
 | r::rs,es,k=>by
  simp only[bP] at k ⊢;obtain⟨e,u,h1,⟨vs,h2,h3⟩,h4⟩:=k;exact⟨e,u,h1,⟨vs,dQ.mono h r _ h2,h3⟩,bP.mono h agg rs u h4⟩
theorem nO.mono {S S':Sto}(h:S.le S') (agg:Bool):∀(l:List (List C)) (e:MapEntry),nO S agg l e→nO S' agg l e
 | [],_,k=>by simp only[nO] at k
 | r::rs,e,k=>by
  simp only[nO] at k ⊢;rcases k with⟨vs,h2,h3⟩ | k
  ·exact .inl ⟨vs,dQ.mono h r _ h2,h3⟩
  ·exact .inr (nO.mono h agg rs e k)
theorem aR4.mono {S S':Sto}(h:S.le S') (agg:Bool):∀(l:List (List C)) (es:Array MapEntry),aR4 S agg l es→aR4 S' agg l es
 | [],_,k=>by simp only[aR4] at k
 | r::rs,es,k=>by
  simp only[aR4] at k ⊢;exact⟨k.1,fun e he=>nO.mono h agg rs e (k.2.1 e he),k.2.2⟩
end
theorem dQ.length {S:Sto}:∀{c:List C}{v:List Value},dQ S c v→v.length=c.length
 | [],_,k=>by simp only[dQ] at k;subst k;rfl
 | _::cs,_,k=>by
  simp only[dQ] at k;obtain⟨v,vs',rfl,_,h⟩:=k;simp[dQ.length h]
theorem dQ.append {S:Sto}:∀{a:List C}{x:List Value}{b:List C}{y:List Value},dQ S a x→dQ S b y→dQ S (a++b) (x++y)
 | [],_,_,_,h,k=>by simp only[dQ] at h;subst h;simpa using k
 | _::_,_,_,_,h,k=>by
  simp only[dQ,A3] at h ⊢;obtain⟨v,vs',rfl,h1,h2⟩:=h;exact⟨v,vs'++_,rfl,h1,h2.append k⟩
theorem dQ.take {S:Sto}:∀{a:List C}{x:List Value}(n:Nat),dQ S a x→dQ S (a.take n) (x.take n)
 | _,_,0,_=>by simp[dQ]
 | [],_,n+1,h=>by simp only[dQ] at h;subst h;simp[dQ]
 | _::_,_,n+1,h=>by
  simp only[dQ,An] at h ⊢;obtain⟨v,vs',rfl,h1,h2⟩:=h;exact⟨v,vs'.take n,by simp,h1,h2.take n⟩
theorem dQ.drop {S:Sto}:∀{a:List C}{x:List Value}(n:Nat),dQ S a x→dQ S (a.drop n) (x.drop n)
 | _,_,0,h=>by simpa using h
 | [],_,n+1,h=>by simp only[dQ] at h;subst h;simp[dQ]
 | _::_,_,n+1,h=>by
  simp only[dQ,Cv] at h ⊢;obtain⟨v,vs',rfl,h1,h2⟩:=h;simpa using h2.drop n
theorem bN.get {S:Sto}{es b:Nat}:∀{l:List (List C)}{o:Nat},bN S es b l o→∀(i:Nat) (r:List C),l[i]?=some r→r.length=es∧∃vs,dQ S r vs∧gN S b (o+i*es) vs
 | [],_,_,i,r,h=>by simp at h
 | x::xs,o,k,i,r,h=>by
  simp only[bN] at k;obtain⟨h1,h2,h3⟩:=k;cases i with
  | zero=>simp at h;subst h;simpa using ⟨h1,h2⟩
  | succ i=>
   simp at h;have:=h3.get i r h;rw[show o+es+i*es=o+(i+1)*es by rw[A1];omega] at this;exact this
theorem bN.drop {S:Sto}{es b:Nat}:∀{l:List (List C)}{o:Nat}(n:Nat),bN S es b l o→bN S es b (l.drop n) (o+n*es)
 | _,_,0,h=>by simpa using h
 | [],_,n+1,_=>by simp[bN]
 | x::xs,o,n+1,h=>by
  simp only[bN,Cv] at h ⊢;have:=h.2.2.drop n;rw[show o+es+n*es=o+(n+1)*es by rw[A1];omega] at this;exact this
theorem bN.take {S:Sto}{es b:Nat}:∀{l:List (List C)}{o:Nat}(n:Nat),bN S es b l o→bN S es b (l.take n) o
 | _,_,0,_=>by simp[bN]
 | [],_,n+1,_=>by simp[bN]
 | x::xs,o,n+1,h=>by
  simp only[bN,An] at h ⊢;exact⟨h.1,h.2.1,h.2.2.take n⟩
theorem bN.of_flat {S:Sto}{es b:Nat}:∀{l:List (List C)}{o:Nat}{vs:List Value},(∀r∈l,r.length=es)→dQ S l.flatten vs→gN S b o vs→bN S es b l o
 | [],_,_,_,_,_=>by simp[bN]
 | r::rs,o,vs,hl,h,hc=>by
  have u:r.length=es:=hl r (by simp);simp only[bN,Bi] at h ⊢;have h1:=h.take r.length;have h2:=h.drop r.length;simp only[take_left',List.drop_left'] at h1 h2;refine⟨u,⟨_,h1,fun i v e=>?_⟩,bN.of_flat (fun x hx=>hl x (by simp[hx])) h2 fun i v e=>?_⟩
  ·rw[Au] at e;split at e
   ·exact hc i v e
   ·cases e
  ·rw[Ao,u] at e;have:=hc (es+i) v e;rwa [←Br] at this
inductive R where
 | c (x:C)
 | hs (id off len sz:Nat)
 | tl (id off len sz:Nat)
 | vp (id off:Nat)
 | ep (id i fo sz:Nat)
 | mr (id:Nat)
 | clo (f:FuncId) (caps:List R)
 | mth (f:FuncId) (recv:R)
 | yl (id:Nat)
 | ra (id off len sz:Nat)
 | rp (id i fo sz:Nat)
 | ras (n es:Nat) (l:List R)
 | pas (l:List R)
 deriving Inhabited
inductive V where
 | one (r:R)
 | pa (l:List C)
 | ma (l:List R)
 | tup (l:List V)
 deriving Inhabited
structure LI where
 n:Nat
 params:Array Tmp
 asg:Code
 body:Code
 deriving Inhabited
inductive AObj where
 | var (t:TypeId) (cells:List R)
 | arr (te es:Nat) (elems:List (List C)) (fz:Nat)
 | map (agg:Bool) (ents:List (List C))
 | dead
 | lp (st:LoopState) (jump:Option Code) (i:LI) (e:List (Nat×V))
 | dfr
 | rarr (te es:Nat) (elems:List (List R))
 | tok (r:R) (k:List UInt8)
 deriving Inhabited
abbrev dC:=Nat→Option AObj
abbrev Mu:=Nat→Option (Nat×Nat×Nat)
mutual
def bL (S:Sto) (μ:Mu) (H:dC):R→Value→Prop
 | .c x,v=>Rep S x v
 | .hs id off len sz,v=>(∃a l c,v=.slice a l c)∧(H id=some .dead∨∃te es elems fz,H id=some (.arr te es elems fz)∧sz≤elems.length∧
   (sz=elems.length→off+len≤sz∧((μ id=none∧elems=[]∧v=.slice none 0 0)∨∃b base cap,μ id=some (b,base,cap)∧v=.slice (some ⟨b,base+off*es,none⟩) len (cap-off))))
 | .tl id off len sz,v=>(∃a l c,v=.slice a l c)∧(H id=some .dead∨∃te es elems fz,H id=some (.arr te es elems fz)∧sz≤elems.length∧
   (sz=elems.length→off+len=sz∧∃b base cap,μ id=some (b,base,cap)∧off≤cap∧v=.slice (some ⟨b,if cap=off then base else base+off*es,none⟩) len (cap-off)))
 | .vp id off,v=>∃t cells b c,H id=some (.var t cells)∧μ id=some (b,c)∧v=.pointer (some ⟨b,off,none⟩)
 | .ep id i fo sz,v=>(∃a,v=.pointer a)∧(H id=some .dead∨∃te es elems fz,H id=some (.arr te es elems fz)∧sz≤elems.length∧
   (sz=elems.length→i<sz∧∃b base cap,μ id=some (b,base,cap)∧v=.pointer (some ⟨b,base+i*es+fo,none⟩)))
 | .mr id,v=>∃agg ents b c,H id=some (.map agg ents)∧μ id=some (b,c)∧v=.map (some b)
 | .clo f caps,v=>∃vs,v=.func (.func f) #[] ⟨vs⟩∧bC S μ H caps vs
 | .mth f recv,v=>∃u,v=.func (.func f) #[u] #[]∧bL S μ H recv u
 | .yl id,v=>∃st j i e b c,H id=some (.lp st j i e)∧μ id=some (b,c)∧v=.func (.yield b) #[] #[]
 | .ra id off len sz,v=>(∃a l c,v=.slice a l c)∧(H id=some .dead∨∃te es elems,H id=some (.rarr te es elems)∧sz≤elems.length∧
   (sz=elems.length→off+len≤sz∧((μ id=none∧elems=[]∧v=.slice none 0 0)∨∃b base cap,μ id=some (b,base,cap)∧v=.slice (some ⟨b,base+off*es,none⟩) len (cap-off))))
 | .rp id i fo sz,v=>(∃a,v=.pointer a)∧(H id=some .dead∨∃te es elems,H id=some (.rarr te es elems)∧sz≤elems.length∧
   (sz=elems.length→i<sz∧∃b base cap,μ id=some (b,base,cap)∧v=.pointer (some ⟨b,base+i*es+fo,none⟩)))
 | .ras n es l,v=>∃a cap,v=.slice a n cap∧n*es=l.length∧n≤cap∧cap≤maxLen∧(a=none→n=0∧cap=0)∧(∀ad,a=some ad→ad.spot=none)∧∃b o,(∀ad,a=some ad→ad.block=b∧ad.off=o)∧
   ∃vs,bC S μ H l vs∧gN S b o vs
 | .pas l,v=>∃b o,v=.pointer (some ⟨b,o,none⟩)∧∃vs,bC S μ H l vs∧gN S b o vs
def bC (S:Sto) (μ:Mu) (H:dC):List R→List Value→Prop
 | [],vs=>vs=[]
 | r::rs,vs=>∃v vs',vs=v::vs'∧bL S μ H r v∧bC S μ H rs vs'
end
mutual
def bE (S:Sto) (μ:Mu) (H:dC):V→Value→Prop
 | .one r,v=>bL S μ H r v
 | .pa l,v=>∃vs,v=.agg ⟨vs⟩∧dQ S l vs
 | .ma l,v=>∃vs,v=.agg ⟨vs⟩∧bC S μ H l vs
 | .tup l,v=>∃vs,v=.tuple ⟨vs⟩∧c6 S μ H l vs
def c6 (S:Sto) (μ:Mu) (H:dC):List V→List Value→Prop
 | [],vs=>vs=[]
 | r::rs,vs=>∃v vs',vs=v::vs'∧bE S μ H r v∧c6 S μ H rs vs'
end
def lO:List (List C)→Prop
 | []=>True
 | (.str _::_)::r=>lO r
 | _::_=>False
def aDv (S:Sto) (agg:Bool) (ents:List (List C)) (es:List MapEntry):Prop:=(ents=[[]]∧∃e',lO e'∧bP S agg e' es)∨bP S agg ents es∨∃T,ents=[]::T∧T≠[]∧∀e∈es,nO S agg T e
theorem aDv.mono {S S':Sto}(h:S.le S') {agg:Bool}{ents:List (List C)}{es:List MapEntry}(k:aDv S agg ents es):aDv S' agg ents es:=
 k.imp (fun⟨h1,e',h2,h3⟩=>⟨h1,e',h2,bP.mono h _ _ _ h3⟩) fun k=>k.imp (bP.mono h _ _ _) fun⟨T,h1,h2,h3⟩=>⟨T,h1,h2,fun e he=>nO.mono h _ _ _ (h3 e he)⟩
theorem aDv.rep {S:Sto}{agg:Bool}{ents:List (List C)}{es:List MapEntry}(hm:lO ents) (k:aDv S agg ents es):bP S agg ents es:=
 k.elim (fun h=>by rw[h.1] at hm;simp[lO] at hm) fun k=>k.elim id fun⟨T,h,_⟩=>by rw[h] at hm;simp[lO] at hm
def aK3 (S:Sto) (b:Nat) (ents:List (List C)):Prop:=S.mapo b=none∨∃T ks,ents=[]::T∧T≠[]∧S.mapo b=some (.part ks)
theorem aK3.kn0 {S:Sto}{b:Nat}{ents:List (List C)}(h:aK3 S b ents) (hm:lO ents):S.mapo b=none:=by
 rcases h with h | ⟨T,ks,h,_⟩
 ·exact h
 ·rw[h] at hm;simp[lO] at hm
theorem aK3.of_eq {S S':Sto}{b:Nat}{ents:List (List C)}(h:aK3 S b ents) (e:S'.mapo b=S.mapo b):aK3 S' b ents:=
 h.imp (fun h=>e.trans h) fun⟨T,ks,h1,h2,h3⟩=>⟨T,ks,h1,h2,e.trans h3⟩
def o9 (S:Sto) (μ:Mu) (H:dC) (w:World) (id:Nat):AObj→Prop
 | .var t cells=>∃b vs,μ id=some (b,0,0)∧w.heap[b]?=some (.cells ⟨vs⟩ t (0,0))∧bC S μ H cells vs∧(∀o,S.cell b o=none)∧S.mapo b=none
 | .arr te es elems fz=>(∀r∈elems,r.length=es)∧((μ id=none∧elems=[])∨∃b base cap vs,μ id=some (b,base,cap)∧w.heap[b]?=some (.cells ⟨vs⟩ te (0,0))∧
   base+cap*es≤vs.length∧elems.length≤cap∧(cap≤maxLen∧S.mapo b=none)∧dQ S elems.flatten ((vs.drop base).take (elems.length*es))∧
   (fz=0→∀o,base≤o→S.cell b o=none)∧(∀o,base+elems.length*es≤o→S.cell b o=none)∧(fz=2→gN S b base ((vs.drop base).take (elems.length*es))))
 | .map agg ents=>∃b es clk,μ id=some (b,0,0)∧w.heap[b]?=some (.map es clk)∧aDv S agg ents es.toList∧aK3 S b ents
 | .dead=>μ id=none
 | .lp st j i e=>∃b r fn tmps,μ id=some (b,0,0)∧w.heap[b]?=some (.loop { state:=st,pending:=j,fn:=fn,tmps:=tmps,params:=i.params,assign:=i.asg,body:=i.body,defers:=r })∧
   tmps.size=i.n∧(∀t v,(t,v)∈e→bE S μ H v (tmps.getD t undef))∧(∀o,S.cell b o=none)∧S.mapo b=none
 | .dfr=>∃b,μ id=some (b,0,0)∧w.heap[b]?=some (.deferred (some []))∧(∀o,S.cell b o=none)∧S.mapo b=none
 | .rarr te es elems=>(∀r∈elems,r.length=es)∧((μ id=none∧elems=[])∨∃b base cap vs,μ id=some (b,base,cap)∧w.heap[b]?=some (.cells ⟨vs⟩ te (0,0))∧
   base+cap*es≤vs.length∧elems.length≤cap∧(cap≤maxLen∧S.mapo b=none)∧bC S μ H elems.flatten ((vs.drop base).take (elems.length*es))∧(∀o,base≤o→S.cell b o=none))
 | .tok r k=>μ id=none∧∃b,bL S μ H r (.map (some b))∧∃m,S.mapo b=some m∧m.has k
def AObj.succ (same:Prop):AObj→AObj→Prop
 | .var _ _,.var _ _=>same
 | .arr _ es l _,.arr _ es' l' _=>es=es'∧l.length≤l'.length∧(l.length=l'.length→same)
 | .map _ _,.map _ _=>same
 | .arr _ _ _ _,.dead=>True
 | .dead,.dead=>True
 | .lp _ _ _ _,.lp _ _ _ _=>same
 | .dfr,.dfr=>same
 | .rarr _ es l,.rarr _ es' l'=>es=es'∧l.length≤l'.length∧(l.length=l'.length→same)
 | .rarr _ _ _,.dead=>True
 | .tok _ k,.tok _ k'=>k=k'
 | _,_=>False
structure Evolve (S:Sto) (μ:Mu) (H:dC) (S':Sto) (μ':Mu) (H':dC):Prop where
 le:S.le S'
 obj:∀id o,H id=some o→∃o',H' id=some o'∧o.succ (μ' id=μ id) o'
structure Evo0 (S:Sto) (μ:Mu) (H:dC) (S':Sto) (μ':Mu) (H':dC):Prop where
 le:S.le S'
 obj:∀id o,H id=some o→o≠ .dfr→∃o',H' id=some o'∧o.succ (μ' id=μ id) o'
theorem Evolve.weak {S:Sto}{μ:Mu}{H:dC}{S':Sto}{μ':Mu}{H':dC}(E:Evolve S μ H S' μ' H'):Evo0 S μ H S' μ' H':=⟨E.le,fun id o h _=>E.obj id o h⟩
theorem AObj.succ_refl (o:AObj) {p:Prop}(h:p):o.succ p o:=by cases o<;>simp[AObj.succ,h]
theorem AObj.succ_dead {o:AObj}{p:Prop}(h:AObj.dead.succ p o):o=.dead:=by cases o<;>simp only[AObj.succ] at h;rfl
theorem AObj.succ_trans {a b c:AObj}{p q r:Prop}(h:a.succ p b) (k:b.succ q c) (u:p→q→r):a.succ r c:=by
  cases a<;>cases b<;>simp only[AObj.succ] at h<;>cases c<;>simp only[AObj.succ] at k ⊢
  all_goals first
    | exact u h k
    | trivial
    | exact h.trans k
    | (obtain⟨h1,h2,h3⟩:=h
       obtain⟨I,J,N⟩:=k
       exact⟨h1.trans I,le_trans h2 J,fun e=>u (h3 (by omega)) (N (by omega))⟩)
theorem Evolve.refl (S:Sto) (μ:Mu) (H:dC):Evolve S μ H S μ H:=⟨S.le_refl,fun _ o h=>⟨o,h,o.succ_refl rfl⟩⟩
theorem Evolve.trans {S S' S'':Sto}{μ μ' u:Mu}{H H' H'':dC}(h:Evolve S μ H S' μ' H') (k:Evolve S' μ' H' S'' u H''):Evolve S μ H S'' u H'':=
 ⟨Sto.le_trans h.le k.le,fun id o J=>by
  obtain⟨o',h1,h2⟩:=h.obj id o J;obtain⟨I,N,O⟩:=k.obj id o' h1
  exact⟨I,N,AObj.succ_trans h2 O fun e f=>f.trans e⟩⟩
section
variable {S S':Sto}{μ μ':Mu}{H H':dC}
mutual
theorem bL.evolve0 (E:Evo0 S μ H S' μ' H'):∀(r:R) (v:Value),bL S μ H r v→bL S' μ' H' r v
 | .c x,v,k=>by simp only[bL] at k ⊢;exact Rep.mono E.le x v k
 | .hs id off len sz,v,k=>by
  simp only[bL] at k ⊢;obtain⟨kk,k⟩:=k;refine⟨kk,?_⟩;rcases k with k | ⟨te,es,elems,fz,h1,h2,h3⟩
  ·obtain⟨o',h4,h5⟩:=E.obj _ _ k (by simp);exact .inl (by rw[h4,AObj.succ_dead h5])
  obtain⟨o',h4,h5⟩:=E.obj _ _ h1 (by simp);cases o' with
  | arr I Y elems' N=>
   simp only[AObj.succ] at h5;obtain⟨rfl,h6,h7⟩:=h5;refine .inr ⟨I,es,elems',N,h4,le_trans h2 h6,fun e=>?_⟩;have Z:sz=elems.length:=by omega
   obtain⟨J,O⟩:=h3 Z;have hm:=h7 (by omega);refine⟨J,?_⟩;rcases O with⟨g1,g2,g3⟩ | ⟨b,base,cap,g1,g2⟩
   ·refine .inl ⟨by rw[hm,g1],?_,g3⟩;subst g2;simp only[length_nil] at Z h6;exact Az (by omega)
   ·exact .inr ⟨b,base,cap,by rw[hm,g1],g2⟩
  | dead=>exact .inl h4
  | _=>simp only[AObj.succ] at h5
 | .tl id off len sz,v,k=>by
  simp only[bL] at k ⊢;obtain⟨kk,k⟩:=k;refine⟨kk,?_⟩;rcases k with k | ⟨te,es,elems,fz,h1,h2,h3⟩
  ·obtain⟨o',h4,h5⟩:=E.obj _ _ k (by simp);exact .inl (by rw[h4,AObj.succ_dead h5])
  obtain⟨o',h4,h5⟩:=E.obj _ _ h1 (by simp);cases o' with
  | arr I Y elems' N=>
   simp only[AObj.succ] at h5;obtain⟨rfl,h6,h7⟩:=h5;refine .inr ⟨I,es,elems',N,h4,le_trans h2 h6,fun e=>?_⟩;obtain⟨J,b,base,cap,g1,g2⟩:=h3 (by omega);exact⟨J,b,base,cap,by rw[h7 (by omega),g1],g2⟩
  | dead=>exact .inl h4
  | _=>simp only[AObj.succ] at h5
 | .vp id off,v,k=>by
  simp only[bL] at k ⊢;obtain⟨t,cells,b,c,h1,h2,h3⟩:=k;obtain⟨o',h4,h5⟩:=E.obj _ _ h1 (by simp);cases o' with
  | var t' cells'=>simp only[AObj.succ] at h5;exact⟨t',cells',b,c,h4,by rw[h5,h2],h3⟩
  | _=>simp only[AObj.succ] at h5
 | .ep id i fo sz,v,k=>by
  simp only[bL] at k ⊢;obtain⟨kk,k⟩:=k;refine⟨kk,?_⟩;rcases k with k | ⟨te,es,elems,fz,h1,h2,h3⟩
  ·obtain⟨o',h4,h5⟩:=E.obj _ _ k (by simp);exact .inl (by rw[h4,AObj.succ_dead h5])
  obtain⟨o',h4,h5⟩:=E.obj _ _ h1 (by simp);cases o' with
  | arr I Y elems' N=>
   simp only[AObj.succ] at h5;obtain⟨rfl,h6,h7⟩:=h5;refine .inr ⟨I,es,elems',N,h4,le_trans h2 h6,fun e=>?_⟩;obtain⟨J,b,base,cap,g1,g2⟩:=h3 (by omega);exact⟨J,b,base,cap,by rw[h7 (by omega),g1],g2⟩
  | dead=>exact .inl h4
  | _=>simp only[AObj.succ] at h5
 | .mr id,v,k=>by
  simp only[bL] at k ⊢;obtain⟨agg,ents,b,c,h1,h2,h3⟩:=k;obtain⟨o',h4,h5⟩:=E.obj _ _ h1 (by simp);cases o' with
  | map ab aa=>simp only[AObj.succ] at h5;exact⟨ab,aa,b,c,h4,by rw[h5,h2],h3⟩
  | _=>simp only[AObj.succ] at h5
 | .clo f caps,v,k=>by
  simp only[bL] at k ⊢;obtain⟨vs,h1,h2⟩:=k;exact⟨vs,h1,bC.evolve0 E caps vs h2⟩
 | .mth f recv,v,k=>by
  simp only[bL] at k ⊢;obtain⟨u,h1,h2⟩:=k;exact⟨u,h1,bL.evolve0 E recv u h2⟩
 | .rp id i fo sz,v,k=>by
  simp only[bL] at k ⊢;obtain⟨kk,k⟩:=k;refine⟨kk,?_⟩;rcases k with k | ⟨te,es,elems,h1,h2,h3⟩
  ·obtain⟨o',h4,h5⟩:=E.obj _ _ k (by simp);exact .inl (by rw[h4,AObj.succ_dead h5])
  obtain⟨o',h4,h5⟩:=E.obj _ _ h1 (by simp);cases o' with
  | rarr I Y elems'=>
   simp only[AObj.succ] at h5;obtain⟨rfl,h6,h7⟩:=h5;refine .inr ⟨I,es,elems',h4,le_trans h2 h6,fun e=>?_⟩;obtain⟨J,b,base,cap,g1,g2⟩:=h3 (by omega);exact⟨J,b,base,cap,by rw[h7 (by omega),g1],g2⟩
  | dead=>exact .inl h4
  | _=>simp only[AObj.succ] at h5
 | .yl id,v,k=>by
  simp only[bL] at k ⊢;obtain⟨st,j,i,e,b,c,h1,h2,h3⟩:=k;obtain⟨o',h4,h5⟩:=E.obj _ _ h1 (by simp);cases o' with
  | lp st' j' i' e'=>simp only[AObj.succ] at h5;exact⟨st',j',i',e',b,c,h4,by rw[h5,h2],h3⟩
  | _=>simp only[AObj.succ] at h5
 | .ra id off len sz,v,k=>by
  simp only[bL] at k ⊢;obtain⟨kk,k⟩:=k;refine⟨kk,?_⟩;rcases k with k | ⟨te,es,elems,h1,h2,h3⟩
  ·obtain⟨o',h4,h5⟩:=E.obj _ _ k (by simp);exact .inl (by rw[h4,AObj.succ_dead h5])
  obtain⟨o',h4,h5⟩:=E.obj _ _ h1 (by simp);cases o' with
  | rarr I Y elems'=>
   simp only[AObj.succ] at h5;obtain⟨rfl,h6,h7⟩:=h5;refine .inr ⟨I,es,elems',h4,le_trans h2 h6,fun e=>?_⟩;have Z:sz=elems.length:=by omega
   obtain⟨J,O⟩:=h3 Z;have hm:=h7 (by omega);refine⟨J,?_⟩;rcases O with⟨g1,g2,g3⟩ | ⟨b,base,cap,g1,g2⟩
   ·refine .inl ⟨by rw[hm,g1],?_,g3⟩;subst g2;simp only[length_nil] at Z h6;exact Az (by omega)
   ·exact .inr ⟨b,base,cap,by rw[hm,g1],g2⟩
  | dead=>exact .inl h4
  | _=>simp only[AObj.succ] at h5
 | .ras n es l,v,k=>by
  simp only[bL] at k ⊢;obtain⟨a,cap,h1,h2,h3,h4,h5,h6,b,o,h7,vs,J,O⟩:=k;exact⟨a,cap,h1,h2,h3,h4,h5,h6,b,o,h7,vs,bC.evolve0 E l vs J,O.mono E.le⟩
 | .pas l,v,k=>by
  simp only[bL] at k ⊢;obtain⟨b,o,h1,vs,J,O⟩:=k;exact⟨b,o,h1,vs,bC.evolve0 E l vs J,O.mono E.le⟩
theorem bC.evolve0 (E:Evo0 S μ H S' μ' H'):∀(r:List R) (v:List Value),bC S μ H r v→bC S' μ' H' r v
 | [],_,k=>by simpa [bC] using k
 | r::rs,vs,k=>by
  simp only[bC] at k ⊢;obtain⟨v,vs',h1,h2,h3⟩:=k;exact⟨v,vs',h1,bL.evolve0 E r v h2,bC.evolve0 E rs vs' h3⟩
end
mutual
theorem bE.evolve0 (E:Evo0 S μ H S' μ' H'):∀(r:V) (v:Value),bE S μ H r v→bE S' μ' H' r v
 | .one r,v,k=>by simp only[bE] at k ⊢;exact bL.evolve0 E r v k
 | .pa l,v,k=>by
  simp only[bE] at k ⊢;obtain⟨vs,h1,h2⟩:=k;exact⟨vs,h1,dQ.mono E.le l vs h2⟩
 | .ma l,v,k=>by
  simp only[bE] at k ⊢;obtain⟨vs,h1,h2⟩:=k;exact⟨vs,h1,bC.evolve0 E l vs h2⟩
 | .tup l,v,k=>by
  simp only[bE] at k ⊢;obtain⟨vs,h1,h2⟩:=k;exact⟨vs,h1,c6.evolve0 E l vs h2⟩
theorem c6.evolve0 (E:Evo0 S μ H S' μ' H'):∀(r:List V) (v:List Value),c6 S μ H r v→c6 S' μ' H' r v
 | [],_,k=>by simpa [c6] using k
 | r::rs,vs,k=>by
  simp only[c6] at k ⊢;obtain⟨v,vs',h1,h2,h3⟩:=k;exact⟨v,vs',h1,bE.evolve0 E r v h2,c6.evolve0 E rs vs' h3⟩
end
theorem bC.evolve (E:Evolve S μ H S' μ' H') (r:List R) (v:List Value) (k:bC S μ H r v):bC S' μ' H' r v:=bC.evolve0 E.weak r v k
theorem bE.evolve (E:Evolve S μ H S' μ' H') (r:V) (v:Value) (k:bE S μ H r v):bE S' μ' H' r v:=bE.evolve0 E.weak r v k
theorem c6.evolve (E:Evolve S μ H S' μ' H') (r:List V) (v:List Value) (k:c6 S μ H r v):c6 S' μ' H' r v:=c6.evolve0 E.weak r v k
end
structure Ctx where
 w0:World
 S0:Sto
 F:Nat→Prop
 μ0:Mu
 h0:dC
structure FrameW (w0:World) (F:Nat→Prop) (w:World):Prop where
 os:w.os=w0.os
 tape:w.tape=w0.tape
 output:w.output=w0.output
 size:w0.heap.size≤w.heap.size
 block:∀k,k<w0.heap.size→¬F k→w.heap[k]?=w0.heap[k]?
 tab:a63 w0 F
def Holds (S:Sto) (w:World):Prop:=
 (∀b o v,S.cell b o=some v→∃vs t fr,w.heap[b]?=some (.cells vs t fr)∧vs[o]?=some v)∧(∀b m,S.mapo b=some m→m.holds w.heap[b]?)
structure Inv (G:Ctx) (S:Sto) (μ:Mu) (H:dC) (w:World):Prop where
 holds:Holds S w
 obj:∀id o,H id=some o→o9 S μ H w id o
 inj:∀i j o o' b c c',H i=some o→H j=some o'→μ i=some (b,c)→μ j=some (b,c')→i=j
 own:∀i o b c,H i=some o→μ i=some (b,c)→G.w0.heap.size≤b∨G.F b
 frame:FrameW G.w0 G.F w
 sle:G.S0.le S
 sto:∀b,b<G.w0.heap.size→¬G.F b→(∀o,S.cell b o=G.S0.cell b o)∧S.mapo b=G.S0.mapo b
 evo:Evolve G.S0 G.μ0 G.h0 S μ H
 fre:S.free
theorem FrameW.refl (w:World) (F:Nat→Prop) (h:a63 w F):FrameW w F w:=⟨rfl,rfl,rfl,le_refl _,fun _ _ _=>rfl,h⟩
theorem FrameW.tabAt {w0 w:World}{F:Nat→Prop}(h:FrameW w0 F w):aUz w:=fun g u=>by
 obtain⟨h1,t,fr,h2⟩:=h.tab.1 g u;exact⟨lt_of_lt_of_le h1 h.size,t,fr,by rw[h.block g h1 (h.tab.2 g u)];exact h2⟩
theorem o9.lt {S:Sto}{μ:Mu}{H:dC}{w:World}{id:Nat}{o:AObj}(h:o9 S μ H w id o) {b:Nat}{c:Nat×Nat}(hm:μ id=some (b,c)):b<w.heap.size:=by
 have hl:∀{x:Obj},w.heap[b]?=some x→b<w.heap.size:=fun e=>(Array.getElem?_eq_some_iff.1 e).1
 cases o with
 | var t cells=>
  obtain⟨u,vs,h1,h2,_⟩:=h;rw[hm] at h1;cases h1;exact hl h2
 | arr te es elems fz=>
  obtain⟨_,⟨h1,_⟩ | ⟨u,base,cap,vs,h1,h2,_⟩⟩:=h
  ·rw[hm] at h1;cases h1
  ·rw[hm] at h1;cases h1;exact hl h2
 | map agg ents=>
  obtain⟨u,es,clk,h1,h2,_⟩:=h;rw[hm] at h1;cases h1;exact hl h2
 | dead=>rw[show μ id=none from h] at hm;cases hm
 | lp st j i e=>
  obtain⟨u,r,fn,tmps,h1,h2,_⟩:=h;rw[hm] at h1;cases h1;exact hl h2
 | dfr=>
  obtain⟨u,h1,h2,_⟩:=h;rw[hm] at h1;cases h1;exact hl h2
 | rarr te es elems=>
  obtain⟨_,⟨h1,_⟩ | ⟨u,base,cap,vs,h1,h2,_⟩⟩:=h
  ·rw[hm] at h1;cases h1
  ·rw[hm] at h1;cases h1;exact hl h2
 | tok r k=>rw[h.1] at hm;cases hm
theorem o9.evolve0 {S S':Sto}{μ μ':Mu}{H H':dC}{w w':World}{id:Nat}{o:AObj}(E:Evo0 S μ H S' μ' H') (h:o9 S μ H w id o) (hm:μ' id=μ id)
  (hw:∀b c,μ id=some (b,c)→w'.heap[b]?=w.heap[b]?∧(∀o,S'.cell b o=S.cell b o)∧S'.mapo b=S.mapo b):o9 S' μ' H' w' id o:=by
 cases o with
 | var t cells=>
  obtain⟨b,vs,h1,h2,h3,h4⟩:=h;obtain⟨g1,g2,g3⟩:=hw _ _ h1;exact⟨b,vs,by rw[hm,h1],by rw[g1,h2],bC.evolve0 E _ _ h3,fun o=>by rw[g2,h4.1],by rw[g3,h4.2]⟩
 | arr te es elems fz=>
  obtain⟨h0,⟨h1,h2⟩ | ⟨b,base,cap,vs,h1,h2,h3,h4,h5,h6,h7,I,J⟩⟩:=h
  ·exact⟨h0,.inl ⟨by rw[hm,h1],h2⟩⟩
  ·obtain⟨g1,g2,g3⟩:=hw _ _ h1;exact⟨h0,.inr ⟨b,base,cap,vs,by rw[hm,h1],by rw[g1,h2],h3,h4,⟨h5.1,by rw[g3,h5.2]⟩,dQ.mono E.le _ _ h6,fun e o u=>by rw[g2,h7 e o u],fun o e=>by rw[g2,I o e],fun e=>(J e).mono E.le⟩⟩
 | map agg ents=>
  obtain⟨b,es,clk,h1,h2,h3,h4⟩:=h;obtain⟨g1,g2,g3⟩:=hw _ _ h1;exact⟨b,es,clk,by rw[hm,h1],by rw[g1,h2],aDv.mono E.le h3,h4.of_eq g3⟩
 | dead=>exact hm.trans h
 | lp st j i e=>
  obtain⟨b,r,fn,tmps,h1,h2,h3,h4,h5,h6⟩:=h;obtain⟨g1,g2,g3⟩:=hw _ _ h1;exact⟨b,r,fn,tmps,by rw[hm,h1],by rw[g1,h2],h3,fun t v ht=>bE.evolve0 E _ _ (h4 t v ht),fun o=>by rw[g2,h5],by rw[g3,h6]⟩
 | dfr=>
  obtain⟨b,h1,h2,h3,h4⟩:=h;obtain⟨g1,g2,g3⟩:=hw _ _ h1;exact⟨b,by rw[hm,h1],by rw[g1,h2],fun o=>by rw[g2,h3],by rw[g3,h4]⟩
 | rarr te es elems=>
  obtain⟨h0,⟨h1,h2⟩ | ⟨b,base,cap,vs,h1,h2,h3,h4,h5,h6,h7⟩⟩:=h
  ·exact⟨h0,.inl ⟨by rw[hm,h1],h2⟩⟩
  ·obtain⟨g1,g2,g3⟩:=hw _ _ h1;exact⟨h0,.inr ⟨b,base,cap,vs,by rw[hm,h1],by rw[g1,h2],h3,h4,⟨h5.1,by rw[g3,h5.2]⟩,bC.evolve0 E _ _ h6,fun o u=>by rw[g2,h7 o u]⟩⟩
 | tok r k=>
  obtain⟨h1,b,h2,m,h3,h4⟩:=h;obtain⟨N,h5,h6⟩:=E.le.2 b m h3;exact⟨by rw[hm,h1],b,bL.evolve0 E _ _ h2,N,h5,MK.le_has h6 h4⟩
theorem o9.evolve {S S':Sto}{μ μ':Mu}{H H':dC}{w w':World}{id:Nat}{o:AObj}(E:Evolve S μ H S' μ' H') (h:o9 S μ H w id o) (hm:μ' id=μ id)
  (hw:∀b c,μ id=some (b,c)→w'.heap[b]?=w.heap[b]?∧(∀o,S'.cell b o=S.cell b o)∧S'.mapo b=S.mapo b):o9 S' μ' H' w' id o:=o9.evolve0 E.weak h hm hw
def upd {α:Type}(f:Nat→Option α) (k:Nat) (x:Option α):Nat→Option α:=fun i=>if Nat.beq i k then x else f i
theorem aM {α:Type}(f:Nat→Option α) (k:Nat) (x:Option α):upd f k x k=x:=by simp[upd]
theorem bJ {α:Type}(f:Nat→Option α) (k:Nat) (x:Option α) {i:Nat}(h:i≠k):upd f k x i=f i:=by
 have:Nat.beq i k=false:=by
  cases hb:Nat.beq i k with
  | false=>rfl
  | true=>exact absurd (Ab hb) h
 simp[upd,this]
structure WChg (w w':World) (b:Nat) (o:Obj):Prop where
 os:w'.os=w.os
 tape:w'.tape=w.tape
 output:w'.output=w.output
 size:w.heap.size≤w'.heap.size
 new:w'.heap[b]?=some o
 old:∀k,k<w.heap.size→k≠b→w'.heap[k]?=w.heap[k]?
theorem WChg.alloc (w:World) (o:Obj):WChg w (w.alloc o) w.heap.size o:=
 ⟨rfl,rfl,rfl,by simp,Ch w o,fun k hk _=>RowKit.Below.heap_alloc w o k hk⟩
theorem WChg.alloc_drew (w:World) (o:Obj):WChg w (w.drew.alloc o) w.heap.size o:=
 ⟨rfl,rfl,rfl,by simp,Ch w.drew o,fun k hk _=>RowKit.Below.heap_alloc w.drew o k hk⟩
theorem WChg.setRow (w:World) (g:Nat) (cur cs:Array Value) (t:TypeId) (fr:Nat×Nat) (u:w.heap[g]?=some (.cells cur t fr)):WChg w (w.setRow g cs) g (.cells cs t fr):=
 ⟨rfl,rfl,rfl,by simp,setRow_heap w g cur cs t fr u,fun k _ hk=>setRow_other w g k cs hk⟩
theorem eZ {w:World}{b:Nat}{x:Obj}(e:w.heap[b]?=some x):b<w.heap.size:=(Array.getElem?_eq_some_iff.1 e).1
theorem Inv.chg {G:Ctx}{S:Sto}{μ:Mu}{H:dC}{w w':World}{id b:Nat}{cap:Nat×Nat}{bo:Obj}{ao:AObj}(h:Inv G S μ H w) (hw:WChg w w' b bo)
  (hb:w.heap.size≤b∨(∃o c,H id=some o∧μ id=some (b,c)))
  (hE:Evolve S μ H S (upd μ id (some (b,cap))) (upd H id (some ao)))
  (hO:o9 S (upd μ id (some (b,cap))) (upd H id (some ao)) w' id ao)
  (hS:∀o v,S.cell b o=some v→∃vs t fr,bo=.cells vs t fr∧vs[o]?=some v) (hSm:∀m,S.mapo b=some m→w.heap.size≤b):
  Inv G S (upd μ id (some (b,cap))) (upd H id (some ao)) w':=by
 have Z:∀j o,H j=some o→j≠id→∀u c',μ j=some (u,c')→u≠b:=by
  intro j o hj hne u c' hm e;subst e;rcases hb with hb | ⟨o',c,h1,h2⟩
  ·have:=(h.obj j o hj).lt hm;omega
  ·exact hne (h.inj j id o o' u c' c hj h1 hm h2)
 refine⟨⟨?_,?_⟩,?_,?_,?_,?_,h.sle,h.sto,h.evo.trans hE,h.fre⟩
 ·intro u o v e;obtain⟨vs,t,fr,h1,h2⟩:=h.holds.1 u o v e;by_cases O:u=b
  ·subst O;obtain⟨vs',t',fr',h3,h4⟩:=hS o v e;exact⟨vs',t',fr',by rw[hw.new,h3],h4⟩
  ·exact⟨vs,t,fr,by rw[hw.old u (eZ h1) O,h1],h2⟩
 ·intro u m e;have h1:=h.holds.2 u m e;obtain⟨_,h2⟩:=MK.holds_some h1;by_cases O:u=b
  ·subst O;have:=hSm _ e;have:=eZ h2;omega
  ·rw[hw.old u (eZ h2) O];exact h1
 ·intro j o hj;by_cases aa:j=id
  ·subst aa;rw[aM] at hj;cases hj;exact hO
  ·rw[bJ _ _ _ aa] at hj;refine(h.obj j o hj).evolve hE (bJ _ _ _ aa) fun u c' hm=>⟨?_,fun _=>rfl,rfl⟩
   exact hw.old u ((h.obj j o hj).lt hm) (Z j o hj aa u c' hm)
 ·intro i j o o' u c c' hi hj J N;by_cases I:i=id<;>by_cases Y:j=id
  ·rw[I,Y]
  ·subst I;rw[aM] at J;cases J;rw[bJ _ _ _ Y] at hj N;exact absurd rfl (Z j o' hj Y _ _ N)
  ·subst Y;rw[aM] at N;cases N;rw[bJ _ _ _ I] at hi J;exact absurd rfl (Z i o hi I _ _ J)
  ·rw[bJ _ _ _ I] at hi J;rw[bJ _ _ _ Y] at hj N;exact h.inj i j o o' u c c' hi hj J N
 ·intro i o u c hi hm;by_cases I:i=id
  ·subst I;rw[aM] at hm;cases hm;rcases hb with hb | ⟨o',c',h1,h2⟩
   ·exact .inl (le_trans h.frame.size hb)
   ·exact h.own _ _ _ _ h1 h2
  ·rw[bJ _ _ _ I] at hi hm;exact h.own _ _ _ _ hi hm
 ·refine⟨hw.os.trans h.frame.os,hw.tape.trans h.frame.tape,hw.output.trans h.frame.output,le_trans h.frame.size hw.size,fun k hk hF=>?_,h.frame.tab⟩;rw[hw.old k (lt_of_lt_of_le hk h.frame.size) ?_,h.frame.block k hk hF];rintro rfl;rcases hb with hb | ⟨o',c',h1,h2⟩
  ·have:=h.frame.size;omega
  ·rcases h.own _ _ _ _ h1 h2 with h3 | h3
   ·omega
   ·exact hF h3
theorem Inv.same {G:Ctx}{S:Sto}{μ:Mu}{H:dC}{w w':World}(h:Inv G S μ H w) (hh:w'.heap=w.heap) (u:w'.os=w.os) (ht:w'.tape=w.tape) (hu:w'.output=w.output):Inv G S μ H w':=by
 obtain⟨h1,h2,h3,h4,h5,h6,h7,I,J⟩:=h;refine⟨⟨fun b o v e=>by rw[hh];exact h1.1 b o v e,fun b m e=>by rw[hh];exact h1.2 b m e⟩,fun id o e=>(h2 id o e).evolve (Evolve.refl _ _ _) rfl fun b c hm=>⟨by rw[hh],fun _=>rfl,rfl⟩,h3,h4,?_,h6,h7,I,J⟩;exact⟨u.trans h5.os,ht.trans h5.tape,hu.trans h5.output,by rw[hh];exact h5.size,fun k hk N=>by rw[hh];exact h5.block k hk N,h5.tab⟩
theorem Holds.cell {S:Sto}{w:World}(h:Holds S w) {b o:Nat}{v:Value}(e:S.cell b o=some v):w.cell? ⟨b,o,none⟩=some v:=by
 obtain⟨vs,t,fr,h1,h2⟩:=h.1 b o v e;simp[World.cell?,h1,h2]
structure St where
 e:Nat→Option V
 h:dC
 d:List Nat
def Marks (lo:Nat) (μ:Mu) (H:dC):List Nat→List Deferred→Prop
 | [],ds=>ds=[]
 | id::ids,ds=>∃b c ds',ds={ target:=.collected b,args:= #[] }::ds'∧μ id=some (b,c)∧H id=some .dfr∧lo≤b∧id∉ids∧Marks lo μ H ids ds'
theorem Marks.ren {lo:Nat}{μ μ':Mu}{H H':dC}(σ:Nat→Nat):∀{ids:List Nat}{u:List Deferred},Marks lo μ H (ids.map σ) u→(∀id∈ids,H (σ id)=some .dfr→μ' id=μ (σ id)∧H' id=some .dfr)→Marks lo μ' H' ids u
 | [],_,h,_=>h
 | id::ids,_,⟨b,c,I,h1,h2,h3,h5,h6,h4⟩,k=>by
  obtain⟨J,N⟩:=k id (by simp) h3;exact⟨b,c,I,h1,by rw[J,h2],N,h5,fun h=>h6 (Af.2 ⟨_,h,rfl⟩),Marks.ren σ h4 fun i hi=>k i (by simp[hi])⟩
theorem Marks.go {lo:Nat}{μ μ':Mu}{H H':dC}{ids:List Nat}{u:List Deferred}(h:Marks lo μ H ids u) (k:∀id∈ids,H id=some .dfr→μ' id=μ id∧H' id=some .dfr):Marks lo μ' H' ids u:=
 Marks.ren (fun i=>i) (by simpa using h) fun id hid=>k id hid
theorem Marks.evolve {lo:Nat}{S S':Sto}{μ μ':Mu}{H H':dC}(E:Evolve S μ H S' μ' H') {ids:List Nat}{u:List Deferred}(h:Marks lo μ H ids u):Marks lo μ' H' ids u:=
 h.go fun id _ hd=>by
  obtain⟨o',h1,h2⟩:=E.obj id _ hd;cases o' with
  | dfr=>exact⟨h2,h1⟩
  | _=>simp only[AObj.succ] at h2
structure Sim (G:Ctx) (n:Nat) (S:Sto) (μ:Mu) (st:St) (a:Act) (w:World):Prop where
 inv:Inv G S μ st.h w
 size:a.tmps.size=n
 defers:Marks G.w0.heap.size μ st.h st.d a.defers
 env:∀t v,st.e t=some v→bE S μ st.h v (a.tmps.getD t undef)
theorem aTv (ts:Array Value) (d t:Nat) (v:Value) (hd:d<ts.size):(ts.setIfInBounds d v).getD t undef=if t=d then v else ts.getD t undef:=by
 simp only[A9,Bz];by_cases h:d=t
 ·subst h;simp[hd]
 ·have:¬t=d:=fun e=>h e.symm
  simp[h,this]
theorem Sim.put {G:Ctx}{n:Nat}{S S':Sto}{μ μ':Mu}{st:St}{H':dC}{a:Act}{w w':World}(h:Sim G n S μ st a w) (hi:Inv G S' μ' H' w') (u:Evolve S μ st.h S' μ' H') {d:Nat}(hd:d<n) {v:Value}{x:Option V}
  (hv:∀y,x=some y→bE S' μ' H' y v):Sim G n S' μ' ⟨upd st.e d x,H',st.d⟩ (a.put (some d) v) w':=by
 refine⟨hi,by simp[Act.put,h.size],h.defers.evolve u,fun t y e=>?_⟩;show bE S' μ' H' y ((a.tmps.setIfInBounds d v).getD t undef);rw[aTv _ _ _ _ (by rw[h.size];exact hd)];by_cases ht:t=d
 ·subst ht;rw[ξ rfl];exact hv y (by simpa [aM] using e)
 ·rw[φ ht];have e':st.e t=some y:=by simpa [bJ _ _ _ ht] using e
  exact bE.evolve u y _ (h.env t y e')
theorem Sim.put_none {G:Ctx}{n:Nat}{S S':Sto}{μ μ':Mu}{st:St}{H':dC}{a:Act}{w w':World}(h:Sim G n S μ st a w) (hi:Inv G S' μ' H' w') (u:Evolve S μ st.h S' μ' H') (v:Value):
  Sim G n S' μ' ⟨st.e,H',st.d⟩ (a.put none v) w':=
 ⟨hi,h.size,h.defers.evolve u,fun t y e=>bE.evolve u y _ (h.env t y e)⟩
structure Rd where
 e:List Nat
 h:List Nat
structure Eff where
 d:Option (Nat×Option V)
 h:List (Nat×Option AObj)
def look {α:Type}:List (Nat×α)→Nat→Option α
 | [],_=>none
 | (k,x)::l,i=>if Nat.beq i k then some x else look l i
def updL (f:dC) (l:List (Nat×Option AObj)):dC:=fun i=>match look l i with | some o=>o | none=>f i
theorem aF1 (f:dC):updL f []=f:=rfl
theorem dO (f:dC) (id:Nat) (x:Option AObj):updL f [(id,x)]=upd f id x:=by
 funext i;simp only[look,upd,updL];cases Nat.beq i id<;>rfl
def Eff.apply (f:Eff) (st:St):St:=
 {
   e:=match f.d with | some (t,v)=>upd st.e t v | none=>st.e
   h:=updL st.h f.h
   d:=st.d }
def Eff.we (f:Eff):List Nat:=(f.d.map (·.1)).toList
def Eff.wh (f:Eff):List Nat:=f.h.map (·.1)
def rR (rd:Rd) (st st':St):Prop:=(∀t∈rd.e,st'.e t=st.e t)∧(∀i∈rd.h,st'.h i=st.h i)
theorem rR.refl (rd:Rd) (st:St):rR rd st st:=⟨fun _ _=>rfl,fun _ _=>rfl⟩
def Wd (ro:Option Nat):Fence:={ fn:=fun _=>True,depth:=none,alive:=false,round:=ro }
theorem Wd.fenced (P:Program) (ro:Option Nat) (m:Machine):m.fenced P (Wd ro):=fenced_wide P m
theorem Wd.room (ro:Option Nat) (k:Nat):(Wd ro).room k:=fun _ h=>by simp[Wd] at h
theorem Wd.steps {ro:Option Nat}{P:Program}{m u:Machine}:StepsIn (Machine.fenced P (Wd ro)) P m u↔Steps P m u:=
 ⟨StepsIn.steps,fun h=>(StepsIn.of_steps h).mono fun m _=>Wd.fenced P ro m⟩
theorem Wd.comes {ro:Option Nat}{P:Program}{m u:Machine}{e:Ending}:ComesIn (Machine.fenced P (Wd ro)) P m u e↔Comes P m u e:=by
 cases e with
 | returned v=>exact Wd.steps
 | panicked chain=>exact Wd.steps
 | outgrown=>exact Iff.rfl
theorem Wd.calls {ro:Option Nat}{n:Nat}{P:Program}{f:FuncId}{args:Array Value}{w:World}{R:Ending→World→Prop}:CallsIn (Wd ro) n P f args w R↔Calls P f args w R:=
  ⟨fun h cs=>let ⟨e,w',fr,r,s,x⟩:=h.2 cs (Wd.room _ _);⟨e,w',fr,r,Wd.comes.1 s,x⟩,
   fun h=>⟨trivial,fun cs _=>let ⟨e,w',fr,r,s,x⟩:=h cs;⟨e,w',fr,r,Wd.comes.2 s,x⟩⟩⟩
theorem oQ {P:Program}{o:Oper}{ro:Option Nat}{ρ:Operand→Value}{w w':World}{r:Next}(h:(execOp ρ o).run P w=.ok r w') (I:∀d,r≠ .defer d):(o.semAt ro ρ).run P w=.ok r w':=by
 rw[Oper.semAt_eq]
 ·exact h
 ·intro c hc;rw[execOp,hc] at h;simp only[Ah] at h;cases u:(resolve ρ c o.type).run P w with
  | ok d J=>
   rw[u] at h;simp only[Result.andThen,Ai] at h;cases h;exact I _ rfl
  | halt x J=>rw[u] at h;simp[Result.andThen] at h
section
variable {P:Program}{o:Oper}{ro:Option Nat}{a:Act}{w w':World}{K:Act→World→Prop}{Q:Exit→Act→World→Prop}
theorem j3 {v:Value}(u:(execOp a.eval o).run P w=.ok (.value v) w') (h:K (a.put o.dst v) w'):o.wpIn (Wd ro) 0 P a w K Q:=by
 refine⟨fun _ _=>trivial,?_⟩;rw[oQ u (by simp),Oper.uponIn_value];exact h
theorem aAy (u:(execOp a.eval o).run P w=.ok .skip w') (h:K (a.put o.dst undef) w'):o.wpIn (Wd ro) 0 P a w K Q:=by
 refine⟨fun _ _=>trivial,?_⟩;rw[oQ u (by simp),Oper.uponIn_skip];exact h
theorem y1 {f:FuncId}{args:Array Value}(I:(execOp a.eval o).run P w=.ok (.enter f args) w')
  (h:Calls P f args w' fun
   | .returned v,u=>K (a.put o.dst v) u
   | .panicked chain,u=>Q (.panic chain) a u
   | .outgrown,_=>LetsOut Q):o.wpIn (Wd ro) 0 P a w K Q:=by
 refine⟨fun _ _=>trivial,?_⟩;rw[oQ I (by simp),Oper.uponIn_enter];exact⟨fun h=>by simp[Wd] at h,Wd.calls.2 h⟩
end
def Step (P:Program) (n:Nat) (o:Oper) (st:St) (rd:Rd) (f:Eff):Prop:=
 ∀st',rR rd st st'→∀G S μ a w (K:Act→World→Prop) (Q:Exit→Act→World→Prop),Sim G n S μ st' a w→
  (∀S' μ' a' w',Sim G n S' μ' (f.apply st') a' w'→K a' w')→∀ro,o.wpIn (Wd ro) 0 P a w K Q
def GStep (P:Program) (n:Nat) (ops:Array Oper) (i:Nat) (st:St) (rd:Rd) (f:Eff):Prop:=
 ∀st',rR rd st st'→∀G S μ a w (K:Act→World→Prop) (Q:Exit→Act→World→Prop),Sim G n S μ st' a w→
  (∀S' μ' a' w',Sim G n S' μ' (f.apply st') a' w'→K a' w')→∀ro,wpOpIn (Wd ro) 0 P ops Q i K a w
theorem GStep.plain {P:Program}{n:Nat}{ops:Array Oper}{i:Nat}{o:Oper}{st:St}{rd:Rd}{f:Eff}(u:ops[i]?=some o) (I:o.guard=none) (h:Step P n o st rd f):GStep P n ops i st rd f:=by
 intro st' ha G S μ a w K Q hs hk ro;unfold wpOpIn;simp only[u];rw[ξ (by simp[Region.wanted,I])];exact h st' ha G S μ a w K Q hs hk ro
theorem getElem?_of_getD {ts:Array Value}{t:Nat}{b:Bool}(h:ts.getD t undef=.bool b):ts[t]?=some (.bool b):=by
 rw[A9] at h;cases u:ts[t]? with
 | none=>simp[u,undef] at h
 | some v=>simp[u] at h;rw[h]
theorem GStep.yes {P:Program}{n:Nat}{ops:Array Oper}{i j t:Nat}{want b:Bool}{o:Oper}{st:St}{rd:Rd}{f:Eff}(I:ops[i]?=some o) (J:o.guard=some (j,want)) (hj:(ops[j]?).bind (·.dst)=some t)
  (hb:st.e t=some (.one (.c (.bool b)))) (hw:b=want) (h:Step P n o st rd f):GStep P n ops i st ⟨t::rd.e,rd.h⟩ f:=by
 intro st' ha G S μ a w K Q hs hk ro;have hb':st'.e t=some (.one (.c (.bool b))):=by rw[ha.1 t (by simp),hb]
 have hv:=hs.env t _ hb';simp only[bE,bL,Rep] at hv;have u:=getElem?_of_getD hv;unfold wpOpIn;simp only[I];rw[ξ (by simp[Region.wanted,J,yielded,hj,u,hw])];exact h st' ⟨fun t ht=>ha.1 t (by simp[ht]),ha.2⟩ G S μ a w K Q hs hk ro
theorem GStep.no {P:Program}{n:Nat}{ops:Array Oper}{i j t d:Nat}{want b:Bool}{o:Oper}{st:St}(O:ops[i]?=some o) (Y:o.guard=some (j,want)) (hd:o.dst=some d) (u:d<n) (hj:(ops[j]?).bind (·.dst)=some t)
  {I:Bool} (hb:st.e t=some (.one (.c (.bool b)))) (J:b=I) (hn:I= !want):GStep P n ops i st ⟨[t],[]⟩ ⟨some (d,some (.tup [])),[]⟩:=by
 have hw:b= !want:=J.trans hn;intro st' ha G S μ a w K Q hs hk ro;have hb':st'.e t=some (.one (.c (.bool b))):=by rw[ha.1 t (by simp),hb]
 have hv:=hs.env t _ hb';simp only[bE,bL,Rep] at hv;have N:=getElem?_of_getD hv;unfold wpOpIn;simp only[O];rw[φ (by simp[Region.wanted,Y,yielded,hj,N,hw])];rw[hd];refine⟨fun _ _=>trivial,hk S μ _ _ ?_⟩;exact hs.put hs.inv (Evolve.refl _ _ _) u (fun y Z=>by cases Z;simp only[bE];exact⟨[],rfl,by simp[c6]⟩)
theorem GStep.un {P:Program}{n:Nat}{ops:Array Oper}{i j t d:Nat}{want:Bool}{o:Oper}{st:St}(N:ops[i]?=some o) (O:o.guard=some (j,want)) (hd:o.dst=some d) (I:d<n) (hj:(ops[j]?).bind (·.dst)=some t)
  (hb:st.e t=some (.tup [])):GStep P n ops i st ⟨[t],[]⟩ ⟨some (d,some (.tup [])),[]⟩:=by
 intro st' ha G S μ a w K Q hs hk ro;have hb':st'.e t=some (.tup []):=by rw[ha.1 t (by simp),hb]
 have hv:=hs.env t _ hb';simp only[bE] at hv;obtain⟨vs,hv,u⟩:=hv;simp only[c6] at u;subst u;have J:yielded ops a.tmps j=none:=by
  unfold yielded;rw[hj];simp only[Cp];rw[A9] at hv;cases Y:a.tmps[t]? with
  | none=>rfl
  | some v=>rw[Y] at hv;simp at hv;subst hv;rfl
 unfold wpOpIn;simp only[N];rw[φ (by simp[Region.wanted,O,J])];rw[hd];refine⟨fun _ _=>trivial,hk S μ _ _ ?_⟩;exact hs.put hs.inv (Evolve.refl _ _ _) I (fun y Z=>by cases Z;simp only[bE];exact⟨[],rfl,by simp[c6]⟩)
abbrev REs:=List (Rd×Eff)
def fK (L:Nat→Bool):Nat→REs→St→St
 | _,[],st=>st
 | k,x::xs,st=>fK L (k+1) xs (bif L k then x.2.apply st else st)
inductive Run (P:Program) (n:Nat) (ops:Array Oper):Nat→St→REs→St→Prop
 | nil {k st}:Run P n ops k st [] st
 | cons {k st rd f xs st'}:GStep P n ops k st rd f→Run P n ops (k+1) (f.apply st) xs st'→Run P n ops k st ((rd,f)::xs) st'
theorem Run.final {P:Program}{n:Nat}{ops:Array Oper}{k:Nat}{st st':St}{xs:REs}(h:Run P n ops k st xs st'):∀L:Nat→Bool,(∀j,k≤j→L j=true)→fK L k xs st=st':=by
 induction h with
 | nil=>intro L _;rfl
 | cons _ _ I=>
  intro L u;simp only[fK,u _ (le_refl _),Bn];exact I L fun j hj=>u j (by omega)
theorem Run.at {P:Program}{n:Nat}{ops:Array Oper}{k:Nat}{st st':St}{xs:REs}(h:Run P n ops k st xs st'):∀(i:Nat) (x:Rd×Eff),xs[i]?=some x→
  GStep P n ops (k+i) (fK (fun j=>decide (j<k+i)) k xs st) x.1 x.2:=by
 induction h with
 | nil=>intro i x hx;simp at hx
 | @cons k st rd f xs st' N Y I=>
  intro i x hx;cases i with
  | zero=>
   simp at hx;subst hx;have O:∀(u:REs) (m:Nat) (s:St),k<m→fK (fun j=>decide (j<k+0)) m u s=s:=by
    intro u
    induction u with
    | nil=>intro m s _;rfl
    | cons y u I=>
     intro m s hm;simp only[fK];have:decide (m<k+0)=false:=by simp;omega
     rw[this,Bs];exact I (m+1) _ (by omega)
   simp only[fK];have:decide (k<k+0)=false:=by simp
   rw[this,Bs];rw[O xs (k+1) st (by omega)];exact N
  | succ i=>
   simp at hx;have:=I i x hx;simp only[fK];have J:decide (k<k+(i+1))=true:=by simp
   rw[J,Bn];rw[show k+(i+1)=k+1+i by omega];exact this
theorem aE8 (L:Nat→Bool):∀(xs:REs) (k:Nat) (st:St),(fK L k xs st).d=st.d
 | [],_,_=>rfl
 | x::xs,k,st=>by
  rw[fK,aE8 L xs];cases L k<;>rfl
theorem gU (f:Eff) (st:St) {t:Nat}(h:t∉f.we):(f.apply st).e t=st.e t:=by
 unfold Eff.apply Eff.we at *;cases hd:f.d with
 | none=>rfl
 | some p=>
  obtain⟨k,v⟩:=p;simp only[hd] at h ⊢;exact bJ _ _ _ (by simpa using h)
theorem aB8 {α:Type}:∀{l:List (Nat×α)}{i:Nat},i∉l.map (·.1)→look l i=none
 | [],_,_=>rfl
 | (k,x)::l,i,h=>by
  simp at h;have hb:Nat.beq i k=false:=by
   cases hb:Nat.beq i k with
   | false=>rfl
   | true=>exact absurd (Ab hb) h.1
  simp only[look,hb,Be,B4];exact aB8 (by simpa using h.2)
theorem iB {α:Type}:∀{l:List (Nat×α)}{i:Nat},i∈l.map (·.1)→∃x,look l i=some x
 | [],_,h=>by simp at h
 | (k,x)::l,i,h=>by
  by_cases hb:Nat.beq i k=true
  ·exact⟨x,by simp[look,hb]⟩
  ·have u:i≠k:=fun e=>hb (by subst e;simp)
   simp at hb;simp only[look];obtain⟨y,I⟩:=iB (l:=l) (i:=i) (by simpa [u] using h);exact⟨y,by simp[hb,I]⟩
theorem gT (f:Eff) (st:St) {i:Nat}(h:i∉f.wh):(f.apply st).h i=st.h i:=by
 unfold Eff.apply Eff.wh at *;simp only[updL,aB8 h]
theorem rP (f:Eff) (st st':St) {t:Nat}(h:t∈f.we):(f.apply st).e t=(f.apply st').e t:=by
 unfold Eff.apply Eff.we at *;cases hd:f.d with
 | none=>simp[hd] at h
 | some p=>
  obtain⟨k,v⟩:=p;simp only[hd] at h ⊢;simp at h;subst h;simp[aM]
theorem rN (f:Eff) (st st':St) {i:Nat}(h:i∈f.wh):(f.apply st).h i=(f.apply st').h i:=by
 unfold Eff.apply Eff.wh at *;obtain⟨x,hx⟩:=iB h;simp only[updL,hx]
theorem xE (t:Nat):∀(xs:REs) (k:Nat) (L L':Nat→Bool) (st st':St),st.e t=st'.e t→(∀i x,xs[i]?=some x→L (k+i)≠L' (k+i)→t∉x.2.we)→(fK L k xs st).e t=(fK L' k xs st').e t:=by
 intro xs
 induction xs with
 | nil=>intro k L L' st st' h _;exact h
 | cons x xs I=>
  intro k L L' st st' h hx;simp only[fK];refine I (k+1) L L' _ _ ?_ fun i y J N=>hx (i+1) y (by simpa using J) (by rwa [show k+(i+1)=k+1+i by omega])
  have h0:=hx 0 x rfl;simp only[By] at h0;by_cases u:L k=L' k
  ·rw[u];cases L' k
   ·exact h
   ·by_cases hw:t∈x.2.we
    ·exact rP _ _ _ hw
    ·simp only[Bn];rw[gU _ _ hw,gU _ _ hw,h]
  ·have hw:=h0 u;cases L k<;>cases L' k<;>simp only[Bn,Bs,gU _ _ hw,h]
theorem xD (t:Nat):∀(xs:REs) (k:Nat) (L L':Nat→Bool) (st st':St),st.h t=st'.h t→(∀i x,xs[i]?=some x→L (k+i)≠L' (k+i)→t∉x.2.wh)→(fK L k xs st).h t=(fK L' k xs st').h t:=by
 intro xs
 induction xs with
 | nil=>intro k L L' st st' h _;exact h
 | cons x xs I=>
  intro k L L' st st' h hx;simp only[fK];refine I (k+1) L L' _ _ ?_ fun i y J N=>hx (i+1) y (by simpa using J) (by rwa [show k+(i+1)=k+1+i by omega])
  have h0:=hx 0 x rfl;simp only[By] at h0;by_cases u:L k=L' k
  ·rw[u];cases L' k
   ·exact h
   ·by_cases hw:t∈x.2.wh
    ·exact rN _ _ _ hw
    ·simp only[Bn];rw[gT _ _ hw,gT _ _ hw,h]
  ·have hw:=h0 u;cases L k<;>cases L' k<;>simp only[Bn,Bs,gT _ _ hw,h]
theorem aPl (L:Nat→Bool) (m:Nat) (f:Eff):∀(xs:REs) (k:Nat) (rd:Rd) (st:St),k≤m→xs[m-k]?=some (rd,f)→L m=false→
  (∀i x,xs[i]?=some x→L (k+i)=true→m<k+i→(∀t∈f.we,t∉x.2.we)∧(∀t∈f.wh,t∉x.2.wh))→
  fK (fun j=>L j || Nat.beq j m) k xs st=f.apply (fK L k xs st):=by
 have tail:∀(xs:REs) (k:Nat) (st:St),m<k→(∀i x,xs[i]?=some x→L (k+i)=true→(∀t∈f.we,t∉x.2.we)∧(∀t∈f.wh,t∉x.2.wh))→
   fK (fun j=>L j || Nat.beq j m) k xs (f.apply st)=f.apply (fK L k xs st):=by
  intro xs
  induction xs with
  | nil=>intro k st _ _;rfl
  | cons x xs N=>
   intro k st hk hx;simp only[fK];have hb:Nat.beq k m=false:=by
    cases hb:Nat.beq k m with
    | false=>rfl
    | true=>have:=Ab hb;omega
   rw[hb,Bool.or_false];have h0:=hx 0 x rfl;simp only[By] at h0;have I:∀i y,xs[i]?=some y→L (k+1+i)=true→(∀t∈f.we,t∉y.2.we)∧(∀t∈f.wh,t∉y.2.wh):=fun i y J hl=>hx (i+1) y (by simpa using J) (by rwa [show k+(i+1)=k+1+i by omega])
   cases Z:L k with
   | false=>simp only[Bs];exact N (k+1) st (by omega) I
   | true=>
    simp only[Bn];obtain⟨h1,h2⟩:=h0 Z;have hc:x.2.apply (f.apply st)=f.apply (x.2.apply st):=by
     have he:(x.2.apply (f.apply st)).e=(f.apply (x.2.apply st)).e:=funext fun t=>by
      by_cases ht:t∈f.we
      ·rw[gU _ _ (h1 t ht)];exact rP _ _ _ ht
      ·rw[gU f _ ht];by_cases u:t∈x.2.we
       ·exact rP _ _ _ u
       ·rw[gU _ _ u,gU _ _ u,gU _ _ ht]
     have hh:(x.2.apply (f.apply st)).h=(f.apply (x.2.apply st)).h:=funext fun t=>by
      by_cases ht:t∈f.wh
      ·rw[gT _ _ (h2 t ht)];exact rN _ _ _ ht
      ·rw[gT f _ ht];by_cases u:t∈x.2.wh
       ·exact rN _ _ _ u
       ·rw[gT _ _ u,gT _ _ u,gT _ _ ht]
     cases hA:x.2.apply (f.apply st);cases hB:f.apply (x.2.apply st);have hd:(x.2.apply (f.apply st)).d=(f.apply (x.2.apply st)).d:=rfl;simp only[hA,hB] at he hh hd;rw[he,hh,hd]
    rw[hc];exact N (k+1) _ (by omega) I
 intro xs
 induction xs with
 | nil=>intro k rd st _ hx;simp at hx
 | cons x xs N=>
  intro k rd st hk hx hm hd;simp only[fK];by_cases O:k=m
  ·subst O;simp at hx;subst hx;have hb:Nat.beq k k=true:=by simp
   rw[hb,hm,Bool.or_true];simp only[Bn,Bs];exact tail xs (k+1) st (by omega) fun i y J hl=>hd (i+1) y (by simpa using J) (by rwa [show k+(i+1)=k+1+i by omega]) (by omega)
  ·have hb:Nat.beq k m=false:=by
    cases hb:Nat.beq k m with
    | false=>rfl
    | true=>exact absurd (Ab hb) O
   rw[hb,Bool.or_false];have Y:xs[m-(k+1)]?=some (rd,f):=by
    rw[show m-k=(m-(k+1))+1 by omega] at hx;simpa using hx
   exact N (k+1) rd _ (by omega) Y hm fun i y J hl hlt=>hd (i+1) y (by simpa using J) (by rwa [show k+(i+1)=k+1+i by omega]) (by omega)
def a3l:List Nat→List Nat→List Nat
 | [],acc=>acc
 | x::l,acc=>if acc.any (Nat.beq x) then a3l l acc else a3l l (x::acc)
def dd (l:List Nat):List Nat:=a3l l []
theorem aAa:∀(l acc:List Nat) (x:Nat),x∈a3l l acc→x∈l∨x∈acc
 | [],_,_,h=>.inr h
 | y::l,acc,x,h=>by
  simp only[a3l] at h;split at h
  ·rcases aAa l acc x h with h | h
   ·exact .inl (by simp[h])
   ·exact .inr h
  ·rcases aAa l (y::acc) x h with h | h
   ·exact .inl (by simp[h])
   ·rcases Ap.1 h with rfl | h
    ·exact .inl (by simp)
    ·exact .inr h
theorem a3k {l:List Nat}{x:Nat}(h:x∈dd l):x∈l:=(aAa l [] x h).resolve_right (by simp)
def aEx:List Oper→List (List Nat)→List (List Nat)
 | [],acc=>acc
 | o::os,acc=>aEx os (acc++[dd (o.after.toList.flatMap fun e=>if Region.binds .any e then e.on::(acc.getD e.on []) else [])])
def qX (ops:Array Oper):List (List Nat):=aEx ops.toList []
def a3j (a b:List Nat):Bool:=a.all fun x=>!(b.contains x)
def indep (x y:Rd×Eff):Bool:=a3j x.2.we (y.1.e++y.2.we)&&a3j x.2.wh (y.1.h++y.2.wh)&&a3j y.2.we x.1.e&&a3j y.2.wh x.1.h
def tB (ps:List Nat) (y:Rd×Eff):Nat→REs→Bool
 | _,[]=>true
 | i,x::xs=>(ps.contains i || indep x y)&&tB ps y (i+1) xs
def gG:List (List Nat)→REs→REs→Bool
 | p::ps,y::ys,done=>tB p y 0 done&&gG ps ys (done++[y])
 | _,[],_=>true
 | [],_::_,_=>false
def iY (ops:Array Oper):Bool:=ops.toList.zipIdx.all fun(o,i)=>o.after.toList.all fun e=>!Region.binds .any e || decide (e.on<i)
theorem kV {a b:List Nat}(h:a3j a b=true):∀t∈a,t∉b:=by
 intro t ht hb;have:=A4.1 h t ht;simp at this;exact this hb
theorem aAl {ps:List Nat}{y:Rd×Eff}:∀(xs:REs) (k:Nat),tB ps y k xs=true→∀i x,xs[i]?=some x→k+i∈ps∨indep x y=true:=by
 intro xs
 induction xs with
 | nil=>intro k _ i x hx;simp at hx
 | cons z xs u=>
  intro k h i x hx;simp only[tB,Aj,Bool.or_eq_true] at h;cases i with
  | zero=>simp at hx;subst hx;simpa using h.1
  | succ i=>
   simp at hx;have:=u (k+1) h.2 i x hx;rwa [show k+(i+1)=k+1+i by omega]
theorem s6:∀(ps:List (List Nat)) (u done:REs),gG ps u done=true→∀j y,u[j]?=some y→∃p,ps[j]?=some p∧∀i x,i<done.length+j→(done++u)[i]?=some x→i∈p∨indep x y=true:=by
 intro ps
 induction ps with
 | nil=>
  intro u done h j y I;cases u with
  | nil=>simp at I
  | cons _ _=>simp[gG] at h
 | cons p ps O=>
  intro u done h j y I;cases u with
  | nil=>simp at I
  | cons z u=>
   simp only[gG,Aj] at h;cases j with
   | zero=>
    simp at I;subst I;refine⟨p,rfl,fun i x hi hx=>?_⟩;have N:i<done.length:=by omega
    rw[Bd N] at hx;simpa using aAl done 0 h.1 i x hx
   | succ j=>
    simp at I;obtain⟨q,Y,J⟩:=O u (done++[z]) h.2 j y I;refine⟨q,by simpa using Y,fun i x hi hx=>J i x (by simp;omega) (by simpa using hx)⟩
theorem aBv (L:Nat→Bool):∀(os:List Oper) (acc:List (List Nat)),(∀i p,acc[i]?=some p→L i=true→∀j∈p,L j=true)→
  (∀i o,os[i]?=some o→L (acc.length+i)=true→∀e∈o.after.toList,Region.binds .any e=true→L e.on=true)→
  ∀i p,(aEx os acc)[i]?=some p→L i=true→∀j∈p,L j=true:=by
 intro os
 induction os with
 | nil=>intro acc h _;exact h
 | cons o os ih=>
  intro acc h N;refine ih _ ?_ ?_
  ·intro i p hp hl j hj;by_cases hi:i<acc.length
   ·rw[Bd hi] at hp;exact h i p hp hl j hj
   ·rw[A6 (by omega)] at hp;have O:i-acc.length=0:=by
     rcases Nat.eq_zero_or_pos (i-acc.length) with h0 | h0
     ·exact h0
     ·rw[List.getElem?_eq_none (by simp;omega)] at hp;cases hp
    have Y:i=acc.length:=by omega
    rw[O] at hp;simp at hp;subst hp;have hj:=a3k hj;simp only[C6] at hj;obtain⟨e,he,u⟩:=hj;split at u
    ·rename_i hb;have I:=N 0 o rfl (by simpa [Y] using hl) e he hb;simp only[Ap] at u;rcases u with rfl | u
     ·exact I
     ·cases J:acc[e.on]? with
      | none=>simp[J] at u
      | some q=>
       simp[J] at u;exact h e.on q J I j u
    ·simp at u
  ·intro i o' Z hl;exact N (i+1) o' (by simpa using Z) (by simpa [Br,Nat.add_comm 1 i] using hl)
def aRy (ops:Array Oper) (listed:Array Bool):Prop:=∀(i:Nat) (o:Oper),ops[i]?=some o→listed.getD i false=true→∀e∈o.after.toList,Region.binds .any e=true→listed.getD e.on false=true
theorem mY {l:Array Bool}{i:Nat}(h:i<l.size):l.getD i true=l.getD i false:=by simp[A9,h]
theorem wM {ops:Array Oper}{listed:Array Bool}(hl:listed.size=ops.size) {i:Nat}(h:i∈Region.ready .any ops listed):
  i<ops.size∧listed.getD i false=false∧∀o,ops[i]?=some o→∀e∈o.after.toList,Region.binds .any e=true→listed.getD e.on false=true:=by
 simp only[Region.ready,C1,mem_range,Aj,Bool.not_eq_true'] at h;obtain⟨h1,h2,h3⟩:=h;refine⟨h1,by rwa [←mY (by omega)],fun o u e he hb=>?_⟩;simp only[u,Option.map_some,Option.getD_some] at h3;have:=(Array.all_eq_true_iff_forall_mem.1 h3) e (by simpa using he);simpa [hb] using this
theorem aXu {P:Program}{n:Nat}{ops:Array Oper}{G:Ctx}{st st':St}{xs:REs}{Q:Exit→Act→World→Prop}(hr:Run P n ops 0 st xs st') (hlen:xs.length=ops.size)
  (hap:gG (qX ops) xs []=true) (hed:iY ops=true)
  (hQ:∀S' μ' a' w',Sim G n S' μ' st' a' w'→Q .normal a' w'):
  ∀(fuel:Nat) (listed:Array Bool),listed.size=ops.size→((List.range ops.size).filter fun i=>!listed.getD i false).length=fuel→aRy ops listed→
   ∀S μ a w,Sim G n S μ (fK (fun j=>listed.getD j false) 0 xs st) a w→∀ro,wpAnyIn (Wd ro) 0 P .any ops Q fuel listed a w:=by
 have ac:∀(listed:Array Bool),listed.size=ops.size→Region.ready .any ops listed=[]→∀S μ a w,Sim G n S μ (fK (fun j=>listed.getD j false) 0 xs st) a w→Q .normal a w:=by
  intro listed hl N S μ a w hs;have hall:∀i,i<ops.size→listed.getD i false=true:=by
   intro i
   induction i using Nat.strongRecOn with
   | _ i ih=>
    intro hi;cases hc:listed.getD i false with
    | true=>rfl
    | false=>
     exfalso;have:i∈Region.ready .any ops listed:=by
      simp only[Region.ready,C1,mem_range,Aj,Bool.not_eq_true'];refine⟨hi,by rw[mY (by omega)];exact hc,?_⟩;have ho:ops[i]?=some ops[i]:=by simp[hi]
      simp only[ho,Option.map_some,Option.getD_some];refine Array.all_eq_true_iff_forall_mem.2 fun e he=>?_
      have hlt:=(A4.1 hed) (ops[i],i) (by
       rw[List.mem_iff_getElem?]
       exact⟨i,by simp[hi]⟩)
      have I:=(A4.1 hlt) e (by simpa using he);simp only[Bool.or_eq_true,Bool.not_eq_true',decide_eq_true_eq] at I ⊢;rcases I with I | I
      ·exact .inl I
      ·exact .inr (ih e.on I (by omega))
     rw[N] at this;simp at this
  have he:fK (fun j=>listed.getD j false) 0 xs st=st':=by
   rw[←hr.final (fun _=>true) (fun _ _=>rfl)];have key:∀i x,xs[i]?=some x→listed.getD (0+i) false≠true→False:=by
    intro i x hx u;have hi:i<xs.length:=(Aa.1 hx).1
    exact u (by rw[Bc];exact hall i (by omega))
   have e1:(fK (fun j=>listed.getD j false) 0 xs st).e=(fK (fun _=>true) 0 xs st).e:=funext fun t=>xE t xs 0 _ _ _ _ rfl fun i x hx u=>(key i x hx u).elim
   have e2:(fK (fun j=>listed.getD j false) 0 xs st).h=(fK (fun _=>true) 0 xs st).h:=funext fun t=>xD t xs 0 _ _ _ _ rfl fun i x hx u=>(key i x hx u).elim
   cases hA:fK (fun j=>listed.getD j false) 0 xs st;cases hB:fK (fun _=>true) 0 xs st;simp only[hA,hB] at e1 e2;have e3:(fK (fun j=>listed.getD j false) 0 xs st).d=(fK (fun _=>true) 0 xs st).d:=by rw[aE8,aE8]
   simp only[hA,hB] at e3;rw[e1,e2,e3]
  rw[he] at hs;exact hQ S μ a w hs
 intro fuel
 induction fuel with
 | zero=>
  intro listed hl hf _ S μ a w hs;have N:Region.ready .any ops listed=[]:=by
   rw[List.eq_nil_iff_forall_not_mem];intro i hi;obtain⟨h1,h2,_⟩:=wM hl hi;have:i∈(List.range ops.size).filter fun i=>!listed.getD i false:=by simp only[C1,mem_range,Bool.not_eq_true'];exact⟨h1,h2⟩
   rw[Az hf] at this;simp at this
  exact fun _=>⟨N,ac listed hl N S μ a w hs⟩
 | succ fuel ih=>
  intro listed hl hf hcl S μ a w hs ro;refine⟨fun N=>ac listed hl N S μ a w hs,fun i hi=>?_⟩;obtain⟨h1,h2,h3⟩:=wM hl hi;have hx:xs[i]?=some xs[i]:=by simp[hlen,h1]
  have ho:ops[i]?=some ops[i]:=by simp[h1]
  have ad:aRy ops (listed.setIfInBounds i true):=by
   intro j o hj J e he hb;simp only[A9,Bz] at J ⊢;have ae:listed.getD e.on false=true→(if i=e.on then if i<listed.size then some true else none else listed[e.on]?).getD false=true:=by
    intro hh;split
    ·simp[hl,h1]
    ·rwa [A9] at hh
   by_cases aa:i=j
   ·subst aa;exact ae (h3 o hj e he hb)
   ·rw[φ aa] at J;exact ae (hcl j o hj (by rwa [A9]) e he hb)
  have hpd:∀(L:Array Bool),aRy ops L→∀k p,(qX ops)[k]?=some p→L.getD k false=true→∀j∈p,L.getD j false=true:=by
   intro L hL k p hp hk;refine aBv (fun j=>L.getD j false) ops.toList [] (by simp) ?_ k p hp hk;intro k' o ho' hl' e he hb;exact hL k' o (by simpa using ho') (by simpa using hl') e he hb
  have Y:(listed.setIfInBounds i true).getD i false=true:=by simp[A9,hl,h1]
  have hold:∀j,j≠i→(listed.setIfInBounds i true).getD j false=listed.getD j false:=by
   intro j hj;simp only[A9,Bz];rw[φ (fun e=>hj e.symm)]
  have hdis1:∀j y,xs[j]?=some y→j<i→listed.getD j false=false→indep y xs[i]=true:=by
   intro j y hy hji J;obtain⟨p,hp,Z⟩:=s6 _ _ _ hap i _ hx;rcases Z j y (by simpa using hji) (by simpa using hy) with hm | hm
   ·have:=hpd _ ad i p hp Y j hm;rw[hold j (by omega)] at this;rw[this] at J;cases J
   ·exact hm
  have ab:∀j y,xs[j]?=some y→i<j→listed.getD j false=true→indep xs[i] y=true:=by
   intro j y hy aa J;obtain⟨p,hp,Z⟩:=s6 _ _ _ hap j _ hy;rcases Z i xs[i] (by simpa using aa) (by simp) with hm | hm
   ·have:=hpd _ hcl j p hp J i hm;rw[this] at h2;cases h2
   ·exact hm
  have hg:=hr.at i _ hx;simp only[Bc] at hg;have hag:rR xs[i].1 (fK (fun j=>decide (j<i)) 0 xs st) (fK (fun j=>listed.getD j false) 0 xs st):=by
   have key:∀k x,xs[k]?=some x→listed.getD (0+k) false≠decide (0+k<i)→(∀t∈xs[i].1.e,t∉x.2.we)∧(∀t∈xs[i].1.h,t∉x.2.wh):=by
    intro k x hk u;rw[Bc] at u;by_cases ag:k<i
    ·have O:listed.getD k false=false:=by
      cases hc:listed.getD k false with
      | false=>rfl
      | true=>simp[hc,ag] at u
     have hd:=hdis1 k x hk ag O;simp only[indep,Aj] at hd;obtain⟨⟨⟨d1,d2⟩,d3⟩,d4⟩:=hd;exact⟨fun t ht hw=>kV d1 t hw (by simp[ht]),fun t ht hw=>kV d2 t hw (by simp[ht])⟩
    ·by_cases hke:k=i
     ·subst hke;rw[h2] at u;simp at u
     ·have O:listed.getD k false=true:=by
       cases hc:listed.getD k false with
       | true=>rfl
       | false=>simp[hc,ag] at u
      have hd:=ab k x hk (by omega) O;simp only[indep,Aj] at hd;obtain⟨⟨⟨d1,d2⟩,d3⟩,d4⟩:=hd;exact⟨fun t ht hw=>kV d3 t hw ht,fun t ht hw=>kV d4 t hw ht⟩
   exact⟨fun t ht=>xE t xs 0 _ _ _ _ rfl fun k x hk u=>(key k x hk u).1 t ht,fun t ht=>xD t xs 0 _ _ _ _ rfl fun k x hk u=>(key k x hk u).2 t ht⟩
  refine hg _ hag G S μ a w _ Q hs (fun S' μ' a' w' hs'=>?_) ro;refine ih (listed.setIfInBounds i true) (by simp[hl]) ?_ ad S' μ' a' w' ?_ ro
  ·--one fewer is left
   have:∀(l:List Nat),l.Nodup→i∈l→((l.filter fun j=>!listed.getD j false).length=((l.filter fun j=>!(listed.setIfInBounds i true).getD j false).length)+1):=by
    intro l
    induction l with
    | nil=>intro _ h;simp at h
    | cons b l ihl=>
     intro hnd hmem;have ah:=(B3.1 hnd)
     by_cases hb:b=i
     ·subst hb;have hno:∀j∈l,(!(listed.setIfInBounds b true).getD j false)=(!listed.getD j false):=fun j hj=>by rw[hold j (fun e=>ah.1 (e▸hj))]
      rw[Cz,Cz,h2,Y];simp only[Bool.not_false,Cs,Bool.not_true,Be,B4,Ac];rw[List.filter_congr hno]
     ·have hm':i∈l:=(Ap.1 hmem).resolve_left fun e=>hb e.symm
      have:=ihl ah.2 hm';rw[Cz,Cz,hold b hb];split
      ·simp only[Ac];omega
      ·exact this
   have:=this (List.range ops.size) List.nodup_range (by simpa using h1);omega
  ·have hadd:=aPl (fun j=>listed.getD j false) i xs[i].2 xs 0 xs[i].1 st (Ag _) (by rw[sub_zero,hx]) h2 (by
    intro k x hk O hik;rw[Bc] at O hik;have hd:=ab k x hk hik O;simp only[indep,Aj] at hd;obtain⟨⟨⟨d1,d2⟩,d3⟩,d4⟩:=hd
    exact⟨fun t ht hw=>kV d1 t ht (by simp[hw]),fun t ht hw=>kV d2 t ht (by simp[hw])⟩)
   rw[←hadd] at hs';have hfe:(fun j=>(listed.setIfInBounds i true).getD j false)=fun j=>listed.getD j false || Nat.beq j i:=funext fun j=>by
    by_cases hj:j=i
    ·subst hj;rw[Y];simp
    ·rw[hold j hj];have hb:Nat.beq j i=false:=by
      cases hb:Nat.beq j i with
      | false=>rfl
      | true=>exact absurd (Ab hb) hj
     rw[hb,Bool.or_false]
   rw[hfe];exact hs'
def aP9:Value→Option V
 | .int k n=>some (.one (.c (.int k n)))
 | .bool b=>some (.one (.c (.bool b)))
 | .string s=>some (.one (.c (.str s.data.toList)))
 | .slice none 0 0=>some (.one (.c .nl))
 | .pointer none=>some (.one (.c .np))
 | .map none=>some (.one (.c (.zv 0)))
 | .nilFunc=>some (.one (.c (.zv 1)))
 | .nilIface=>some (.one (.c (.zv 2)))
 | _=>none
def opv (st:St):Operand→Option V
 | .tmp t=>st.e t
 | .const v=>aP9 v
 | .func f=>some (.one (.clo f []))
 | .global _=>none
def opr:Operand→List Nat
 | .tmp t=>[t]
 | _=>[]
theorem aKn {S:Sto}{μ:Mu}{H:dC}{v:Value}{x:V}(h:aP9 v=some x):bE S μ H x v:=by
 unfold aP9 at h;split at h<;>first | (cases h;simp[bE,bL,Rep,a0q];done) | cases h
theorem aT {G:Ctx}{n:Nat}{S:Sto}{μ:Mu}{st st':St}{a:Act}{w:World}{x:Operand}{v:V}(hs:Sim G n S μ st' a w) (h:opv st x=some v) (ha:∀t∈opr x,st'.e t=st.e t):bE S μ st'.h v (a.eval x):=by
 cases x with
 | tmp t=>exact hs.env t v (by rw[ha t (by simp[opr])];exact h)
 | const u=>exact aKn h
 | func f=>simp[opv] at h;subst h;simp[bE,bL,bC,Act.eval]
 | global g=>simp[opv] at h
section
variable {P:Program}{n:Nat}{o:Oper}{st:St}{d:Nat}
theorem Step.value {rd:Rd}{y:V}(hd:o.dst=some d) (u:d<n)
  (h:∀st',rR rd st st'→∀G S μ a w,Sim G n S μ st' a w→∃v,(execOp a.eval o).run P w=.ok (.value v) w∧bE S μ st'.h y v):Step P n o st rd ⟨some (d,some y),[]⟩:=by
 intro st' ha G S μ a w K Q hs hk;obtain⟨v,I,hv⟩:=h st' ha G S μ a w hs;refine fun ro=>j3 I ?_
 rw[hd];exact hk S μ _ _ (hs.put hs.inv (Evolve.refl _ _ _) u fun z J=>by cases J;exact hv)
theorem a1w {x:Operand}{y:V}(I:o.op=.move x) (hd:o.dst=some d) (u:d<n) (hx:opv st x=some y):Step P n o st ⟨opr x,[]⟩ ⟨some (d,some y),[]⟩:=
 Step.value hd u fun _ ha _ _ _ a _ hs=>⟨a.eval x,by simp[execOp,I],aT hs hx ha.1⟩
theorem aSy {x:Operand}{y:V}(I:o.op=.assign x) (hd:o.dst=some d) (u:d<n) (hx:opv st x=some y):Step P n o st ⟨opr x,[]⟩ ⟨some (d,some y),[]⟩:=
 Step.value hd u fun _ ha _ _ _ a _ hs=>⟨a.eval x,by simp[execOp,I],aT hs hx ha.1⟩
theorem gD {S:Sto}{μ:Mu}{H:dC}{k:IntKind}{m:Int}{v:Value}(h:bE S μ H (.one (.c (.int k m))) v):v=.int k m:=by simpa [bE,bL,Rep] using h
theorem jX {S:Sto}{μ:Mu}{H:dC}{b:Bool}{v:Value}(h:bE S μ H (.one (.c (.bool b))) v):v=.bool b:=by simpa [bE,bL,Rep] using h
theorem mP {S:Sto}{μ:Mu}{H:dC}{b:List UInt8}{v:Value}(h:bE S μ H (.one (.c (.str b))) v):v=.string ⟨⟨b⟩⟩:=by simpa [bE,bL,Rep] using h
abbrev I (k:IntKind) (m:Int):V:=.one (.c (.int k m))
abbrev B (b:Bool):V:=.one (.c (.bool b))
abbrev T (s:List UInt8):V:=.one (.c (.str s))
theorem fN {x y:Operand}{st':St}(ha:rR ⟨opr x++opr y,[]⟩ st st'):(∀t∈opr x,st'.e t=st.e t)∧(∀t∈opr y,st'.e t=st.e t):=
 ⟨fun t h=>ha.1 t (by simp[h]),fun t h=>ha.1 t (by simp[h])⟩
theorem fR {op:BinOp}{u ty:TypeId}{x y:Operand}{k:IntKind}{a b:Int}{z:V}(N:o.op=.binOp op u x y ty) (hd:o.dst=some d) (J:d<n) (hx:opv st x=some (I k a)) (O:opv st y=some (I k b))
  (Y:∀w:World,∃v,(binOp op u (.int k a) (.int k b)).run P w=.ok v w∧∀S μ H,bE S μ H z v):Step P n o st ⟨opr x++opr y,[]⟩ ⟨some (d,some z),[]⟩:=by
 refine Step.value hd J fun _ ha _ _ _ ac w hs=>?_
 have h1:=gD (aT hs hx (fN ha).1);have h2:=gD (aT hs O (fN ha).2);obtain⟨v,h3,h4⟩:=Y w;refine⟨v,?_,h4 _ _ _⟩;simp only[execOp,N,h1,h2,Ah];have:(eqGuard op u x y (.int k a) (.int k b)).run P w=.ok () w:=by
  unfold eqGuard;split<;>rfl
 rw[this];simp only[δ,h3,Ai]
theorem aSz {J ty:TypeId}{x y:Operand}{k:IntKind}{a b r:Int}(N:o.op=.binOp .add J x y ty) (hd:o.dst=some d) (u:d<n) (hx:opv st x=some (I k a)) (O:opv st y=some (I k b)) (Y:k.wrap (a+b)=r):
  Step P n o st ⟨opr x++opr y,[]⟩ ⟨some (d,some (I k r)),[]⟩:=
 fR N hd u hx O fun w=>⟨.int k r,by simp[binOp,Op.intArith,Y],fun _ _ _=>by simp[bE,bL,Rep]⟩
theorem aSo {J ty:TypeId}{x y:Operand}{k:IntKind}{a b r:Int}(N:o.op=.binOp .sub J x y ty) (hd:o.dst=some d) (u:d<n) (hx:opv st x=some (I k a)) (O:opv st y=some (I k b)) (Y:k.wrap (a-b)=r):
  Step P n o st ⟨opr x++opr y,[]⟩ ⟨some (d,some (I k r)),[]⟩:=
 fR N hd u hx O fun w=>⟨.int k r,by simp[binOp,Op.intArith,Y],fun _ _ _=>by simp[bE,bL,Rep]⟩
theorem aSt {J ty:TypeId}{x y:Operand}{k:IntKind}{a b r:Int}(N:o.op=.binOp .mul J x y ty) (hd:o.dst=some d) (u:d<n) (hx:opv st x=some (I k a)) (O:opv st y=some (I k b)) (Y:k.wrap (a*b)=r):
  Step P n o st ⟨opr x++opr y,[]⟩ ⟨some (d,some (I k r)),[]⟩:=
 fR N hd u hx O fun w=>⟨.int k r,by simp[binOp,Op.intArith,Y],fun _ _ _=>by simp[bE,bL,Rep]⟩
theorem a1r {J ty:TypeId}{x y:Operand}{k:IntKind}{a b r:Int}(N:o.op=.binOp .quo J x y ty) (hd:o.dst=some d) (u:d<n) (hx:opv st x=some (I k a)) (O:opv st y=some (I k b)) (hb:b≠0) (Y:k.wrap (a.tdiv b)=r):
  Step P n o st ⟨opr x++opr y,[]⟩ ⟨some (d,some (I k r)),[]⟩:=
 fR N hd u hx O fun w=>⟨.int k r,by simp[binOp,Op.intDiv,hb,Y],fun _ _ _=>by simp[bE,bL,Rep]⟩
theorem a1p {J ty:TypeId}{x y:Operand}{k:IntKind}{a b r:Int}(N:o.op=.binOp .rem J x y ty) (hd:o.dst=some d) (u:d<n) (hx:opv st x=some (I k a)) (O:opv st y=some (I k b)) (hb:b≠0) (Y:a.tmod b=r):
  Step P n o st ⟨opr x++opr y,[]⟩ ⟨some (d,some (I k r)),[]⟩:=
 fR N hd u hx O fun w=>⟨.int k r,by simp[binOp,Op.intDiv,hb,Y],fun _ _ _=>by simp[bE,bL,Rep]⟩
theorem a5e {J ty:TypeId}{x y:Operand}{k:IntKind}{a b:Int}(N:o.op=.binOp .lss J x y ty) (hd:o.dst=some d) (u:d<n) (hx:opv st x=some (I k a)) (O:opv st y=some (I k b)):
  Step P n o st ⟨opr x++opr y,[]⟩ ⟨some (d,some (B (decide (a<b)))),[]⟩:=
 fR N hd u hx O fun w=>⟨.bool (decide (a<b)),by simp[binOp,Op.intCmp],fun _ _ _=>by simp[bE,bL,Rep]⟩
theorem a5f {J ty:TypeId}{x y:Operand}{k:IntKind}{a b:Int}(N:o.op=.binOp .leq J x y ty) (hd:o.dst=some d) (u:d<n) (hx:opv st x=some (I k a)) (O:opv st y=some (I k b)):
  Step P n o st ⟨opr x++opr y,[]⟩ ⟨some (d,some (B (decide (a≤b)))),[]⟩:=
 fR N hd u hx O fun w=>⟨.bool (decide (a≤b)),by simp[binOp,Op.intCmp],fun _ _ _=>by simp[bE,bL,Rep]⟩
theorem a5g {J ty:TypeId}{x y:Operand}{k:IntKind}{a b:Int}(N:o.op=.binOp .gtr J x y ty) (hd:o.dst=some d) (u:d<n) (hx:opv st x=some (I k a)) (O:opv st y=some (I k b)):
  Step P n o st ⟨opr x++opr y,[]⟩ ⟨some (d,some (B (decide (b<a)))),[]⟩:=
 fR N hd u hx O fun w=>⟨.bool (decide (b<a)),by simp[binOp,Op.intCmp],fun _ _ _=>by simp[bE,bL,Rep]⟩
theorem a5h {J ty:TypeId}{x y:Operand}{k:IntKind}{a b:Int}(N:o.op=.binOp .geq J x y ty) (hd:o.dst=some d) (u:d<n) (hx:opv st x=some (I k a)) (O:opv st y=some (I k b)):
  Step P n o st ⟨opr x++opr y,[]⟩ ⟨some (d,some (B (decide (b≤a)))),[]⟩:=
 fR N hd u hx O fun w=>⟨.bool (decide (b≤a)),by simp[binOp,Op.intCmp],fun _ _ _=>by simp[bE,bL,Rep]⟩
theorem a5i {J ty:TypeId}{x y:Operand}{k:IntKind}{a b:Int}(N:o.op=.binOp .eql J x y ty) (hd:o.dst=some d) (u:d<n) (hx:opv st x=some (I k a)) (O:opv st y=some (I k b)):
  Step P n o st ⟨opr x++opr y,[]⟩ ⟨some (d,some (B (decide (a=b)))),[]⟩:=
 fR N hd u hx O fun w=>⟨.bool (decide (a=b)),by simp[binOp,Op.intCmp];rfl,fun _ _ _=>by simp[bE,bL,Rep]⟩
theorem a5a {J ty:TypeId}{x y:Operand}{k:IntKind}{a b:Int}(N:o.op=.binOp .neq J x y ty) (hd:o.dst=some d) (u:d<n) (hx:opv st x=some (I k a)) (O:opv st y=some (I k b)):
  Step P n o st ⟨opr x++opr y,[]⟩ ⟨some (d,some (B (!decide (a=b)))),[]⟩:=
 fR N hd u hx O fun w=>⟨.bool (!decide (a=b)),by simp[binOp,Op.intCmp];rfl,fun _ _ _=>by simp[bE,bL,Rep]⟩
theorem pK {op:BinOp}{u ty:TypeId}{x y:Operand}{a b:List UInt8}{z:V}(N:o.op=.binOp op u x y ty) (hd:o.dst=some d) (I:d<n) (hx:opv st x=some (T a)) (O:opv st y=some (T b))
  (Y:∀w:World,∃v,(Op.stringOp op ⟨⟨a⟩⟩ ⟨⟨b⟩⟩).run P w=.ok v w∧∀S μ H,bE S μ H z v) (J:∀w:World,(binOp op u (.string ⟨⟨a⟩⟩) (.string ⟨⟨b⟩⟩)).run P w=(Op.stringOp op ⟨⟨a⟩⟩ ⟨⟨b⟩⟩).run P w):Step P n o st ⟨opr x++opr y,[]⟩ ⟨some (d,some z),[]⟩:=by
 refine Step.value hd I fun _ ha _ _ _ ac w hs=>?_
 have h1:=mP (aT hs hx (fN ha).1);have h2:=mP (aT hs O (fN ha).2);obtain⟨v,h3,h4⟩:=Y w;refine⟨v,?_,h4 _ _ _⟩;simp only[execOp,N,h1,h2,Ah];have:(eqGuard op u x y (.string ⟨⟨a⟩⟩) (.string ⟨⟨b⟩⟩)).run P w=.ok () w:=by
  unfold eqGuard;split<;>rfl
 rw[this];simp only[δ,J,h3,Ai]
theorem mQ (a:List UInt8):(ByteArray.mk ⟨a⟩).toList=a:=by rw[ByteArray.toList_eq]
theorem a1l {I ty:TypeId}{x y:Operand}{a b:List UInt8}(J:o.op=.binOp .eql I x y ty) (hd:o.dst=some d) (u:d<n) (hx:opv st x=some (T a)) (N:opv st y=some (T b)):
  Step P n o st ⟨opr x++opr y,[]⟩ ⟨some (d,some (B (decide (a=b)))),[]⟩:=
 pK J hd u hx N (fun w=>⟨.bool (decide (a=b)),by simp only[Op.stringOp,mQ,Ai];congr 2;exact(Bool.beq_eq_decide_eq a b),fun _ _ _=>by simp[bE,bL,Rep]⟩) fun _=>rfl
theorem a1j {I ty:TypeId}{x y:Operand}{a b:List UInt8}(J:o.op=.binOp .neq I x y ty) (hd:o.dst=some d) (u:d<n) (hx:opv st x=some (T a)) (N:opv st y=some (T b)):
  Step P n o st ⟨opr x++opr y,[]⟩ ⟨some (d,some (B (!decide (a=b)))),[]⟩:=
 pK J hd u hx N (fun w=>⟨.bool (!decide (a=b)),by simp only[Op.stringOp,mQ,Ai];rw[Bool.beq_eq_decide_eq a b],fun _ _ _=>by simp[bE,bL,Rep]⟩) fun _=>rfl
theorem a1n {I ty:TypeId}{x y:Operand}{a b:List UInt8}(J:o.op=.binOp .add I x y ty) (hd:o.dst=some d) (u:d<n) (hx:opv st x=some (T a)) (N:opv st y=some (T b)) (hl:a.length+b.length≤maxLen):
  Step P n o st ⟨opr x++opr y,[]⟩ ⟨some (d,some (T (a++b))),[]⟩:=
 pK J hd u hx N (fun w=>⟨.string ⟨⟨a++b⟩⟩,by
  have h1:(ByteArray.mk ⟨a⟩).size=a.length:=rfl;have h2:(ByteArray.mk ⟨b⟩).size=b.length:=rfl;have h3:¬(((ByteArray.mk ⟨a⟩).size+(ByteArray.mk ⟨b⟩).size:Nat):Int)>IntKind.i64.max:=by
   rw[h1,h2];simp only[IntKind.max,IntKind.signed];unfold maxLen at hl;simp[IntKind.bits];omega
  have h4:(ByteArray.mk ⟨a⟩)++(ByteArray.mk ⟨b⟩)=(⟨⟨a++b⟩⟩:ByteArray):=by
   apply ByteArray.ext;simp
  simp only[Op.stringOp];rw[φ h3,h4]
  rfl,fun _ _ _=>by simp[bE,bL,Rep]⟩) fun _=>rfl
theorem a1k {I ty:TypeId}{x y:Operand}{a b:List UInt8}(J:o.op=.binOp .lss I x y ty) (hd:o.dst=some d) (u:d<n) (hx:opv st x=some (T a)) (N:opv st y=some (T b)):
  Step P n o st ⟨opr x++opr y,[]⟩ ⟨some (d,some (B (Op.bytesLess a b))),[]⟩:=
 pK J hd u hx N (fun w=>⟨.bool (Op.bytesLess a b),by simp only[Op.stringOp,mQ,Ai],fun _ _ _=>by simp[bE,bL,Rep]⟩) fun _=>rfl
theorem a48 {t:TypeId}{x:Operand}{b:Bool}(I:o.op=.unOp .not t x) (hd:o.dst=some d) (u:d<n) (hx:opv st x=some (B b)):Step P n o st ⟨opr x,[]⟩ ⟨some (d,some (B (!b))),[]⟩:=by
 refine Step.value hd u fun _ ha _ _ _ ac w hs=>?_
 have h1:=jX (aT hs hx ha.1);exact⟨.bool (!b),by simp[execOp,I,h1,Op.unary],by simp[bE,bL,Rep]⟩
theorem a5b {t:TypeId}{x:Operand}{k:IntKind}{a r:Int}(N:o.op=.unOp .neg t x) (hd:o.dst=some d) (u:d<n) (hx:opv st x=some (I k a)) (J:k.wrap (0-a)=r):Step P n o st ⟨opr x,[]⟩ ⟨some (d,some (I k r)),[]⟩:=by
 refine Step.value hd u fun _ ha _ _ _ ac w hs=>?_
 have h1:=gD (aT hs hx ha.1);refine⟨.int k r,?_,by simp[bE,bL,Rep]⟩;simp only[Int.zero_sub] at J;simp[execOp,N,h1,Op.unary,Op.intArith,J]
theorem aSr {c x y:Operand}{b:Bool}{z:V}(I:o.op=.pick c x y) (hd:o.dst=some d) (u:d<n) (hc:opv st c=some (B b)) (hb:b=true) (hx:opv st x=some z):Step P n o st ⟨opr c++opr x,[]⟩ ⟨some (d,some z),[]⟩:=by
 refine Step.value hd u fun _ ha _ _ _ ac w hs=>?_
 have h1:=jX (aT hs hc (fN ha).1);subst hb;exact⟨ac.eval x,by simp[execOp,I,h1,asBool],aT hs hx (fN ha).2⟩
theorem aSs {c x y:Operand}{b:Bool}{z:V}(I:o.op=.pick c x y) (hd:o.dst=some d) (u:d<n) (hc:opv st c=some (B b)) (hb:b=false) (J:opv st y=some z):Step P n o st ⟨opr c++opr y,[]⟩ ⟨some (d,some z),[]⟩:=by
 refine Step.value hd u fun _ ha _ _ _ ac w hs=>?_
 have h1:=jX (aT hs hc (fN ha).1);subst hb;exact⟨ac.eval y,by simp[execOp,I,h1,asBool],aT hs J (fN ha).2⟩
theorem aNa {x:Operand}{i:Nat}{l:List V}{z:V}(I:o.op=.extract x i) (hd:o.dst=some d) (u:d<n) (hx:opv st x=some (.tup l)) (hi:l[i]?=some z):Step P n o st ⟨opr x,[]⟩ ⟨some (d,some z),[]⟩:=by
 refine Step.value hd u fun st' ha _ S μ ac w hs=>?_
 have h1:=aT hs hx ha.1;simp only[bE] at h1;obtain⟨vs,h1,h2⟩:=h1;have:∀(l:List V) (vs:List Value) (i:Nat),c6 S μ st'.h l vs→l[i]?=some z→∃v,vs[i]?=some v∧bE S μ st'.h z v:=by
  intro l
  induction l with
  | nil=>intro vs i _ h;simp at h
  | cons r rs J=>
   intro vs i h hi;simp only[c6] at h;obtain⟨v,vs',rfl,h1,h2⟩:=h;cases i with
   | zero=>simp at hi;subst hi;exact⟨v,rfl,h1⟩
   | succ i=>simp at hi;simpa using J vs' i h2 hi
 obtain⟨v,h3,h4⟩:=this l vs i h2 hi;refine⟨v,?_,h4⟩;simp[execOp,I,h1,Instr.extract,h3]
end
inductive TK where
 | bool | int (k:IntKind) | str | pt (e:TypeId) | sl (e:TypeId) | mp (k e:TypeId) | fn
 | st (fs:List (Nat×TypeId)) | ar (m:Nat) (e:TypeId)
 deriving DecidableEq,Inhabited
structure TI where
 k:TK
 size:Nat
 bytes:Nat
 zero:List C
 deriving Inhabited
abbrev TT:=List (Option TI)
def aQc:C→Value→Bool
 | .int k n,.int k' n'=>k==k'&&n==n'
 | .bool b,.bool b'=>b==b'
 | .str s,.string t=>s==t.data.toList
 | .nl,.slice none 0 0=>true
 | .np,.pointer none=>true
 | .zv 0,.map none=>true
 | .zv 1,.nilFunc=>true
 | .zv 2,.nilIface=>true
 | _,_=>false
def uT:List C→List Value→Bool
 | [],[]=>true
 | c::cs,v::vs=>aQc c v&&uT cs vs
 | _,_=>false
def TK.fits:TK→TypeDesc→Bool
 | .bool,.bool=>true
 | .int k,.int k'=>k==k'
 | .str,.string=>true
 | .pt e,.pointer e'=>e==e'
 | .sl e,.slice e'=>e==e'
 | .mp k e,.map k' e'=>k==k'&&e==e'
 | .fn,.func _ _ _=>true
 | .st fs,.struct fields=>fs==fields.toList.map fun f=>(f.offset,f.type)
 | .ar m e,.array m' e'=>m==m'&&e==e'
 | _,_=>false
def TK.agg:TK→Bool
 | .st _=>true
 | .ar _ _=>true
 | _=>false
def TI.check (P:Program) (t:TypeId) (i:TI):Bool:=
 match P.info? t,P.underlying t with
 | some inf,some d=>(inf.size==i.size&&(i.zero.length==i.size&&(i.k.agg || i.size==1)))&&inf.bytes==i.bytes&&i.k.fits d&&
   (match inf.zero with | some z=>uT i.zero z.cells.toList&&(match i.k.agg,z with | true,.agg _=>true | true,_=>false | false,.agg _=>false | false,_=>true) | none=>false)
 | _,_=>false
def TT.check (P:Program) (T:TT):Bool:=T.zipIdx.all fun(i,t)=>match i with | some i=>i.check P t | none=>true
theorem aKo {S:Sto}{c:C}{v:Value}(h:aQc c v=true):Rep S c v:=by
 unfold aQc at h;split at h<;>simp_all [Rep,a0q]
theorem kW {S:Sto}:∀{c:List C}{v:List Value},uT c v=true→dQ S c v
 | [],[],_=>by simp[dQ]
 | c::cs,v::vs,h=>by
  simp only[uT,Aj] at h;simp only[dQ];exact⟨v,vs,rfl,aKo h.1,kW h.2⟩
 | [],_::_,h=>by simp[uT] at h
 | _::_,[],h=>by simp[uT] at h
def Tok (P:Program) (T:TT):Prop:=TT.check P T=true
structure TIok (P:Program) (t:TypeId) (i:TI):Prop where
 ex:∃inf d z,P.info? t=some inf∧P.underlying t=some d∧inf.size=i.size∧inf.bytes=i.bytes∧i.k.fits d=true∧inf.zero=some z∧uT i.zero z.cells.toList=true∧(z=if i.k.agg then .agg z.cells else z)∧(i.k.agg=false→∃u,z.cells= #[u]∧z=u)
 len:i.zero.length=i.size
 one:i.k.agg=false→i.size=1
theorem Tok.get {P:Program}{T:TT}(h:Tok P T) {t:TypeId}{i:TI}(hi:T[t]?=some (some i)):TIok P t i:=by
 unfold Tok TT.check at h
 have:=(A4.1 h) (some i,t) (by
  rw[List.mem_iff_getElem?]
  exact⟨t,by simp[List.getElem?_zipIdx,hi]⟩)
 simp only[TI.check] at this;split at this
 ·rename_i inf d h1 h2;simp only[Aj,beq_iff_eq] at this;obtain⟨⟨⟨⟨h3,hl,u⟩,h4⟩,h5⟩,h6⟩:=this;split at h6
  ·rename_i z I;simp only[Aj] at h6;obtain⟨h6,h7⟩:=h6;refine⟨⟨inf,d,z,h1,h2,h3,h4,h5,I,h6,?_,?_⟩,hl,fun hk=>by simpa [hk] using u⟩
   ·cases hk:i.k.agg with
    | false=>simp
    | true=>
     cases z<;>simp_all [Value.cells]
   ·intro hk;cases z<;>simp_all [Value.cells]
  ·cases h6
 ·cases this
theorem TIok.size_run {P:Program}{t:TypeId}{i:TI}(h:TIok P t i) (w:World):(sizeOf t).run P w=.ok i.size w:=by
 obtain⟨inf,d,z,h1,h2,h3,h4,h5,h6,h7,u⟩:=h.ex;simp[sizeOf,typeInfo,h1,h3]
theorem TIok.zero_run {P:Program}{t:TypeId}{i:TI}(h:TIok P t i):∃z,(∀w:World,(zeroValue t).run P w=.ok z w)∧(∀S,dQ S i.zero z.cells.toList)∧(z=if i.k.agg then .agg z.cells else z)∧(i.k.agg=false→∃u,z.cells= #[u]∧z=u):=by
 obtain⟨inf,d,z,h1,h2,h3,h4,h5,h6,h7,I⟩:=h.ex;exact⟨z,fun w=>by simp[zeroValue,typeInfo,h1,h6],fun S=>kW h7,I⟩
theorem TIok.agg_run {P:Program}{t:TypeId}{i:TI}(h:TIok P t i) (w:World):(isAgg t).run P w=.ok i.k.agg w:=by
 obtain⟨inf,d,z,h1,h2,h3,h4,h5,h6,h7,u⟩:=h.ex;unfold isAgg;rw[Ah,As h2 w];simp only[δ];cases hk:i.k<;>rw[hk] at h5<;>cases d<;>simp[TK.fits] at h5<;>rfl
theorem TIok.slice {P:Program}{t e:TypeId}{i:TI}(h:TIok P t i) (hk:i.k=.sl e):P.underlying t=some (.slice e):=by
 obtain⟨inf,d,z,h1,h2,h3,h4,h5,h6,h7,u⟩:=h.ex;rw[hk] at h5;cases d<;>simp[TK.fits] at h5;rw[h2,h5]
theorem TIok.array {P:Program}{t e:TypeId}{m:Nat}{i:TI}(h:TIok P t i) (hk:i.k=.ar m e):P.underlying t=some (.array m e):=by
 obtain⟨inf,d,z,h1,h2,h3,h4,h5,h6,h7,u⟩:=h.ex;rw[hk] at h5;cases d<;>simp[TK.fits] at h5;rw[h2,h5.1,h5.2]
theorem TIok.str {P:Program}{t:TypeId}{i:TI}(h:TIok P t i) (hk:i.k=.str):P.underlying t=some .string:=by
 obtain⟨inf,d,z,h1,h2,h3,h4,h5,h6,h7,u⟩:=h.ex;rw[hk] at h5;cases d<;>simp[TK.fits] at h5;rw[h2]
theorem TIok.int {P:Program}{t:TypeId}{k:IntKind}{i:TI}(h:TIok P t i) (hk:i.k=.int k):P.underlying t=some (.int k):=by
 obtain⟨inf,d,z,h1,h2,h3,h4,h5,h6,h7,u⟩:=h.ex;rw[hk] at h5;cases d<;>simp[TK.fits] at h5;rw[h2,h5]
theorem TIok.bool {P:Program}{t:TypeId}{i:TI}(h:TIok P t i) (hk:i.k=.bool):P.underlying t=some .bool:=by
 obtain⟨inf,d,z,h1,h2,h3,h4,h5,h6,h7,u⟩:=h.ex;rw[hk] at h5;cases d<;>simp[TK.fits] at h5;rw[h2]
theorem TIok.ptr {P:Program}{t e:TypeId}{i:TI}(h:TIok P t i) (hk:i.k=.pt e):P.underlying t=some (.pointer e):=by
 obtain⟨inf,d,z,h1,h2,h3,h4,h5,h6,h7,u⟩:=h.ex;rw[hk] at h5;cases d<;>simp[TK.fits] at h5;rw[h2,h5]
theorem TIok.map {P:Program}{t k e:TypeId}{i:TI}(h:TIok P t i) (hk:i.k=.mp k e):P.underlying t=some (.map k e):=by
 obtain⟨inf,d,z,h1,h2,h3,h4,h5,h6,h7,u⟩:=h.ex;rw[hk] at h5;cases d<;>simp[TK.fits] at h5;rw[h2,h5.1,h5.2]
theorem TIok.struct {P:Program}{t:TypeId}{fs:List (Nat×TypeId)}{i:TI}(h:TIok P t i) (hk:i.k=.st fs):∃fields,P.underlying t=some (.struct fields)∧fs=fields.toList.map fun f=>(f.offset,f.type):=by
 obtain⟨inf,d,z,h1,h2,h3,h4,h5,h6,h7,u⟩:=h.ex;rw[hk] at h5;cases d<;>simp[TK.fits] at h5;exact⟨_,h2,h5⟩
theorem TIok.info {P:Program}{t:TypeId}{i:TI}(h:TIok P t i):(P.info? t).map (·.size)=some i.size:=by
 obtain⟨inf,d,z,h1,h2,h3,h4,h5,h6,h7,u⟩:=h.ex;simp[h1,h3]
theorem bC.length {S:Sto}{μ:Mu}{H:dC}:∀{c:List R}{v:List Value},bC S μ H c v→v.length=c.length
 | [],_,k=>by simp only[bC] at k;subst k;rfl
 | _::cs,_,k=>by
  simp only[bC] at k;obtain⟨v,vs',rfl,_,h⟩:=k;simp[bC.length h]
theorem bC.get {S:Sto}{μ:Mu}{H:dC}:∀{c:List R}{v:List Value},bC S μ H c v→∀(i:Nat) (x:R),c[i]?=some x→∃u,v[i]?=some u∧bL S μ H x u
 | [],_,_,i,x,h=>by simp at h
 | c::cs,_,k,i,x,h=>by
  simp only[bC] at k;obtain⟨v,vs',rfl,h1,h2⟩:=k;cases i with
  | zero=>simp at h;subst h;exact⟨v,rfl,h1⟩
  | succ i=>simp at h;simpa using h2.get i x h
theorem bC.append {S:Sto}{μ:Mu}{H:dC}:∀{a:List R}{x:List Value}{b:List R}{y:List Value},bC S μ H a x→bC S μ H b y→bC S μ H (a++b) (x++y)
 | [],_,_,_,h,k=>by simp only[bC] at h;subst h;simpa using k
 | _::_,_,_,_,h,k=>by
  simp only[bC,A3] at h ⊢;obtain⟨v,vs',rfl,h1,h2⟩:=h;exact⟨v,vs'++_,rfl,h1,h2.append k⟩
theorem bC.take {S:Sto}{μ:Mu}{H:dC}:∀{a:List R}{x:List Value}(n:Nat),bC S μ H a x→bC S μ H (a.take n) (x.take n)
 | _,_,0,_=>by simp[bC]
 | [],_,n+1,h=>by simp only[bC] at h;subst h;simp[bC]
 | _::_,_,n+1,h=>by
  simp only[bC,An] at h ⊢;obtain⟨v,vs',rfl,h1,h2⟩:=h;exact⟨v,vs'.take n,by simp,h1,h2.take n⟩
theorem bC.drop {S:Sto}{μ:Mu}{H:dC}:∀{a:List R}{x:List Value}(n:Nat),bC S μ H a x→bC S μ H (a.drop n) (x.drop n)
 | _,_,0,h=>by simpa using h
 | [],_,n+1,h=>by simp only[bC] at h;subst h;simp[bC]
 | _::_,_,n+1,h=>by
  simp only[bC,Cv] at h ⊢;obtain⟨v,vs',rfl,h1,h2⟩:=h;simpa using h2.drop n
theorem dQ.toR {S:Sto}{μ:Mu}{H:dC}:∀{c:List C}{v:List Value},dQ S c v→bC S μ H (c.map R.c) v
 | [],_,k=>by simp only[dQ] at k;subst k;simp[bC]
 | c::cs,_,k=>by
  simp only[dQ] at k;obtain⟨v,vs',rfl,h1,h2⟩:=k;simp only[Am,bC];exact⟨v,vs',rfl,by simpa [bL] using h1,h2.toR⟩
def jR:List R→Option (List C)
 | []=>some []
 | .c x::l=>match jR l with | some l'=>some (x::l') | none=>none
 | _::_=>none
theorem pL:∀{rs:List R}{l:List C},jR rs=some l→rs=l.map R.c
 | [],l,h=>by simp[jR] at h;subst h;rfl
 | .c x::rs,l,h=>by
  simp only[jR] at h;split at h
  ·rename_i l' hl;cases h;simp[pL hl]
  ·cases h
 | .hs ..::_,_,h=>by simp[jR] at h
 | .tl ..::_,_,h=>by simp[jR] at h
 | .vp ..::_,_,h=>by simp[jR] at h
 | .ep ..::_,_,h=>by simp[jR] at h
 | .mr ..::_,_,h=>by simp[jR] at h
 | .clo ..::_,_,h=>by simp[jR] at h
 | .mth ..::_,_,h=>by simp[jR] at h
 | .yl ..::_,_,h=>by simp[jR] at h
 | .ra ..::_,_,h=>by simp[jR] at h
 | .rp ..::_,_,h=>by simp[jR] at h
 | .ras ..::_,_,h=>by simp[jR] at h
 | .pas ..::_,_,h=>by simp[jR] at h
theorem bC.pure {S:Sto}{μ:Mu}{H:dC}:∀{l:List C}{v:List Value},bC S μ H (l.map R.c) v→dQ S l v
 | [],_,k=>by simp only[Bo,bC] at k;subst k;simp[dQ]
 | c::cs,_,k=>by
  simp only[Am,bC] at k;obtain⟨v,vs',rfl,h1,h2⟩:=k;simp only[dQ];exact⟨v,vs',rfl,by simpa [bL] using h1,h2.pure⟩
def a0o (rs:List R):V:=match jR rs with | some l=>.pa l | none=>.ma rs
theorem aJh {S:Sto}{μ:Mu}{H:dC}{rs:List R}{vs:List Value}(h:bC S μ H rs vs):bE S μ H (a0o rs) (.agg ⟨vs⟩):=by
 unfold a0o;split
 ·rename_i l hl;rw[pL hl] at h;simp only[bE];exact⟨vs,rfl,h.pure⟩
 ·simp only[bE];exact⟨vs,rfl,h⟩
def j2:V→Option (List R)
 | .one r=>some [r]
 | .pa l=>some (l.map R.c)
 | .ma l=>some l
 | .tup _=>none
theorem Rep.one {S:Sto}:∀{c:C}{v:Value},Rep S c v→v.cells= #[v]∧v.oneCell'=true:=by
 intro c v h;cases c<;>simp only[Rep] at h
 case zv k=>subst h;unfold a0q;split<;>exact⟨rfl,rfl⟩
 case sl=>obtain⟨a,len,cap,rfl,_⟩:=h;exact⟨rfl,rfl⟩
 case sg=>obtain⟨a,len,cap,rfl,_⟩:=h;exact⟨rfl,rfl⟩
 case sn=>obtain⟨b,o,sp,len,cap,rfl,_⟩:=h;exact⟨rfl,rfl⟩
 case pt=>obtain⟨b,o,rfl,_⟩:=h;exact⟨rfl,rfl⟩
 case mp=>obtain⟨b,es,clk,rfl,_⟩:=h;exact⟨rfl,rfl⟩
 case clo=>obtain⟨vs,rfl,_⟩:=h;exact⟨rfl,rfl⟩
 case any=>exact h
 all_goals (subst h;exact⟨rfl,rfl⟩)
theorem bL.one {S:Sto}{μ:Mu}{H:dC}:∀{r:R}{v:Value},bL S μ H r v→v.cells= #[v]∧v.oneCell'=true:=by
 intro r v h;cases r<;>simp only[bL] at h
 case c x=>exact h.one
 case hs=>obtain⟨⟨a,l,c,rfl⟩,_⟩:=h;exact⟨rfl,rfl⟩
 case tl=>obtain⟨⟨a,l,c,rfl⟩,_⟩:=h;exact⟨rfl,rfl⟩
 case vp=>obtain⟨t,cells,b,c,_,_,rfl⟩:=h;exact⟨rfl,rfl⟩
 case ep=>obtain⟨⟨a,rfl⟩,_⟩:=h;exact⟨rfl,rfl⟩
 case mr=>obtain⟨agg,ents,b,c,_,_,rfl⟩:=h;exact⟨rfl,rfl⟩
 case clo=>obtain⟨vs,rfl,_⟩:=h;exact⟨rfl,rfl⟩
 case mth=>obtain⟨u,rfl,_⟩:=h;exact⟨rfl,rfl⟩
 case yl=>obtain⟨st,j,i,e,b,c,_,_,rfl⟩:=h;exact⟨rfl,rfl⟩
 case ra=>obtain⟨⟨a,l,c,rfl⟩,_⟩:=h;exact⟨rfl,rfl⟩
 case rp=>obtain⟨⟨a,rfl⟩,_⟩:=h;exact⟨rfl,rfl⟩
 case ras=>obtain⟨a,cap,rfl,_⟩:=h;exact⟨rfl,rfl⟩
 case pas=>obtain⟨b,o,rfl,_⟩:=h;exact⟨rfl,rfl⟩
theorem bC.one {S:Sto}{μ:Mu}{H:dC}:∀{rs:List R}{vs:List Value},bC S μ H rs vs→∀v∈vs,v.oneCell'=true
 | [],_,h=>by simp only[bC] at h;subst h;simp
 | _::_,_,h=>by
  simp only[bC] at h;obtain⟨v,vs',rfl,h1,h2⟩:=h;intro u hu;rcases Ap.1 hu with rfl | hu
  ·exact h1.one.2
  ·exact h2.one u hu
theorem fJ {S:Sto}{μ:Mu}{H:dC}{x:V}{v:Value}{rs:List R}(h:bE S μ H x v) (hc:j2 x=some rs):bC S μ H rs v.cells.toList:=by
 cases x<;>simp only[j2] at hc
 case one r=>
  cases hc;simp only[bE] at h;rw[h.one.1];simp only[bC];exact⟨v,[],rfl,h,rfl⟩
 case pa l=>
  cases hc;simp only[bE] at h;obtain⟨vs,rfl,h⟩:=h;exact h.toR
 case ma l=>
  cases hc;simp only[bE] at h;obtain⟨vs,rfl,h⟩:=h;exact h
 case tup=>cases hc
section
variable {P:Program}{n:Nat}{o:Oper}{st:St}{d:Nat}{T:TT}
theorem iJ {S:Sto}{μ:Mu}{H:dC}{id:Nat}(h:H id=none) (p:Option (Nat×Nat×Nat)) (x:Option AObj):Evolve S μ H S (upd μ id p) (upd H id x):=
 ⟨S.le_refl,fun j o hj=>by
  have u:j≠id:=fun e=>by subst e;rw[h] at hj;cases hj
  exact⟨o,by rw[bJ _ _ _ u];exact hj,o.succ_refl (bJ _ _ _ u)⟩⟩
theorem Step.new {rd:Rd}{y:V}{id:Nat}{ao:AObj}(hd:o.dst=some d) (I:d<n) (hid:st.h id=none) (J:id∈rd.h)
  (h:∀st',rR rd st st'→st'.h id=none→∀G S μ a w,Sim G n S μ st' a w→∃w' N v c,(execOp a.eval o).run P w=.ok (.value v) w'∧WChg w w' w.heap.size N∧
   o9 S (upd μ id (some (w.heap.size,c))) (upd st'.h id (some ao)) w' id ao∧bE S (upd μ id (some (w.heap.size,c))) (upd st'.h id (some ao)) y v):
  Step P n o st rd ⟨some (d,some y),[(id,some ao)]⟩:=by
 intro st' ha G S μ a w K Q hs hk;have u:st'.h id=none:=by rw[ha.2 id J,hid]
 obtain⟨w',N,v,c,O,hw,Y,hv⟩:=h st' ha u G S μ a w hs;refine fun ro=>j3 O ?_
 rw[hd];have hi:=hs.inv.chg (id:=id) (cap:=c) (ao:=ao) hw (.inl (le_refl _)) (iJ u _ _) Y
  (fun o v e=>by obtain⟨vs,t,fr,h1,_⟩:=hs.inv.holds.1 _ _ _ e;exact absurd (eZ h1) (Nat.lt_irrefl _)) (fun m e=>le_refl _)
 refine hk S (upd μ id (some (w.heap.size,c))) _ _ ?_;have:=hs.put hi (iJ u _ _) I (x:=some y) (fun z Z=>by cases Z;exact hv);unfold Eff.apply;rw[dO];exact this
theorem iX {G:Ctx}{S:Sto}{μ:Mu}{H:dC}{w:World}(h:Inv G S μ H w) (o:Nat):S.cell w.heap.size o=none:=by
 cases hc:S.cell w.heap.size o with
 | none=>rfl
 | some v=>obtain⟨vs,t,fr,h1,_⟩:=h.holds.1 _ _ _ hc;exact absurd (eZ h1) (Nat.lt_irrefl _)
theorem uE {G:Ctx}{S:Sto}{μ:Mu}{H:dC}{w:World}(h:Inv G S μ H w):S.mapo w.heap.size=none:=by
 cases hc:S.mapo w.heap.size with
 | none=>rfl
 | some v=>obtain⟨_,h1⟩:=MK.holds_some (h.holds.2 _ _ hc);exact absurd (eZ h1) (Nat.lt_irrefl _)
theorem j9 (P:Program) (w:World) (t:TypeId) (cs:Array Value):(newRow t cs).run P w=.ok ⟨w.heap.size,0,none⟩ (w.alloc (.cells cs t)):=rfl
theorem aX5 {t:TypeId}{i:TI}(id:Nat) (J:Tok P T) (N:o.op=.alloc t) (hd:o.dst=some d) (u:d<n) (hi:T[t]?=some (some i)) (hid:st.h id=none):
  Step P n o st ⟨[],[id]⟩ ⟨some (d,some (.one (.vp id 0))),[(id,some (.var t (i.zero.map R.c)))]⟩:=by
 refine Step.new hd u hid (by simp) fun st' _ O G S μ a w hs=>?_
 obtain⟨z,Y,I,_⟩:=(J.get hi).zero_run;refine⟨_,_,.pointer (some ⟨w.heap.size,0,none⟩),(0,0),?_,WChg.alloc w (.cells z.cells t),?_,?_⟩
 ·simp[execOp,N,Instr.alloc,Y,newVar,j9]
 ·exact⟨w.heap.size,z.cells.toList,aM _ _ _,Ch w _,(I S).toR,iX hs.inv,uE hs.inv⟩
 ·simp only[bE,bL];exact⟨t,_,_,_,aM _ _ _,aM _ _ _,rfl⟩
theorem a5k {t:TypeId}{x:Operand}{y:V}{rs:List R}(id:Nat) (J:o.op=.box t x) (hd:o.dst=some d) (I:d<n) (hx:opv st x=some y) (hc:j2 y=some rs) (hid:st.h id=none):
  Step P n o st ⟨opr x,[id]⟩ ⟨some (d,some (.one (.vp id 0))),[(id,some (.var t rs))]⟩:=by
 refine Step.new hd I hid (by simp) fun st' ha u G S μ a w hs=>?_
 have hv:=aT hs hx ha.1;refine⟨_,_,.pointer (some ⟨w.heap.size,0,none⟩),(0,0),?_,WChg.alloc w (.cells (a.eval x).cells t),?_,?_⟩
 ·simp[execOp,J,Instr.box,newVar,j9]
 ·exact⟨w.heap.size,(a.eval x).cells.toList,aM _ _ _,Ch w _,bC.evolve (iJ u _ _) _ _ (fJ hv hc),iX hs.inv,uE hs.inv⟩
 ·simp only[bE,bL];exact⟨t,_,_,_,aM _ _ _,aM _ _ _,rfl⟩
theorem aM2 {t:TypeId}(id:Nat) (agg:Bool) (I:o.op=.makeMap t none) (hd:o.dst=some d) (u:d<n) (hid:st.h id=none):
  Step P n o st ⟨[],[id]⟩ ⟨some (d,some (.one (.mr id))),[(id,some (.map agg []))]⟩:=by
 refine Step.new hd u hid (by simp) fun st' _ J G S μ a w hs=>?_
 refine⟨w.alloc (.map #[] 0),_,.map (some w.heap.size),(0,0),?_,WChg.alloc w (.map #[] 0),?_,?_⟩
 ·simp only[execOp,I,Instr.makeMap,C3];rfl
 ·exact⟨w.heap.size, #[],0,aM _ _ _,Ch w _,.inr (.inl (by simp[bP])),.inl (uE hs.inv)⟩
 ·simp only[bE,bL];exact⟨_,_,_,_,aM _ _ _,aM _ _ _,rfl⟩
theorem l9 {w:World}{b:Nat}{vs:List Value}{t:TypeId}(h:w.heap[b]?=some (.cells ⟨vs⟩ t (0,0))) (off k:Nat):w.rangeAt b off ((vs.drop off).take k):=by
 intro j v hj;rw[cell_of_row w b (off+j) ⟨vs⟩ t (0,0) h];rw[Au] at hj;split at hj
 ·rw[Ao] at hj;simpa using hj
 ·cases hj
theorem run_load {t:TypeId}{i:TI}(I:TIok P t i) (w:World) (b off:Nat) (cs:List Value) (N:w.rangeAt b off cs) (hl:cs.length=i.size):
  (Instr.loadAt t (.pointer (some ⟨b,off,none⟩))).run P w=.ok (if i.k.agg then .agg ⟨cs⟩ else cs.headD undef) w:=by
 obtain⟨inf,dd,z,g1,g2,g3,g4,g5,g6,g7,g8⟩:=I.ex;cases hk:i.k.agg with
 | true=>
  have J:dd.isRow=true:=by
   cases O:i.k<;>rw[O] at g5 hk<;>cases dd<;>simp[TK.fits,TK.agg] at g5 hk<;>rfl
  rw[run_loadAt_mid w b off t cs dd N g2 J (by rw[I.info,hl])];simp
 | false=>
  have hs:=I.one hk;rw[hs] at hl
  match cs,hl with
  | [c],_=>
   have hc:=N 0 c rfl;have u:=I.agg_run w;rw[hk] at u;simp only[Instr.loadAt,Instr.sureAddr,Ah,Ai,δ,loadVar,u];simp only[Be,B4,load];simp only[Sem.run];rw[show(⟨b,off,none⟩:Addr)=⟨b,off+0,none⟩ from rfl,hc];simp
def pQ (i:TI) (rs:List R):Option V:=if i.k.agg then some (a0o rs) else match rs with | [r]=>some (.one r) | _=>none
theorem mX {i:TI}{S:Sto}{μ:Mu}{H:dC}{rs:List R}{vs:List Value}{y:V}(h:bC S μ H rs vs) (u:pQ i rs=some y):bE S μ H y (if i.k.agg then .agg ⟨vs⟩ else vs.headD undef):=by
 unfold pQ at u;cases hk:i.k.agg with
 | true=>
  simp only[hk,Cs] at u ⊢;cases u;exact aJh h
 | false=>
  simp only[hk,Be,B4] at u ⊢;split at u
  ·cases u;simp only[bC] at h;obtain⟨v,vs',rfl,h1,rfl⟩:=h;simpa [bE] using h1
  ·cases u
theorem a5v {α:Type}{l:List α}{off k:Nat}(h:off+k≤l.length):((l.drop off).take k).length=k:=by simp;omega
theorem a1x {t tv:TypeId}{i:TI}{x:Operand}{id off:Nat}{cells:List R}{y:V}(J:Tok P T) (N:o.op=.load t x) (hd:o.dst=some d) (u:d<n) (hi:T[t]?=some (some i)) (hx:opv st x=some (.one (.vp id off)))
  (hh:st.h id=some (.var tv cells)) (hl:Nat.ble (off+i.size) cells.length=true) (O:pQ i ((cells.drop off).take i.size)=some y):Step P n o st ⟨opr x,[id]⟩ ⟨some (d,some y),[]⟩:=by
 refine Step.value hd u fun st' ha G S μ a w hs=>?_
 have I:st'.h id=some (.var tv cells):=by rw[ha.2 id (by simp),hh]
 have hv:=aT hs hx ha.1;simp only[bE,bL] at hv;obtain⟨t',cells',b,c,h1,h2,h3⟩:=hv;obtain⟨Z,vs,g1,g2,g3,g4⟩:=hs.inv.obj id _ I;rw[g1] at h2;cases h2;have hlen:=Aq hl;have Y:=g3.length;refine⟨_,?_,mX ((g3.drop off).take i.size) O⟩;simp only[execOp,N,h3,Ah,run_load (J.get hi) w b off _ (l9 g2 off i.size) (a5v (by omega)),δ,Ai]
def aKg (i:TI) (l:List C):Option V:=if i.k.agg then some (.pa l) else match l with | [c]=>some (.one (.c c)) | _=>none
theorem aB9 {i:TI}{S:Sto}{μ:Mu}{H:dC}{l:List C}{vs:List Value}{y:V}(h:dQ S l vs) (u:aKg i l=some y):bE S μ H y (if i.k.agg then .agg ⟨vs⟩ else vs.headD undef):=by
 unfold aKg at u;cases hk:i.k.agg with
 | true=>
  simp only[hk,Cs] at u ⊢;cases u;simp only[bE];exact⟨vs,rfl,h⟩
 | false=>
  simp only[hk,Be,B4] at u ⊢;split at u
  ·cases u;simp only[dQ] at h;obtain⟨v,vs',rfl,h1,rfl⟩:=h;simpa [bE,bL] using h1
  ·cases u
theorem oI {S:Sto}{w:World}(hh:Holds S w) {b off:Nat}{vs:List Value}(h:gN S b off vs):w.rangeAt b off vs:=fun j v hj=>hh.cell (h j v hj)
theorem aM5 {t:TypeId}{i:TI}{x:Operand}{l:List C}{y:V}(J:Tok P T) (N:o.op=.load t x) (hd:o.dst=some d) (u:d<n) (hi:T[t]?=some (some i)) (hx:opv st x=some (.one (.c (.pt l))))
  (hl:i.size≤l.length) (O:aKg i (l.take i.size)=some y):Step P n o st ⟨opr x,[]⟩ ⟨some (d,some y),[]⟩:=by
 refine Step.value hd u fun st' ha G S μ a w hs=>?_
 have hv:=aT hs hx ha.1;simp only[bE,bL,Rep] at hv;obtain⟨b,off,h1,vs,h2,h3⟩:=hv;have Z:=h2.length;refine⟨_,?_,aB9 (h2.take i.size) O⟩;have Y:=oI hs.inv.holds h3;have I:w.rangeAt b off (vs.take i.size):=fun j v hj=>by
  rw[Au] at hj;split at hj
  ·exact Y j v hj
  ·cases hj
 simp only[execOp,N,h1,Ah,run_load (J.get hi) w b off _ I (by simp;omega),δ,Ai]
theorem fF {α:Type}{es:Nat}:∀{l:List (List α)},(∀r∈l,r.length=es)→∀(k:Nat),∀r,l[k]?=some r→(l.flatten.drop (k*es)).take es=r
 | [],_,k,r,h=>by simp at h
 | x::xs,hl,0,r,h=>by
  simp at h;subst h;have:=hl x (by simp);simp[←this]
 | x::xs,hl,k+1,r,h=>by
  simp at h;have hx:=hl x (by simp);have:=fF (l:=xs) (fun r u=>hl r (by simp[u])) k r h;rw[Bi,drop_append,show(k+1)*es-x.length=k*es by rw[hx,A1];omega];rw[drop_of_length_le (by rw[hx,A1];omega),A0];exact this
theorem jK {α:Type}{es:Nat}:∀{l:List (List α)},(∀r∈l,r.length=es)→l.flatten.length=l.length*es
 | [],_=>by simp
 | x::xs,hl=>by
  rw[Bi,κ,jK (fun r u=>hl r (by simp[u])),hl x (by simp),Ac,A1];omega
theorem o9.arr {S:Sto}{μ:Mu}{H:dC}{w:World}{id:Nat}{te es:Nat}{elems:List (List C)}{fz:Nat}(h:o9 S μ H w id (.arr te es elems fz)) {b base cap:Nat}(hm:μ id=some (b,base,cap)):
  (∀r∈elems,r.length=es)∧∃vs,w.heap[b]?=some (.cells ⟨vs⟩ te (0,0))∧
   base+cap*es≤vs.length∧elems.length≤cap∧(cap≤maxLen∧S.mapo b=none)∧dQ S elems.flatten ((vs.drop base).take (elems.length*es))∧
   (fz=0→∀o,base≤o→S.cell b o=none)∧(∀o,base+elems.length*es≤o→S.cell b o=none)∧(fz=2→gN S b base ((vs.drop base).take (elems.length*es))):=by
 obtain⟨h0,⟨h1,_⟩ | ⟨J,u,I,vs,h1,h2⟩⟩:=h
 ·rw[hm] at h1;cases h1
 ·rw[hm] at h1;cases h1;exact⟨h0,vs,h2⟩
theorem aVl {S:Sto}{es base:Nat}{elems:List (List C)}{vs:List Value}(h0:∀r∈elems,r.length=es) (h:dQ S elems.flatten ((vs.drop base).take (elems.length*es))) {k:Nat}{r:List C}(hk:elems[k]?=some r):
  dQ S r ((vs.drop (base+k*es)).take es):=by
 have h1:=(h.drop (k*es)).take es;rw[fF h0 k r hk] at h1;have u:k<elems.length:=(Aa.1 hk).1
 have hle:(k+1)*es≤elems.length*es:=Aw _ u;rw[A1] at hle;rw[drop_take,drop_drop,take_take] at h1;rwa [Cd (by omega)] at h1
theorem aM6 {t te es:Nat}{i:TI}{x:Operand}{id k fo sz:Nat}{elems:List (List C)}{fz:Nat}{r:List C}{y:V}(Z:Tok P T) (ho:o.op=.load t x) (hd:o.dst=some d) (N:d<n) (hi:T[t]?=some (some i)) (hx:opv st x=some (.one (.ep id k fo sz)))
  (hh:st.h id=some (.arr te es elems fz)) (O:sz=elems.length) (Y:elems[k]?=some r) (hl:fo+i.size≤es) (hy:aKg i ((r.drop fo).take i.size)=some y):Step P n o st ⟨opr x,[id]⟩ ⟨some (d,some y),[]⟩:=by
 refine Step.value hd N fun st' ha G S μ a w hs=>?_
 have u:st'.h id=some (.arr te es elems fz):=by rw[ha.2 id (by simp),hh]
 have hv:=aT hs hx ha.1;simp only[bE,bL] at hv;obtain⟨_,hv | ⟨te',es',elems',fz',h1,h2,h3⟩⟩:=hv
 ·rw[u] at hv;cases hv
 rw[u] at h1;cases h1;obtain⟨h4,b,base,cap,h5,h6⟩:=h3 O;obtain⟨g0,vs,g1,g2,g3,g4,g5,g6,g7⟩:=(hs.inv.obj id _ u).arr h5;have I:=aVl g0 g5 Y;have hlr:=I.length;have hres:r.length=es:=g0 r (η Y);have J:=((I.drop fo).take i.size)
 have hlen:=J.length;have hE:((List.drop fo (List.take es (List.drop (base+k*es) vs))).take i.size)=(vs.drop (base+k*es+fo)).take i.size:=by
  rw[drop_take,drop_drop,take_take,Cd (by omega)]
 rw[hE] at J hlen;refine⟨_,?_,aB9 J hy⟩;simp only[execOp,ho,h6,Ah,run_load (Z.get hi) w b (base+k*es+fo) _ (l9 g1 _ i.size) (by rw[hlen];simp;omega),δ,Ai]
end
end Go.AM
