/-
  Texts Am0 to Am5 in one.
-/
import Derived.Lib.ItoaNum
import Derived.WalkKit
import Derived.Below
import Derived.OrdersIn
namespace Go.AM
open Go
theorem ψ:∀{p:Prop} [Decidable p],Decidable.decide p=Bool.true→p:=@of_decide_eq_true
theorem φ.{q,y}:∀{α:Type q}{β:Type y}{as:List α}(f:α→β),(List.map f as).length=as.length:=@List.length_map
theorem θ.{u}:∀{c:Prop}{_:Decidable c},¬c→∀{α:Sort u}{t e:α},(if c then t else e)=e:=@if_neg
theorem ξ.{q}:∀{α:Type q}{i:Nat}{a:α}{l:List α},l[i]?=Option.some a↔∃h,l[i]=a:=@List.getElem?_eq_some_iff
theorem ζ:∀(a b:Bool),((a&&b)=Bool.true)=(a=Bool.true∧b=Bool.true):=@Bool.and_eq_true
theorem η.{q}:∀{α:Type q}{a:α}{l:List α},a∈a::l:=@List.mem_cons_self
theorem κ.{u}:∀{c:Prop}{_:Decidable c},c→∀{α:Sort u}{t e:α},(if c then t else e)=t:=@if_pos
theorem χ.{q}:∀{α:Type q}(y:α) {a:α}{l:List α},a∈l→a∈y::l:=@List.mem_cons_of_mem
theorem ω.{q}:∀{α:Type q}{a:α}{s t:List α},a∈s++t↔a∈s∨a∈t:=@List.mem_append
theorem δ.{q}:∀{α:Type q}{l:List α}{i:Nat}{a:α},l[i]?=Option.some a→a∈l:=@List.mem_of_getElem?
theorem ε.{u}:∀{α:Type u}{as bs:List α},(as++bs).length=as.length+bs.length:=@List.length_append
theorem π:∀{p:Prop} [Decidable p],Decidable.decide p=Bool.false→¬p:=@of_decide_eq_false
theorem τ:∀{α β:Type}(a:α) (w:Go.World) (f:α→Go.World→Go.Result β),(Go.Result.ok a w).andThen f=f a w:=@Go.Result.andThen_ok
theorem Aa:∀{n m:Nat},n.beq m=Bool.true→n=m:=@Nat.eq_of_beq_eq_true
theorem Ab.{q}:∀{α:Type q}{a b:α},a∈[b]↔a=b:=@List.mem_singleton
theorem Ac.{q}:∀{α:Type q}{b:α}{l:List α}{a:α},a∈b::l↔a=b∨a∈l:=@List.mem_cons
theorem Ad:∀{α β:Type}(P:Go.Program) (w:Go.World) (x:Go.Sem α) (f:α→Go.Sem β),Go.Sem.run P (x>>=f) w=(Go.Sem.run P x w).andThen fun a w'=>Go.Sem.run P (f a) w':=@Go.Sem.run_bind
theorem Ae:∀{p:Prop} [Decidable p],p→Decidable.decide p=Bool.true:=@decide_eq_true
theorem Af:∀{α:Type}(P:Go.Program) (w:Go.World) (a:α),Go.Sem.run P (Pure.pure a) w=Go.Result.ok a w:=@Go.Sem.run_pure
theorem Ag:∀{p:Prop} [Decidable p],¬p→Decidable.decide p=Bool.false:=@decide_eq_false
theorem Ah.{q,y}:∀{α:Type q}{β:Type y}{b:β}{f:α→β}{l:List α},b∈List.map f l↔∃a,a∈l∧f a=b:=@List.mem_map
theorem Ai.{u}:∀{α:Type u}{a:α}{as:List α},(a::as).length=as.length+1:=@List.length_cons
theorem Aj.{y,I}:∀{α:Type y}{b:α}{q:Type I}{x:Option q}{f:q→Option α},x.bind f=Option.some b↔∃a,x=Option.some a∧f a=Option.some b:=@Option.bind_eq_some_iff
theorem Ak:∀{n m:Nat},n.ble m=Bool.true→n≤m:=@Nat.le_of_ble_eq_true
theorem Al:∀(n:Nat),0≤n:=@Nat.zero_le
theorem Am.{q}:∀{α:Type q}{xs:List α}{i j:Nat},(List.drop i xs)[j]?=xs[i+j]?:=@List.getElem?_drop
theorem An:Bool.false≠Bool.true:=@Bool.false_ne_true
theorem Ao.{y}:∀{α:Type y}{q I:List α}{i:Nat},q.length≤i→(q++I)[i]?=I[i-q.length]?:=@List.getElem?_append_right
theorem Ap.{q}:∀{α:Type q}{i:Nat}{l:List α},(List.take i l).length=Min.min i l.length:=@List.length_take
theorem Aq.{q,y}:∀{α:Type q}{β:Type y}{f:α→β}{l:List α}{i:Nat},(List.map f l)[i]?=Option.map f l[i]?:=@List.getElem?_map
theorem Ar.{y,I}:∀{α:Type y}{b:α}{q:Type I}{x:Option q}{f:q→α},Option.map f x=Option.some b↔∃a,x=Option.some a∧f a=b:=@Option.map_eq_some_iff
theorem As.{q}:∀{α:Type q}{l:List α},List.take l.length l=l:=@List.take_length
theorem At.{u,v}:∀{α:Type u}{β:Type v}{f:α→β}{a:α}{l:List α},List.map f (a::l)=f a::List.map f l:=@List.map_cons
theorem Au.{q}:∀{α:Type q}{p:α→Bool}{l:List α},l.all p=Bool.true↔∀(x:α),x∈l→p x=Bool.true:=@List.all_eq_true
theorem Av:∀{P:Go.Program}{t:Go.TypeId}{d:Go.TypeDesc},P.underlying t=Option.some d→∀(w:Go.World),Go.Sem.run P (Go.underlying t) w=Go.Result.ok d w:=@Go.run_underlying
theorem Aw.{u}:∀{α:Type u}(as bs cs:List α),as++bs++cs=as++(bs++cs):=@List.append_assoc
theorem Ax.{y}:∀{α:Type y}{q I:List α}{i:Nat},i<q.length→(q++I)[i]?=q[i]?:=@List.getElem?_append_left
theorem Ay.{q}:∀{α:Type q}{l:List α}{i j:Nat},(List.take i l)[j]?=if j<i then l[j]? else Option.none:=@List.getElem?_take
theorem Az.{q}:∀{α:Type q}{i:Nat}{l:List α},l.length≤i→List.take i l=l:=@List.take_of_length_le
theorem A0:∀{n m:Nat}(k:Nat),n≤m→n*k≤m*k:=@Nat.mul_le_mul_right
theorem A1.{u}:∀{α:Type u}{a:α}{as bs:List α},a::as++bs=a::(as++bs):=@List.cons_append
theorem A3.{u}:∀{α:Type u}(as:List α),[]++as=as:=@List.nil_append
theorem A4:∀{p:Prop} [Decidable p],(Decidable.decide p=Bool.true)=p:=@decide_eq_true_eq
theorem A6.{q,y}:∀{α:Type q}{β:Type y}{f:α→β}{I J:List α},List.map f (I++J)=List.map f I++List.map f J:=@List.map_append
theorem A7:∀(n m k:Nat),(n+m)*k=n*k+m*k:=@Nat.add_mul
theorem A8.{q}:∀{α:Type q}{xs:Array α}{i:Nat}{d:α},xs.getD i d=xs[i]?.getD d:=@Array.getD_eq_getD_getElem?
theorem A9.{u}:∀{α:Type u}(as:List α),as++[]=as:=@List.append_nil
theorem Ba:(Bool.false=Bool.true)=False:=@Bool.false_eq_true
theorem Bb.{q}:∀{α:Type q}{l:List α},l.length=0→l=[]:=@List.eq_nil_of_length_eq_zero
theorem Bc.{q}:∀{α:Type q}{l:List α},l.length=0↔l=[]:=@List.length_eq_zero_iff
theorem Bd.{q}:∀{α:Type q}{xs:Array α},xs.toList.length=xs.size:=@Array.length_toList
theorem Be:∀(n:Nat),0+n=n:=@Nat.zero_add
theorem Bf.{q}:∀{α:Type q}{a:α}{l:List α},a∈l→∃i:Nat,l[i]?=Option.some a:=@List.getElem?_of_mem
theorem Bg.{q}:∀{α:Type q}{y I:List α},(∀(i:Nat),y[i]?=I[i]?)→y=I:=@List.ext_getElem?
theorem Bh.{q}:∀{α:Type q}{a:α}{i:Nat}{l:List α},(a::l)[i+1]?=l[i]?:=@List.getElem?_cons_succ
theorem Bi:∀(a b:Bool),((a || b)=Bool.true)=(a=Bool.true∨b=Bool.true):=@Bool.or_eq_true
theorem Bj.{u}:∀{α:Type u}{a:α}{as:List α}{i:Nat},List.take (i+1) (a::as)=a::List.take i as:=@List.take_succ_cons
theorem Bk.{q}:∀{α:Type q}{i:Nat}{l:List α},(List.drop i l).length=l.length-i:=@List.length_drop
theorem Bl.{q}:∀{α:Type q}{i:Nat}{l:List α}(h:i<l.length),List.drop i l=l[i]::List.drop (i+1) l:=@List.drop_eq_getElem_cons
theorem Bm.{q}:∀{α:Type q}{l:List α}{L:List (List α)},(l::L).flatten=l++L.flatten:=@List.flatten_cons
theorem Bn.{q,y,I}:∀{β:Type q}{γ:Type y}{α:Type I}{g:β→γ}{f:α→β}{l:List α},List.map g (List.map f l)=List.map (g∘f) l:=@List.map_map
theorem Bo.{q,y}:∀{α:Type q}{β:Type y}{I:List α}{J:List β}{z:α×β}{i:Nat},(I.zip J)[i]?=Option.some z↔I[i]?=Option.some z.fst∧J[i]?=Option.some z.snd:=@List.getElem?_zip_eq_some
theorem Bp.{q}:∀{α:Type q} [BEq α] {a:α}{l:List α},List.count a l≤l.length:=@List.count_le_length
theorem Bq.{q}:∀{α:Type q}{a:α}{l:List α},(a::l).Nodup↔¬a∈l∧l.Nodup:=@List.nodup_cons
theorem Br:∀{p:Prop}{_:Decidable p},Decidable.decide p=Bool.false↔¬p:=@decide_eq_false_iff_not
theorem Bs.{u}:∀{α:Type u}{a:α}{as:List α},(a::as).length=as.length+1:=@List.length_cons
theorem Bt.{q}:∀{α:Type q}{l:List α}{i:Nat},List.take (i+1) l=List.take i l++l[i]?.toList:=@List.take_add_one
theorem Bu.{q,y}:∀{α:Type q}{β:Type y}{f:β→α→β}{b:β}{l l':List α},List.foldl f b (l++l')=List.foldl f (List.foldl f b l) l':=@List.foldl_append
theorem Bv.{q}:∀{α:Sort q}(a b:α),(bif Bool.true then a else b)=a:=@cond_true
theorem Bw:∀{m:Nat}(n:Nat),0<m→n≤n*m:=@Nat.le_mul_of_pos_right
theorem Bx.{q,y}:∀{α:Type q}{l:List α}{I:Type y}{f g:α→I},(∀(a:α),a∈l→f a=g a)→List.map f l=List.map g l:=@List.map_congr_left
theorem By.{q}:∀{α:Type q}{xs:Array α}{i j:Nat}{a:α},(xs.setIfInBounds i a)[j]?=if i=j then if i<xs.size then Option.some a else Option.none else xs[j]?:=@Array.getElem?_setIfInBounds
theorem Bz.{q}:∀{α:Type q}{i:Nat}{a:α}{l:List α},a∈List.take i l→a∈l:=@List.mem_of_mem_take
theorem B0.{q}:∀{α:Sort q}(a b:α),(bif Bool.false then a else b)=b:=@cond_false
theorem B1:∀(b:Bool),((!b)=Bool.true)=(b=Bool.false):=@Bool.not_eq_true'
theorem B2.{q}:∀{α:Type q}{l:List α},l.length=1↔∃a,l=[a]:=@List.length_eq_one_iff
theorem B3.{u}:∀{α:Type u}{l:List α},List.drop 0 l=l:=@List.drop_zero
theorem B4:∀(w:Go.World) (o:Go.Obj),(w.alloc o).heap[w.heap.size]?=Option.some o:=@Go.heap_alloc_new
theorem B5.{q}:∀{α:Sort q}{_:Decidable False}(t e:α),(if False then t else e)=e:=@if_false
theorem B6:∀(n k:Nat),n≤n+k:=@Nat.le_add_right
theorem B7.{y}:∀{α:Type y}{q I:List α}{i:Nat},(q++I)[i]?=if i<q.length then q[i]? else I[i-q.length]?:=@List.getElem?_append
theorem B8:∀{n m k:Nat},n<m→m≤k→n<k:=@Nat.lt_of_lt_of_le
theorem B9:∀(n:Nat),n+0=n:=@Nat.add_zero
theorem Cb:∀{n m:Nat},n≤m→n.ble m=Bool.true:=@Nat.ble_eq_true_of_le
theorem Cc.{u}:∀{α:Type u}{as:List α}{i:Nat},as.length≤i→List.drop i as=[]:=@List.drop_eq_nil_of_le
theorem Cd.{u}:∀{α:Type u}{l:List α},List.take 0 l=[]:=@List.take_zero
theorem Ce.{q,y}:∀{α:Type q}{β:Type y}{f:α→List β}{b:β}{l:List α},b∈List.flatMap f l↔∃a,a∈l∧b∈f a:=@List.mem_flatMap
theorem Cf.{q}:∀{α:Type q}{l:List α}{i:Nat},l[i]?=Option.none↔l.length≤i:=@List.getElem?_eq_none_iff
theorem Cg:∀(a:Nat),a.beq a=Bool.true:=@Nat.beq_refl
theorem Ch.{u}:∀{α:Sort u}{p:α→Prop}(h:∃x,p x),p (Classical.choose h):=@Classical.choose_spec
theorem Ci:∀{a b:Nat},a≤b→Min.min a b=a:=@Nat.min_eq_left
theorem Cj.{q}:∀{α:Type q}{l:List α}{i:Nat}{a b:α},a∈l.set i b→a∈l∨a=b:=@List.mem_or_eq_of_mem_set
theorem Ck:∀(n:Int),-9223372036854775808≤n∧n≤9223372036854775807→Go.IntKind.i64.wrap n=n:=@Go.IntWalk.i64_in
theorem Cl.{q}:∀{α:Type q}{l:List α}{i:Nat}{a:α},l.set i a=if i<l.length then List.take i l++a::List.drop (i+1) l else l:=@List.set_eq_take_append_cons_drop
theorem Cm.{u,v}:∀{α:Type u}{β:Type v}{a:α}{l:List α}{f:β→α→β}{b:β},List.foldl f b (a::l)=List.foldl f (f b a) l:=@List.foldl_cons
theorem Cn.{u}:∀{α:Type u}{as:List α}{i:Nat}{a:α},(as.set i a).length=as.length:=@List.length_set
theorem Co.{u,v}:∀{α:Type u}{β:Type v}{f:α→β},List.map f []=[]:=@List.map_nil
theorem Cq:∀(n m k:Nat),n+m+k=n+(m+k):=@Nat.add_assoc
theorem Cr.{q,y}:∀{α:Type q}{β:Type y}(a:α) (f:α→Option β),(Option.some a).bind f=f a:=@Option.bind_some
theorem Cs.{q}:∀{α:Type q}(i:Nat) (l:List α),List.take i l++List.drop i l=l:=@List.take_append_drop
theorem Ct.{u}:∀{α:Type u}{a:α},[a].length=1:=@List.length_singleton
theorem Cu.{q}:∀{α:Type q}{i:Nat}{b:α}{xs:Array α},xs[i]?=Option.some b↔∃h,xs[i]=b:=@Array.getElem?_eq_some_iff
theorem Cv:∀{n:Nat},(UInt8.ofNat n).toNat=n%2^8:=@UInt8.toNat_ofNat'
theorem Cw.{q}:∀{α:Sort q}{_:Decidable True}(t e:α),(if True then t else e)=t:=@if_true
theorem Cx.{q}:∀{α:Type q}{a:α}{i:Nat}{l:List α},a∈List.drop i l→a∈l:=@List.mem_of_mem_drop
theorem Cy:∀{n m:Nat}(k:Nat),n≤m→k*n≤k*m:=@Nat.mul_le_mul_left
theorem Cz.{q}:∀{α:Type q}{l:List α},List.drop l.length l=[]:=@List.drop_length
theorem C0.{I}:∀{α:Type I}{q y:List α},(q++y).Nodup↔q.Nodup∧y.Nodup∧∀(a:α),a∈q→∀(b:α),b∈y→a≠b:=@List.nodup_append
theorem C1.{q}:∀{α:Type q}{a:α},¬a∈[]:=@List.not_mem_nil
theorem C2.{y}:∀{α:Type y}{q I:List α}{i:Nat},i≤q.length→List.take i (q++I)=List.take i q:=@List.take_append_of_le_length
theorem C3.{q}:∀{α:Type q}{x:α}{xs:List α}{i:Nat}{a:α},(x::xs).set (i+1) a=x::xs.set i a:=@List.set_cons_succ
theorem C4.{q}:∀{α:Type q}{xs y:Array α},(xs++y).toList=xs.toList++y.toList:=@Array.toList_append
theorem C5.{u,v}:∀{α:Type u}{β:Type v}{a:α}{as:List α}{f:α→Option β},List.findSome? f (a::as)=match f a with | Option.some b=>Option.some b | Option.none=>List.findSome? f as:=@List.findSome?_cons
theorem C6.{u}:∀{α:Type u}{a:α}{l:List α}{i:Nat},List.drop (i+1) (a::l)=List.drop i l:=@List.drop_succ_cons
theorem C7:∀(n:Nat),n-n=0:=@Nat.sub_self
theorem C8:∀{q m₁ y m₂:Nat},q≤y→m₁≤m₂→q*m₁≤y*m₂:=@Nat.mul_le_mul
theorem C9.{q,y}:∀{α:Type q}{β:Type y}(f:α→β),Option.map f Option.none=Option.none:=@Option.map_none
theorem Da.{u}:∀{α:Type u} [Add α] [Zero α] {a:α}{l:List α},(a::l).sum=a+l.sum:=@List.sum_cons
theorem Db:∀(b:Bool),(Bool.true&&b)=b:=@Bool.true_and
theorem Dc.{q}:∀{α:Type q}{x:α}{xs:List α}{p:α→Bool},List.filter p (x::xs)=if p x=Bool.true then x::List.filter p xs else List.filter p xs:=@List.filter_cons
theorem Dd.{q}:∀{α:Type q}{f:α→Bool}{xs y:List α},(xs++y).all f=(xs.all f&&y.all f):=@List.all_append
end Go.AM
open List (all_eq_true cons_append drop_succ_cons eq_nil_of_length_eq_zero filter_cons flatten_cons length_cons length_nil map_cons map_nil mem_cons mem_filter mem_flatMap mem_map mem_range nodup_cons take_left' take_succ_cons)
open Nat (add_assoc add_mul add_zero eq_of_beq_eq_true le_refl le_trans lt_of_lt_of_le sub_zero zero_add zero_le)
namespace Go.AM
open Go
def a2p:Option Nat:=some 0
def a65:Array Value:=(Lib.pow10Tab.map fun z=>Value.int .u64 z).toArray
def aWl (w:World):Prop:=∀g,a2p=some g→g<w.heap.size∧∃t fr,w.heap[g]?=some (.cells a65 t fr)
def a56 (w:World) (F:Nat→Prop):Prop:=aWl w∧∀g,a2p=some g→¬F g
inductive C where
 | int (k:IntKind) (n:Int)
 | bool (b:Bool)
 | str (s:List UInt8)
 | nl
 | sl (es:Nat) (l:List (List C))
 | sn (es:Nat) (l:List (List C))
 | np
 | pt (l:List C)
 | mp (agg:Bool) (l:List (List C))
 | zv (k:Nat)
 | any
 | fn (f:FuncId)
 | clo (f:FuncId) (l:List C)
 | sg (te es:Nat) (l:List (List C))
 deriving Inhabited
inductive MK where
 | all (es:Array MapEntry) (clk:Nat)
 | part (ks:List UInt8→Prop)
 | top (te lo hi:Nat)
def aEj (k:List UInt8) (es:Array MapEntry):Prop:=∃e∈es.toList,e.key=.string ⟨⟨k⟩⟩
def MK.has:MK→List UInt8→Prop
 | .all es _,k=>aEj k es
 | .part ks,k=>ks k
 | .top _ _ _,_=>False
def MK.le:MK→MK→Prop
 | .all es clk,m=>m=.all es clk
 | .part ks,m=>∀k,ks k→m.has k
 | .top te lo hi,m=>m=.top te lo hi
theorem MK.le_refl (m:MK):m.le m:=by cases m<;>simp[MK.le,MK.has]
theorem MK.le_has {m q:MK}(h:m.le q) {k:List UInt8}(e:m.has k):q.has k:=by
 cases m with
 | all es clk=>simp only[MK.le] at h;subst h;exact e
 | part ks=>exact h k e
 | top te lo hi=>cases e
theorem MK.le_trans {m y q:MK}(h:m.le y) (k:y.le q):m.le q:=by
 cases m with
 | all es clk=>simp only[MK.le] at h;subst h;exact k
 | part ks=>exact fun s e=>MK.le_has k (h s e)
 | top te lo hi=>simp only[MK.le] at h;subst h;exact k
def MK.holds:MK→Option Obj→Prop
 | .all es clk,o=>o=some (.map es clk)
 | .part ks,o=>∃es clk,o=some (.map es clk)∧∀k,ks k→aEj k es
 | .top te _ hi,o=>∃vs,o=some (.cells ⟨vs⟩ te (0,0))∧hi≤vs.length
theorem MK.holds_some {m:MK}{o:Option Obj}(h:m.holds o):∃x,o=some x:=by
 cases m with
 | all es clk=>exact⟨_,h⟩
 | part ks=>obtain⟨es,clk,h1,_⟩:=h;exact⟨_,h1⟩
 | top te lo hi=>obtain⟨vs,h1,_⟩:=h;exact⟨_,h1⟩
theorem MK.holds_map {m:MK}{es:Array MapEntry}{clk:Nat}(h:m.holds (some (.map es clk))):∀k,m.has k→aEj k es:=by
 cases m with
 | all es clk=>cases h;exact fun _ e=>e
 | part ks=>obtain⟨y,q,h1,h2⟩:=h;cases h1;exact h2
 | top te lo hi=>obtain⟨vs,h1,_⟩:=h;cases h1
structure Sto where
 cell:Nat→Nat→Option Value
 mapo:Nat→Option MK
def Sto.le (S S':Sto):Prop:=(∀b o v,S.cell b o=some v→S'.cell b o=some v)∧(∀b m,S.mapo b=some m→∃m',S'.mapo b=some m'∧m.le m')
theorem Sto.le_refl (S:Sto):S.le S:=⟨fun _ _ _ h=>h,fun _ m h=>⟨m,h,m.le_refl⟩⟩
theorem Sto.le_trans {S S' S'':Sto}(h:S.le S') (k:S'.le S''):S.le S'':=⟨fun b o v e=>k.1 b o v (h.1 b o v e),fun b m e=>by
 obtain⟨y,h1,h2⟩:=h.2 b m e;obtain⟨q,h3,h4⟩:=k.2 b y h1
 exact⟨q,h3,MK.le_trans h2 h4⟩⟩
theorem Sto.le_all {S S':Sto}(h:S.le S') {b:Nat}{es:Array MapEntry}{clk:Nat}(e:S.mapo b=some (.all es clk)):S'.mapo b=some (.all es clk):=by
 obtain⟨q,h1,h2⟩:=h.2 b _ e;simp only[MK.le] at h2;rw[h1,h2]
theorem Sto.le_top {S S':Sto}(h:S.le S') {b te lo hi:Nat}(e:S.mapo b=some (.top te lo hi)):S'.mapo b=some (.top te lo hi):=by
 obtain⟨q,h1,h2⟩:=h.2 b _ e;simp only[MK.le] at h2;rw[h1,h2]
def Sto.free (S:Sto):Prop:=∀b te lo hi,S.mapo b=some (.top te lo hi)→∀o,lo≤o→S.cell b o=none
def Sto.noTop (S:Sto):Prop:=∀b m,S.mapo b=some m→∃es clk,m=.all es clk
def aYn:Nat→Value
 | 0=>.map none
 | 1=>.nilFunc
 | _=>.nilIface
def gS (S:Sto) (b o:Nat) (vs:List Value):Prop:=∀i v,vs[i]?=some v→S.cell b (o+i)=some v
theorem gS.mono {S S':Sto}(h:S.le S') {b o:Nat}{vs:List Value}(k:gS S b o vs):gS S' b o vs:=fun i v e=>h.1 _ _ _ (k i v e)
mutual
def Rep (S:Sto):C→Value→Prop
 | .int k n,v=>v=.int k n
 | .bool b,v=>v=.bool b
 | .str s,v=>v=.string ⟨⟨s⟩⟩
 | .nl,v=>v=.slice none 0 0
 | .sl es l,v=>∃a len cap,v=.slice a len cap∧len=l.length∧len≤cap∧cap≤maxLen∧(a=none→len=0∧cap=0)∧
   (∀ad,a=some ad→cap≠0→ad.spot=none)∧∃b o,(∀ad,a=some ad→ad.block=b∧ad.off=o)∧bS S es b l o
 | .sn es l,v=>∃b o sp len cap,v=.slice (some ⟨b,o,sp⟩) len cap∧len=l.length∧len≤cap∧cap≤maxLen∧(cap≠0→sp=none)∧bS S es b l o
 | .np,v=>v=.pointer none
 | .pt l,v=>∃b o,v=.pointer (some ⟨b,o,none⟩)∧∃vs,dH S l vs∧gS S b o vs
 | .mp agg l,v=>∃b es clk,v=.map (some b)∧S.mapo b=some (.all es clk)∧(bD S agg l es.toList∨aNd S agg l es)
 | .zv k,v=>v=aYn k
 | .any,v=>v.cells= #[v]∧v.oneCell'=true
 | .fn f,v=>v=.func (.func f) #[] ⟨[]⟩
 | .clo f l,v=>∃vs,v=.func (.func f) #[] ⟨vs⟩∧dH S l vs
 | .sg te es l,v=>∃a len cap,v=.slice a len cap∧len=l.length∧len≤cap∧cap≤maxLen∧((a=none∧len=0∧cap=0)∨∃b o,a=some ⟨b,o,none⟩∧bS S es b l o∧S.mapo b=some (.top te (o+l.length*es) (o+cap*es)))
def dH (S:Sto):List C→List Value→Prop
 | [],vs=>vs=[]
 | c::cs,vs=>∃v vs',vs=v::vs'∧Rep S c v∧dH S cs vs'
def bS (S:Sto) (es b:Nat):List (List C)→Nat→Prop
 | [],_=>True
 | r::rs,o=>r.length=es∧(∃vs,dH S r vs∧gS S b o vs)∧bS S es b rs (o+es)
def bD (S:Sto) (agg:Bool):List (List C)→List MapEntry→Prop
 | [],es=>es=[]
 | r::rs,es=>∃e es',es=e::es'∧(∃vs,dH S r (e.key::vs)∧(e.val=if agg then .agg ⟨vs⟩ else vs.headD undef)∧(agg=false→vs.length=1))∧bD S agg rs es'
def gN (S:Sto) (agg:Bool):List (List C)→MapEntry→Prop
 | [],_=>False
 | r::rs,e=>(∃vs,dH S r (e.key::vs)∧(e.val=if agg then .agg ⟨vs⟩ else vs.headD undef)∧(agg=false→vs.length=1))∨gN S agg rs e
def aNd (S:Sto) (agg:Bool):List (List C)→Array MapEntry→Prop
 | [],_=>False
 | r::rs,es=>r=[]∧(∀e∈es.toList,gN S agg rs e)∧∀k cs,(.str k::cs)∈rs→aEj k es
end
mutual
theorem Rep.mono {S S':Sto}(h:S.le S'):∀(c:C) (v:Value),Rep S c v→Rep S' c v
 | .int _ _,_,k=>by simpa [Rep] using k
 | .bool _,_,k=>by simpa [Rep] using k
 | .str _,_,k=>by simpa [Rep] using k
 | .nl,_,k=>by simpa [Rep] using k
 | .np,_,k=>by simpa [Rep] using k
 | .zv _,_,k=>by simpa [Rep] using k
 | .any,_,k=>by simp only[Rep] at k ⊢;exact k
 | .fn _,_,k=>by simpa [Rep] using k
 | .clo _ l,v,k=>by
  simp only[Rep] at k ⊢;obtain⟨vs,h1,h2⟩:=k;exact⟨vs,h1,dH.mono h l vs h2⟩
 | .sg te es l,v,k=>by
  simp only[Rep] at k ⊢;obtain⟨a,len,cap,h1,h2,h3,h4,h5⟩:=k;refine⟨a,len,cap,h1,h2,h3,h4,h5.imp id fun⟨b,o,h6,y,I⟩=>⟨b,o,h6,bS.mono h es b l o y,Sto.le_top h I⟩⟩
 | .sl es l,v,k=>by
  simp only[Rep] at k ⊢;obtain⟨a,len,cap,h1,h2,h3,h4,h5,h6,b,o,y,I⟩:=k;exact⟨a,len,cap,h1,h2,h3,h4,h5,h6,b,o,y,bS.mono h es b l o I⟩
 | .sn es l,v,k=>by
  simp only[Rep] at k ⊢;obtain⟨b,o,sp,len,cap,h1,h2,h3,h4,h5,h6⟩:=k;exact⟨b,o,sp,len,cap,h1,h2,h3,h4,h5,bS.mono h es b l o h6⟩
 | .pt l,v,k=>by
  simp only[Rep] at k ⊢;obtain⟨b,o,h1,vs,h2,h3⟩:=k;exact⟨b,o,h1,vs,dH.mono h l vs h2,h3.mono h⟩
 | .mp agg l,v,k=>by
  simp only[Rep] at k ⊢;obtain⟨b,es,clk,h1,h2,h3⟩:=k;exact⟨b,es,clk,h1,Sto.le_all h h2,h3.elim (fun h3=>.inl (bD.mono h agg l es.toList h3)) fun h3=>.inr (aNd.mono h agg l es h3)⟩
theorem dH.mono {S S':Sto}(h:S.le S'):∀(c:List C) (v:List Value),dH S c v→dH S' c v
 | [],_,k=>by simpa [dH] using k
 | c::cs,vs,k=>by
  simp only[dH] at k ⊢;obtain⟨v,vs',h1,h2,h3⟩:=k;exact⟨v,vs',h1,Rep.mono h c v h2,dH.mono h cs vs' h3⟩
theorem bS.mono {S S':Sto}(h:S.le S') (es b:Nat):∀(l:List (List C)) (o:Nat),bS S es b l o→bS S' es b l o
 | [],_,_=>by simp[bS]
 | r::rs,o,k=>by
  simp only[bS] at k ⊢;obtain⟨h1,⟨vs,h2,h3⟩,h4⟩:=k;exact⟨h1,⟨vs,dH.mono h r vs h2,h3.mono h⟩,bS.mono h es b rs (o+es) h4⟩
theorem bD.mono {S S':Sto}(h:S.le S') (agg:Bool):∀(l:List (List C)) (es:List MapEntry),bD S agg l es→bD S' agg l es
 | [],_,k=>by simpa [bD] using k
 | r::rs,es,k=>by
  simp only[bD] at k ⊢;obtain⟨e,q,h1,⟨vs,h2,h3⟩,h4⟩:=k;exact⟨e,q,h1,⟨vs,dH.mono h r _ h2,h3⟩,bD.mono h agg rs q h4⟩
theorem gN.mono {S S':Sto}(h:S.le S') (agg:Bool):∀(l:List (List C)) (e:MapEntry),gN S agg l e→gN S' agg l e
 | [],_,k=>by simp only[gN] at k
 | r::rs,e,k=>by
  simp only[gN] at k ⊢;rcases k with⟨vs,h2,h3⟩ | k
  ·exact .inl ⟨vs,dH.mono h r _ h2,h3⟩
  ·exact .inr (gN.mono h agg rs e k)
theorem aNd.mono {S S':Sto}(h:S.le S') (agg:Bool):∀(l:List (List C)) (es:Array MapEntry),aNd S agg l es→aNd S' agg l es
 | [],_,k=>by simp only[aNd] at k
 | r::rs,es,k=>by
  simp only[aNd] at k ⊢;exact⟨k.1,fun e he=>gN.mono h agg rs e (k.2.1 e he),k.2.2⟩
end
theorem dH.length {S:Sto}:∀{c:List C}{v:List Value},dH S c v→v.length=c.length
 | [],_,k=>by simp only[dH] at k;subst k;rfl
 | _::cs,_,k=>by
  simp only[dH] at k;obtain⟨v,vs',rfl,_,h⟩:=k;simp[dH.length h]
theorem dH.append {S:Sto}:∀{a:List C}{x:List Value}{b:List C}{y:List Value},dH S a x→dH S b y→dH S (a++b) (x++y)
 | [],_,_,_,h,k=>by simp only[dH] at h;subst h;simpa using k
 | _::_,_,_,_,h,k=>by
  simp only[dH,A1] at h ⊢;obtain⟨v,vs',rfl,h1,h2⟩:=h;exact⟨v,vs'++_,rfl,h1,h2.append k⟩
theorem dH.take {S:Sto}:∀{a:List C}{x:List Value}(n:Nat),dH S a x→dH S (a.take n) (x.take n)
 | _,_,0,_=>by simp[dH]
 | [],_,n+1,h=>by simp only[dH] at h;subst h;simp[dH]
 | _::_,_,n+1,h=>by
  simp only[dH,Bj] at h ⊢;obtain⟨v,vs',rfl,h1,h2⟩:=h;exact⟨v,vs'.take n,by simp,h1,h2.take n⟩
theorem dH.drop {S:Sto}:∀{a:List C}{x:List Value}(n:Nat),dH S a x→dH S (a.drop n) (x.drop n)
 | _,_,0,h=>by simpa using h
 | [],_,n+1,h=>by simp only[dH] at h;subst h;simp[dH]
 | _::_,_,n+1,h=>by
  simp only[dH,C6] at h ⊢;obtain⟨v,vs',rfl,h1,h2⟩:=h;simpa using h2.drop n
theorem bS.get {S:Sto}{es b:Nat}:∀{l:List (List C)}{o:Nat},bS S es b l o→∀(i:Nat) (r:List C),l[i]?=some r→r.length=es∧∃vs,dH S r vs∧gS S b (o+i*es) vs
 | [],_,_,i,r,h=>by simp at h
 | x::xs,o,k,i,r,h=>by
  simp only[bS] at k;obtain⟨h1,h2,h3⟩:=k;cases i with
  | zero=>simp at h;subst h;simpa using ⟨h1,h2⟩
  | succ i=>
   simp at h;have:=h3.get i r h;rw[show o+es+i*es=o+(i+1)*es by rw[A7];omega] at this;exact this
theorem bS.drop {S:Sto}{es b:Nat}:∀{l:List (List C)}{o:Nat}(n:Nat),bS S es b l o→bS S es b (l.drop n) (o+n*es)
 | _,_,0,h=>by simpa using h
 | [],_,n+1,_=>by simp[bS]
 | x::xs,o,n+1,h=>by
  simp only[bS,C6] at h ⊢;have:=h.2.2.drop n;rw[show o+es+n*es=o+(n+1)*es by rw[A7];omega] at this;exact this
theorem bS.take {S:Sto}{es b:Nat}:∀{l:List (List C)}{o:Nat}(n:Nat),bS S es b l o→bS S es b (l.take n) o
 | _,_,0,_=>by simp[bS]
 | [],_,n+1,_=>by simp[bS]
 | x::xs,o,n+1,h=>by
  simp only[bS,Bj] at h ⊢;exact⟨h.1,h.2.1,h.2.2.take n⟩
theorem bS.of_flat {S:Sto}{es b:Nat}:∀{l:List (List C)}{o:Nat}{vs:List Value},(∀r∈l,r.length=es)→dH S l.flatten vs→gS S b o vs→bS S es b l o
 | [],_,_,_,_,_=>by simp[bS]
 | r::rs,o,vs,hl,h,hc=>by
  have q:r.length=es:=hl r (by simp);simp only[bS,Bm] at h ⊢;have h1:=h.take r.length;have h2:=h.drop r.length;simp only[take_left',List.drop_left'] at h1 h2;refine⟨q,⟨_,h1,fun i v e=>?_⟩,bS.of_flat (fun x hx=>hl x (by simp[hx])) h2 fun i v e=>?_⟩
  ·rw[Ay] at e;split at e
   ·exact hc i v e
   ·cases e
  ·rw[Am,q] at e;have:=hc (es+i) v e;rwa [←Cq] at this
inductive R where
 | c (x:C)
 | hs (id off len sz:Nat)
 | tl (id off len sz:Nat)
 | vp (id off:Nat)
 | ep (id i fo sz:Nat)
 | mr (id:Nat)
 | clo (f:FuncId) (caps:List R)
 | mth (f:FuncId) (recv:R)
 | yl (id:Nat)
 | ra (id off len sz:Nat)
 | rp (id i fo sz:Nat)
 | ras (n es:Nat) (l:List R)
 | pas (l:List R)
 deriving Inhabited
inductive V where
 | one (r:R)
 | pa (l:List C)
 | ma (l:List R)
 | tup (l:List V)
 deriving Inhabited
structure LI where
 n:Nat
 params:Array Tmp
 asg:Code
 body:Code
 deriving Inhabited
inductive AObj where
 | var (t:TypeId) (cells:List R)
 | arr (te es:Nat) (elems:List (List C)) (fz:Nat)
 | map (agg:Bool) (ents:List (List C))
 | dead
 | lp (st:LoopState) (jump:Option Code) (i:LI) (e:List (Nat×V))
 | dfr
 | rarr (te es:Nat) (elems:List (List R))
 | tok (r:R) (k:List UInt8)
 deriving Inhabited
abbrev dD:=Nat→Option AObj
abbrev Mu:=Nat→Option (Nat×Nat×Nat)
mutual
def b9 (S:Sto) (μ:Mu) (H:dD):R→Value→Prop
 | .c x,v=>Rep S x v
 | .hs id off len sz,v=>(∃a l c,v=.slice a l c)∧(H id=some .dead∨∃te es elems fz,H id=some (.arr te es elems fz)∧sz≤elems.length∧
   (sz=elems.length→off+len≤sz∧((μ id=none∧elems=[]∧v=.slice none 0 0)∨∃b base cap,μ id=some (b,base,cap)∧v=.slice (some ⟨b,base+off*es,none⟩) len (cap-off))))
 | .tl id off len sz,v=>(∃a l c,v=.slice a l c)∧(H id=some .dead∨∃te es elems fz,H id=some (.arr te es elems fz)∧sz≤elems.length∧
   (sz=elems.length→off+len=sz∧∃b base cap,μ id=some (b,base,cap)∧off≤cap∧v=.slice (some ⟨b,if cap=off then base else base+off*es,none⟩) len (cap-off)))
 | .vp id off,v=>∃t cells b c,H id=some (.var t cells)∧μ id=some (b,c)∧v=.pointer (some ⟨b,off,none⟩)
 | .ep id i fo sz,v=>(∃a,v=.pointer a)∧(H id=some .dead∨∃te es elems fz,H id=some (.arr te es elems fz)∧sz≤elems.length∧
   (sz=elems.length→i<sz∧∃b base cap,μ id=some (b,base,cap)∧v=.pointer (some ⟨b,base+i*es+fo,none⟩)))
 | .mr id,v=>∃agg ents b c,H id=some (.map agg ents)∧μ id=some (b,c)∧v=.map (some b)
 | .clo f caps,v=>∃vs,v=.func (.func f) #[] ⟨vs⟩∧b6 S μ H caps vs
 | .mth f recv,v=>∃u,v=.func (.func f) #[u] #[]∧b9 S μ H recv u
 | .yl id,v=>∃st j i e b c,H id=some (.lp st j i e)∧μ id=some (b,c)∧v=.func (.yield b) #[] #[]
 | .ra id off len sz,v=>(∃a l c,v=.slice a l c)∧(H id=some .dead∨∃te es elems,H id=some (.rarr te es elems)∧sz≤elems.length∧
   (sz=elems.length→off+len≤sz∧((μ id=none∧elems=[]∧v=.slice none 0 0)∨∃b base cap,μ id=some (b,base,cap)∧v=.slice (some ⟨b,base+off*es,none⟩) len (cap-off))))
 | .rp id i fo sz,v=>(∃a,v=.pointer a)∧(H id=some .dead∨∃te es elems,H id=some (.rarr te es elems)∧sz≤elems.length∧
   (sz=elems.length→i<sz∧∃b base cap,μ id=some (b,base,cap)∧v=.pointer (some ⟨b,base+i*es+fo,none⟩)))
 | .ras n es l,v=>∃a cap,v=.slice a n cap∧n*es=l.length∧n≤cap∧cap≤maxLen∧(a=none→n=0∧cap=0)∧(∀ad,a=some ad→ad.spot=none)∧∃b o,(∀ad,a=some ad→ad.block=b∧ad.off=o)∧
   ∃vs,b6 S μ H l vs∧gS S b o vs
 | .pas l,v=>∃b o,v=.pointer (some ⟨b,o,none⟩)∧∃vs,b6 S μ H l vs∧gS S b o vs
def b6 (S:Sto) (μ:Mu) (H:dD):List R→List Value→Prop
 | [],vs=>vs=[]
 | r::rs,vs=>∃v vs',vs=v::vs'∧b9 S μ H r v∧b6 S μ H rs vs'
end
mutual
def aY (S:Sto) (μ:Mu) (H:dD):V→Value→Prop
 | .one r,v=>b9 S μ H r v
 | .pa l,v=>∃vs,v=.agg ⟨vs⟩∧dH S l vs
 | .ma l,v=>∃vs,v=.agg ⟨vs⟩∧b6 S μ H l vs
 | .tup l,v=>∃vs,v=.tuple ⟨vs⟩∧c6 S μ H l vs
def c6 (S:Sto) (μ:Mu) (H:dD):List V→List Value→Prop
 | [],vs=>vs=[]
 | r::rs,vs=>∃v vs',vs=v::vs'∧aY S μ H r v∧c6 S μ H rs vs'
end
def iF:List (List C)→Prop
 | []=>True
 | (.str _::_)::r=>iF r
 | _::_=>False
def aB9 (S:Sto) (agg:Bool) (ents:List (List C)) (es:List MapEntry):Prop:=(ents=[[]]∧∃e',iF e'∧bD S agg e' es)∨bD S agg ents es∨∃T,ents=[]::T∧T≠[]∧∀e∈es,gN S agg T e
theorem aB9.mono {S S':Sto}(h:S.le S') {agg:Bool}{ents:List (List C)}{es:List MapEntry}(k:aB9 S agg ents es):aB9 S' agg ents es:=
 k.imp (fun⟨h1,e',h2,h3⟩=>⟨h1,e',h2,bD.mono h _ _ _ h3⟩) fun k=>k.imp (bD.mono h _ _ _) fun⟨T,h1,h2,h3⟩=>⟨T,h1,h2,fun e he=>gN.mono h _ _ _ (h3 e he)⟩
theorem aB9.rep {S:Sto}{agg:Bool}{ents:List (List C)}{es:List MapEntry}(hm:iF ents) (k:aB9 S agg ents es):bD S agg ents es:=
 k.elim (fun h=>by rw[h.1] at hm;simp[iF] at hm) fun k=>k.elim id fun⟨T,h,_⟩=>by rw[h] at hm;simp[iF] at hm
def aH7 (S:Sto) (b:Nat) (ents:List (List C)):Prop:=S.mapo b=none∨∃T ks,ents=[]::T∧T≠[]∧S.mapo b=some (.part ks)
theorem aH7.kn0 {S:Sto}{b:Nat}{ents:List (List C)}(h:aH7 S b ents) (hm:iF ents):S.mapo b=none:=by
 rcases h with h | ⟨T,ks,h,_⟩
 ·exact h
 ·rw[h] at hm;simp[iF] at hm
theorem aH7.of_eq {S S':Sto}{b:Nat}{ents:List (List C)}(h:aH7 S b ents) (e:S'.mapo b=S.mapo b):aH7 S' b ents:=
 h.imp (fun h=>e.trans h) fun⟨T,ks,h1,h2,h3⟩=>⟨T,ks,h1,h2,e.trans h3⟩
def nI (S:Sto) (μ:Mu) (H:dD) (w:World) (id:Nat):AObj→Prop
 | .var t cells=>∃b vs,μ id=some (b,0,0)∧w.heap[b]?=some (.cells ⟨vs⟩ t (0,0))∧b6 S μ H cells vs∧(∀o,S.cell b o=none)∧S.mapo b=none
 | .arr te es elems fz=>(∀r∈elems,r.length=es)∧((μ id=none∧elems=[])∨∃b base cap vs,μ id=some (b,base,cap)∧w.heap[b]?=some (.cells ⟨vs⟩ te (0,0))∧
   base+cap*es≤vs.length∧elems.length≤cap∧(cap≤maxLen∧S.mapo b=none)∧dH S elems.flatten ((vs.drop base).take (elems.length*es))∧
   (fz=0→∀o,base≤o→S.cell b o=none)∧(∀o,base+elems.length*es≤o→S.cell b o=none)∧(fz=2→gS S b base ((vs.drop base).take (elems.length*es))))
 | .map agg ents=>∃b es clk,μ id=some (b,0,0)∧w.heap[b]?=some (.map es clk)∧aB9 S agg ents es.toList∧aH7 S b ents
 | .dead=>μ id=none
 | .lp st j i e=>∃b r fn tmps,μ id=some (b,0,0)∧w.heap[b]?=some (.loop { state:=st,pending:=j,fn:=fn,tmps:=tmps,params:=i.params,assign:=i.asg,body:=i.body,defers:=r })∧
   tmps.size=i.n∧(∀t v,(t,v)∈e→aY S μ H v (tmps.getD t undef))∧(∀o,S.cell b o=none)∧S.mapo b=none
 | .dfr=>∃b,μ id=some (b,0,0)∧w.heap[b]?=some (.deferred (some []))∧(∀o,S.cell b o=none)∧S.mapo b=none
 | .rarr te es elems=>(∀r∈elems,r.length=es)∧((μ id=none∧elems=[])∨∃b base cap vs,μ id=some (b,base,cap)∧w.heap[b]?=some (.cells ⟨vs⟩ te (0,0))∧
   base+cap*es≤vs.length∧elems.length≤cap∧(cap≤maxLen∧S.mapo b=none)∧b6 S μ H elems.flatten ((vs.drop base).take (elems.length*es))∧(∀o,base≤o→S.cell b o=none))
 | .tok r k=>μ id=none∧∃b,b9 S μ H r (.map (some b))∧∃m,S.mapo b=some m∧m.has k
def AObj.succ (same:Prop):AObj→AObj→Prop
 | .var _ _,.var _ _=>same
 | .arr _ es l _,.arr _ es' l' _=>es=es'∧l.length≤l'.length∧(l.length=l'.length→same)
 | .map _ _,.map _ _=>same
 | .arr _ _ _ _,.dead=>True
 | .dead,.dead=>True
 | .lp _ _ _ _,.lp _ _ _ _=>same
 | .dfr,.dfr=>same
 | .rarr _ es l,.rarr _ es' l'=>es=es'∧l.length≤l'.length∧(l.length=l'.length→same)
 | .rarr _ _ _,.dead=>True
 | .tok _ k,.tok _ k'=>k=k'
 | _,_=>False
structure Evolve (S:Sto) (μ:Mu) (H:dD) (S':Sto) (μ':Mu) (H':dD):Prop where
 le:S.le S'
 obj:∀id o,H id=some o→∃o',H' id=some o'∧o.succ (μ' id=μ id) o'
structure Evo0 (S:Sto) (μ:Mu) (H:dD) (S':Sto) (μ':Mu) (H':dD):Prop where
 le:S.le S'
 obj:∀id o,H id=some o→o≠ .dfr→∃o',H' id=some o'∧o.succ (μ' id=μ id) o'
theorem Evolve.weak {S:Sto}{μ:Mu}{H:dD}{S':Sto}{μ':Mu}{H':dD}(E:Evolve S μ H S' μ' H'):Evo0 S μ H S' μ' H':=⟨E.le,fun id o h _=>E.obj id o h⟩
theorem AObj.succ_refl (o:AObj) {p:Prop}(h:p):o.succ p o:=by cases o<;>simp[AObj.succ,h]
theorem AObj.succ_dead {o:AObj}{p:Prop}(h:AObj.dead.succ p o):o=.dead:=by cases o<;>simp only[AObj.succ] at h;rfl
theorem AObj.succ_trans {a b c:AObj}{p q r:Prop}(h:a.succ p b) (k:b.succ q c) (y:p→q→r):a.succ r c:=by
  cases a<;>cases b<;>simp only[AObj.succ] at h<;>cases c<;>simp only[AObj.succ] at k ⊢
  all_goals first
    | exact y h k
    | trivial
    | exact h.trans k
    | (obtain⟨h1,h2,h3⟩:=h
       obtain⟨k1,k2,I⟩:=k
       exact⟨h1.trans k1,le_trans h2 k2,fun e=>y (h3 (by omega)) (I (by omega))⟩)
theorem Evolve.refl (S:Sto) (μ:Mu) (H:dD):Evolve S μ H S μ H:=⟨S.le_refl,fun _ o h=>⟨o,h,o.succ_refl rfl⟩⟩
theorem Evolve.trans {S S' S'':Sto}{μ μ' q:Mu}{H H' H'':dD}(h:Evolve S μ H S' μ' H') (k:Evolve S' μ' H' S'' q H''):Evolve S μ H S'' q H'':=
 ⟨Sto.le_trans h.le k.le,fun id o I=>by
  obtain⟨o',h1,h2⟩:=h.obj id o I;obtain⟨y,k1,k2⟩:=k.obj id o' h1
  exact⟨y,k1,AObj.succ_trans h2 k2 fun e f=>f.trans e⟩⟩
section
variable {S S':Sto}{μ μ':Mu}{H H':dD}
mutual
theorem b9.evolve0 (E:Evo0 S μ H S' μ' H'):∀(r:R) (v:Value),b9 S μ H r v→b9 S' μ' H' r v
 | .c x,v,k=>by simp only[b9] at k ⊢;exact Rep.mono E.le x v k
 | .hs id off len sz,v,k=>by
  simp only[b9] at k ⊢;obtain⟨kk,k⟩:=k;refine⟨kk,?_⟩;rcases k with k | ⟨te,es,elems,fz,h1,h2,h3⟩
  ·obtain⟨o',h4,h5⟩:=E.obj _ _ k (by simp);exact .inl (by rw[h4,AObj.succ_dead h5])
  obtain⟨o',h4,h5⟩:=E.obj _ _ h1 (by simp);cases o' with
  | arr q Y elems' J=>
   simp only[AObj.succ] at h5;obtain⟨rfl,h6,I⟩:=h5;refine .inr ⟨q,es,elems',J,h4,le_trans h2 h6,fun e=>?_⟩;have Z:sz=elems.length:=by omega
   obtain⟨y,O⟩:=h3 Z;have hm:=I (by omega);refine⟨y,?_⟩;rcases O with⟨g1,g2,g3⟩ | ⟨b,base,cap,g1,g2⟩
   ·refine .inl ⟨by rw[hm,g1],?_,g3⟩;subst g2;simp only[length_nil] at Z h6;exact Bb (by omega)
   ·exact .inr ⟨b,base,cap,by rw[hm,g1],g2⟩
  | dead=>exact .inl h4
  | _=>simp only[AObj.succ] at h5
 | .tl id off len sz,v,k=>by
  simp only[b9] at k ⊢;obtain⟨kk,k⟩:=k;refine⟨kk,?_⟩;rcases k with k | ⟨te,es,elems,fz,h1,h2,h3⟩
  ·obtain⟨o',h4,h5⟩:=E.obj _ _ k (by simp);exact .inl (by rw[h4,AObj.succ_dead h5])
  obtain⟨o',h4,h5⟩:=E.obj _ _ h1 (by simp);cases o' with
  | arr q Y elems' J=>
   simp only[AObj.succ] at h5;obtain⟨rfl,h6,I⟩:=h5;refine .inr ⟨q,es,elems',J,h4,le_trans h2 h6,fun e=>?_⟩;obtain⟨y,b,base,cap,g1,g2⟩:=h3 (by omega);exact⟨y,b,base,cap,by rw[I (by omega),g1],g2⟩
  | dead=>exact .inl h4
  | _=>simp only[AObj.succ] at h5
 | .vp id off,v,k=>by
  simp only[b9] at k ⊢;obtain⟨t,cells,b,c,h1,h2,h3⟩:=k;obtain⟨o',h4,h5⟩:=E.obj _ _ h1 (by simp);cases o' with
  | var t' cells'=>simp only[AObj.succ] at h5;exact⟨t',cells',b,c,h4,by rw[h5,h2],h3⟩
  | _=>simp only[AObj.succ] at h5
 | .ep id i fo sz,v,k=>by
  simp only[b9] at k ⊢;obtain⟨kk,k⟩:=k;refine⟨kk,?_⟩;rcases k with k | ⟨te,es,elems,fz,h1,h2,h3⟩
  ·obtain⟨o',h4,h5⟩:=E.obj _ _ k (by simp);exact .inl (by rw[h4,AObj.succ_dead h5])
  obtain⟨o',h4,h5⟩:=E.obj _ _ h1 (by simp);cases o' with
  | arr q Y elems' J=>
   simp only[AObj.succ] at h5;obtain⟨rfl,h6,I⟩:=h5;refine .inr ⟨q,es,elems',J,h4,le_trans h2 h6,fun e=>?_⟩;obtain⟨y,b,base,cap,g1,g2⟩:=h3 (by omega);exact⟨y,b,base,cap,by rw[I (by omega),g1],g2⟩
  | dead=>exact .inl h4
  | _=>simp only[AObj.succ] at h5
 | .mr id,v,k=>by
  simp only[b9] at k ⊢;obtain⟨agg,ents,b,c,h1,h2,h3⟩:=k;obtain⟨o',h4,h5⟩:=E.obj _ _ h1 (by simp);cases o' with
  | map aa ents'=>simp only[AObj.succ] at h5;exact⟨aa,ents',b,c,h4,by rw[h5,h2],h3⟩
  | _=>simp only[AObj.succ] at h5
 | .clo f caps,v,k=>by
  simp only[b9] at k ⊢;obtain⟨vs,h1,h2⟩:=k;exact⟨vs,h1,b6.evolve0 E caps vs h2⟩
 | .mth f recv,v,k=>by
  simp only[b9] at k ⊢;obtain⟨u,h1,h2⟩:=k;exact⟨u,h1,b9.evolve0 E recv u h2⟩
 | .rp id i fo sz,v,k=>by
  simp only[b9] at k ⊢;obtain⟨kk,k⟩:=k;refine⟨kk,?_⟩;rcases k with k | ⟨te,es,elems,h1,h2,h3⟩
  ·obtain⟨o',h4,h5⟩:=E.obj _ _ k (by simp);exact .inl (by rw[h4,AObj.succ_dead h5])
  obtain⟨o',h4,h5⟩:=E.obj _ _ h1 (by simp);cases o' with
  | rarr q Y elems'=>
   simp only[AObj.succ] at h5;obtain⟨rfl,h6,I⟩:=h5;refine .inr ⟨q,es,elems',h4,le_trans h2 h6,fun e=>?_⟩;obtain⟨y,b,base,cap,g1,g2⟩:=h3 (by omega);exact⟨y,b,base,cap,by rw[I (by omega),g1],g2⟩
  | dead=>exact .inl h4
  | _=>simp only[AObj.succ] at h5
 | .yl id,v,k=>by
  simp only[b9] at k ⊢;obtain⟨st,j,i,e,b,c,h1,h2,h3⟩:=k;obtain⟨o',h4,h5⟩:=E.obj _ _ h1 (by simp);cases o' with
  | lp st' j' i' e'=>simp only[AObj.succ] at h5;exact⟨st',j',i',e',b,c,h4,by rw[h5,h2],h3⟩
  | _=>simp only[AObj.succ] at h5
 | .ra id off len sz,v,k=>by
  simp only[b9] at k ⊢;obtain⟨kk,k⟩:=k;refine⟨kk,?_⟩;rcases k with k | ⟨te,es,elems,h1,h2,h3⟩
  ·obtain⟨o',h4,h5⟩:=E.obj _ _ k (by simp);exact .inl (by rw[h4,AObj.succ_dead h5])
  obtain⟨o',h4,h5⟩:=E.obj _ _ h1 (by simp);cases o' with
  | rarr q Y elems'=>
   simp only[AObj.succ] at h5;obtain⟨rfl,h6,I⟩:=h5;refine .inr ⟨q,es,elems',h4,le_trans h2 h6,fun e=>?_⟩;have Z:sz=elems.length:=by omega
   obtain⟨y,O⟩:=h3 Z;have hm:=I (by omega);refine⟨y,?_⟩;rcases O with⟨g1,g2,g3⟩ | ⟨b,base,cap,g1,g2⟩
   ·refine .inl ⟨by rw[hm,g1],?_,g3⟩;subst g2;simp only[length_nil] at Z h6;exact Bb (by omega)
   ·exact .inr ⟨b,base,cap,by rw[hm,g1],g2⟩
  | dead=>exact .inl h4
  | _=>simp only[AObj.succ] at h5
 | .ras n es l,v,k=>by
  simp only[b9] at k ⊢;obtain⟨a,cap,h1,h2,h3,h4,h5,h6,b,o,I,vs,y,O⟩:=k;exact⟨a,cap,h1,h2,h3,h4,h5,h6,b,o,I,vs,b6.evolve0 E l vs y,O.mono E.le⟩
 | .pas l,v,k=>by
  simp only[b9] at k ⊢;obtain⟨b,o,h1,vs,y,O⟩:=k;exact⟨b,o,h1,vs,b6.evolve0 E l vs y,O.mono E.le⟩
theorem b6.evolve0 (E:Evo0 S μ H S' μ' H'):∀(r:List R) (v:List Value),b6 S μ H r v→b6 S' μ' H' r v
 | [],_,k=>by simpa [b6] using k
 | r::rs,vs,k=>by
  simp only[b6] at k ⊢;obtain⟨v,vs',h1,h2,h3⟩:=k;exact⟨v,vs',h1,b9.evolve0 E r v h2,b6.evolve0 E rs vs' h3⟩
end
mutual
theorem aY.evolve0 (E:Evo0 S μ H S' μ' H'):∀(r:V) (v:Value),aY S μ H r v→aY S' μ' H' r v
 | .one r,v,k=>by simp only[aY] at k ⊢;exact b9.evolve0 E r v k
 | .pa l,v,k=>by
  simp only[aY] at k ⊢;obtain⟨vs,h1,h2⟩:=k;exact⟨vs,h1,dH.mono E.le l vs h2⟩
 | .ma l,v,k=>by
  simp only[aY] at k ⊢;obtain⟨vs,h1,h2⟩:=k;exact⟨vs,h1,b6.evolve0 E l vs h2⟩
 | .tup l,v,k=>by
  simp only[aY] at k ⊢;obtain⟨vs,h1,h2⟩:=k;exact⟨vs,h1,c6.evolve0 E l vs h2⟩
theorem c6.evolve0 (E:Evo0 S μ H S' μ' H'):∀(r:List V) (v:List Value),c6 S μ H r v→c6 S' μ' H' r v
 | [],_,k=>by simpa [c6] using k
 | r::rs,vs,k=>by
  simp only[c6] at k ⊢;obtain⟨v,vs',h1,h2,h3⟩:=k;exact⟨v,vs',h1,aY.evolve0 E r v h2,c6.evolve0 E rs vs' h3⟩
end
theorem b6.evolve (E:Evolve S μ H S' μ' H') (r:List R) (v:List Value) (k:b6 S μ H r v):b6 S' μ' H' r v:=b6.evolve0 E.weak r v k
theorem aY.evolve (E:Evolve S μ H S' μ' H') (r:V) (v:Value) (k:aY S μ H r v):aY S' μ' H' r v:=aY.evolve0 E.weak r v k
end
structure Ctx where
 w0:World
 S0:Sto
 F:Nat→Prop
 μ0:Mu
 h0:dD
structure FrameW (w0:World) (F:Nat→Prop) (w:World):Prop where
 os:w.os=w0.os
 tape:w.tape=w0.tape
 output:w.output=w0.output
 size:w0.heap.size≤w.heap.size
 block:∀k,k<w0.heap.size→¬F k→w.heap[k]?=w0.heap[k]?
 tab:a56 w0 F
def Holds (S:Sto) (w:World):Prop:=
 (∀b o v,S.cell b o=some v→∃vs t fr,w.heap[b]?=some (.cells vs t fr)∧vs[o]?=some v)∧(∀b m,S.mapo b=some m→m.holds w.heap[b]?)
structure Inv (G:Ctx) (S:Sto) (μ:Mu) (H:dD) (w:World):Prop where
 holds:Holds S w
 obj:∀id o,H id=some o→nI S μ H w id o
 inj:∀i j o o' b c c',H i=some o→H j=some o'→μ i=some (b,c)→μ j=some (b,c')→i=j
 own:∀i o b c,H i=some o→μ i=some (b,c)→G.w0.heap.size≤b∨G.F b
 frame:FrameW G.w0 G.F w
 sle:G.S0.le S
 sto:∀b,b<G.w0.heap.size→¬G.F b→(∀o,S.cell b o=G.S0.cell b o)∧S.mapo b=G.S0.mapo b
 evo:Evolve G.S0 G.μ0 G.h0 S μ H
 fre:S.free
theorem FrameW.refl (w:World) (F:Nat→Prop) (h:a56 w F):FrameW w F w:=⟨rfl,rfl,rfl,le_refl _,fun _ _ _=>rfl,h⟩
theorem FrameW.tabAt {w0 w:World}{F:Nat→Prop}(h:FrameW w0 F w):aWl w:=fun g q=>by
 obtain⟨h1,t,fr,h2⟩:=h.tab.1 g q;exact⟨B8 h1 h.size,t,fr,by rw[h.block g h1 (h.tab.2 g q)];exact h2⟩
theorem nI.lt {S:Sto}{μ:Mu}{H:dD}{w:World}{id:Nat}{o:AObj}(h:nI S μ H w id o) {b:Nat}{c:Nat×Nat}(hm:μ id=some (b,c)):b<w.heap.size:=by
 have hl:∀{x:Obj},w.heap[b]?=some x→b<w.heap.size:=fun e=>(Cu.1 e).1
 cases o with
 | var t cells=>
  obtain⟨b',vs,h1,h2,_⟩:=h;rw[hm] at h1;cases h1;exact hl h2
 | arr te es elems fz=>
  obtain⟨_,⟨h1,_⟩ | ⟨b',base,cap,vs,h1,h2,_⟩⟩:=h
  ·rw[hm] at h1;cases h1
  ·rw[hm] at h1;cases h1;exact hl h2
 | map agg ents=>
  obtain⟨b',es,clk,h1,h2,_⟩:=h;rw[hm] at h1;cases h1;exact hl h2
 | dead=>rw[show μ id=none from h] at hm;cases hm
 | lp st j i e=>
  obtain⟨b',r,fn,tmps,h1,h2,_⟩:=h;rw[hm] at h1;cases h1;exact hl h2
 | dfr=>
  obtain⟨b',h1,h2,_⟩:=h;rw[hm] at h1;cases h1;exact hl h2
 | rarr te es elems=>
  obtain⟨_,⟨h1,_⟩ | ⟨b',base,cap,vs,h1,h2,_⟩⟩:=h
  ·rw[hm] at h1;cases h1
  ·rw[hm] at h1;cases h1;exact hl h2
 | tok r k=>rw[h.1] at hm;cases hm
theorem nI.evolve0 {S S':Sto}{μ μ':Mu}{H H':dD}{w w':World}{id:Nat}{o:AObj}(E:Evo0 S μ H S' μ' H') (h:nI S μ H w id o) (hm:μ' id=μ id)
  (hw:∀b c,μ id=some (b,c)→w'.heap[b]?=w.heap[b]?∧(∀o,S'.cell b o=S.cell b o)∧S'.mapo b=S.mapo b):nI S' μ' H' w' id o:=by
 cases o with
 | var t cells=>
  obtain⟨b,vs,h1,h2,h3,h4⟩:=h;obtain⟨g1,g2,g3⟩:=hw _ _ h1;exact⟨b,vs,by rw[hm,h1],by rw[g1,h2],b6.evolve0 E _ _ h3,fun o=>by rw[g2,h4.1],by rw[g3,h4.2]⟩
 | arr te es elems fz=>
  obtain⟨h0,⟨h1,h2⟩ | ⟨b,base,cap,vs,h1,h2,h3,h4,h5,h6,q,I,J⟩⟩:=h
  ·exact⟨h0,.inl ⟨by rw[hm,h1],h2⟩⟩
  ·obtain⟨g1,g2,g3⟩:=hw _ _ h1;exact⟨h0,.inr ⟨b,base,cap,vs,by rw[hm,h1],by rw[g1,h2],h3,h4,⟨h5.1,by rw[g3,h5.2]⟩,dH.mono E.le _ _ h6,fun e o y=>by rw[g2,q e o y],fun o e=>by rw[g2,I o e],fun e=>(J e).mono E.le⟩⟩
 | map agg ents=>
  obtain⟨b,es,clk,h1,h2,h3,h4⟩:=h;obtain⟨g1,g2,g3⟩:=hw _ _ h1;exact⟨b,es,clk,by rw[hm,h1],by rw[g1,h2],aB9.mono E.le h3,h4.of_eq g3⟩
 | dead=>exact hm.trans h
 | lp st j i e=>
  obtain⟨b,r,fn,tmps,h1,h2,h3,h4,h5,h6⟩:=h;obtain⟨g1,g2,g3⟩:=hw _ _ h1;exact⟨b,r,fn,tmps,by rw[hm,h1],by rw[g1,h2],h3,fun t v ht=>aY.evolve0 E _ _ (h4 t v ht),fun o=>by rw[g2,h5],by rw[g3,h6]⟩
 | dfr=>
  obtain⟨b,h1,h2,h3,h4⟩:=h;obtain⟨g1,g2,g3⟩:=hw _ _ h1;exact⟨b,by rw[hm,h1],by rw[g1,h2],fun o=>by rw[g2,h3],by rw[g3,h4]⟩
 | rarr te es elems=>
  obtain⟨h0,⟨h1,h2⟩ | ⟨b,base,cap,vs,h1,h2,h3,h4,h5,h6,q⟩⟩:=h
  ·exact⟨h0,.inl ⟨by rw[hm,h1],h2⟩⟩
  ·obtain⟨g1,g2,g3⟩:=hw _ _ h1;exact⟨h0,.inr ⟨b,base,cap,vs,by rw[hm,h1],by rw[g1,h2],h3,h4,⟨h5.1,by rw[g3,h5.2]⟩,b6.evolve0 E _ _ h6,fun o y=>by rw[g2,q o y]⟩⟩
 | tok r k=>
  obtain⟨h1,b,h2,m,h3,h4⟩:=h;obtain⟨O,h5,h6⟩:=E.le.2 b m h3;exact⟨by rw[hm,h1],b,b9.evolve0 E _ _ h2,O,h5,MK.le_has h6 h4⟩
theorem nI.evolve {S S':Sto}{μ μ':Mu}{H H':dD}{w w':World}{id:Nat}{o:AObj}(E:Evolve S μ H S' μ' H') (h:nI S μ H w id o) (hm:μ' id=μ id)
  (hw:∀b c,μ id=some (b,c)→w'.heap[b]?=w.heap[b]?∧(∀o,S'.cell b o=S.cell b o)∧S'.mapo b=S.mapo b):nI S' μ' H' w' id o:=nI.evolve0 E.weak h hm hw
def upd {α:Type}(f:Nat→Option α) (k:Nat) (x:Option α):Nat→Option α:=fun i=>if Nat.beq i k then x else f i
theorem aI {α:Type}(f:Nat→Option α) (k:Nat) (x:Option α):upd f k x k=x:=by simp[upd]
theorem aV {α:Type}(f:Nat→Option α) (k:Nat) (x:Option α) {i:Nat}(h:i≠k):upd f k x i=f i:=by
 have:Nat.beq i k=false:=by
  cases hb:Nat.beq i k with
  | false=>rfl
  | true=>exact absurd (Aa hb) h
 simp[upd,this]
structure WChg (w w':World) (b:Nat) (o:Obj):Prop where
 os:w'.os=w.os
 tape:w'.tape=w.tape
 output:w'.output=w.output
 size:w.heap.size≤w'.heap.size
 new:w'.heap[b]?=some o
 old:∀k,k<w.heap.size→k≠b→w'.heap[k]?=w.heap[k]?
theorem WChg.alloc (w:World) (o:Obj):WChg w (w.alloc o) w.heap.size o:=
 ⟨rfl,rfl,rfl,by simp,B4 w o,fun k hk _=>RowKit.Below.heap_alloc w o k hk⟩
theorem WChg.alloc_drew (w:World) (o:Obj):WChg w (w.drew.alloc o) w.heap.size o:=
 ⟨rfl,rfl,rfl,by simp,B4 w.drew o,fun k hk _=>RowKit.Below.heap_alloc w.drew o k hk⟩
theorem WChg.setRow (w:World) (g:Nat) (cur cs:Array Value) (t:TypeId) (fr:Nat×Nat) (q:w.heap[g]?=some (.cells cur t fr)):WChg w (w.setRow g cs) g (.cells cs t fr):=
 ⟨rfl,rfl,rfl,by simp,setRow_heap w g cur cs t fr q,fun k _ hk=>setRow_other w g k cs hk⟩
theorem dE {w:World}{b:Nat}{x:Obj}(e:w.heap[b]?=some x):b<w.heap.size:=(Cu.1 e).1
theorem Inv.chg {G:Ctx}{S:Sto}{μ:Mu}{H:dD}{w w':World}{id b:Nat}{cap:Nat×Nat}{bo:Obj}{ao:AObj}(h:Inv G S μ H w) (hw:WChg w w' b bo)
  (hb:w.heap.size≤b∨(∃o c,H id=some o∧μ id=some (b,c)))
  (hE:Evolve S μ H S (upd μ id (some (b,cap))) (upd H id (some ao)))
  (hO:nI S (upd μ id (some (b,cap))) (upd H id (some ao)) w' id ao)
  (hS:∀o v,S.cell b o=some v→∃vs t fr,bo=.cells vs t fr∧vs[o]?=some v) (hSm:∀m,S.mapo b=some m→w.heap.size≤b):
  Inv G S (upd μ id (some (b,cap))) (upd H id (some ao)) w':=by
 have Y:∀j o,H j=some o→j≠id→∀b' c',μ j=some (b',c')→b'≠b:=by
  intro j o hj hne b' c' hm e;subst e;rcases hb with hb | ⟨o',c,h1,h2⟩
  ·have:=(h.obj j o hj).lt hm;omega
  ·exact hne (h.inj j id o o' b' c' c hj h1 hm h2)
 refine⟨⟨?_,?_⟩,?_,?_,?_,?_,h.sle,h.sto,h.evo.trans hE,h.fre⟩
 ·intro b' o v e;obtain⟨vs,t,fr,h1,h2⟩:=h.holds.1 b' o v e;by_cases J:b'=b
  ·subst J;obtain⟨vs',t',fr',h3,h4⟩:=hS o v e;exact⟨vs',t',fr',by rw[hw.new,h3],h4⟩
  ·exact⟨vs,t,fr,by rw[hw.old b' (dE h1) J,h1],h2⟩
 ·intro b' m e;have h1:=h.holds.2 b' m e;obtain⟨_,h2⟩:=MK.holds_some h1;by_cases J:b'=b
  ·subst J;have:=hSm _ e;have:=dE h2;omega
  ·rw[hw.old b' (dE h2) J];exact h1
 ·intro j o hj;by_cases Z:j=id
  ·subst Z;rw[aI] at hj;cases hj;exact hO
  ·rw[aV _ _ _ Z] at hj;refine(h.obj j o hj).evolve hE (aV _ _ _ Z) fun b' c' hm=>⟨?_,fun _=>rfl,rfl⟩
   exact hw.old b' ((h.obj j o hj).lt hm) (Y j o hj Z b' c' hm)
 ·intro i j o o' b' c c' hi hj y I;by_cases q:i=id<;>by_cases O:j=id
  ·rw[q,O]
  ·subst q;rw[aI] at y;cases y;rw[aV _ _ _ O] at hj I;exact absurd rfl (Y j o' hj O _ _ I)
  ·subst O;rw[aI] at I;cases I;rw[aV _ _ _ q] at hi y;exact absurd rfl (Y i o hi q _ _ y)
  ·rw[aV _ _ _ q] at hi y;rw[aV _ _ _ O] at hj I;exact h.inj i j o o' b' c c' hi hj y I
 ·intro i o b' c hi hm;by_cases q:i=id
  ·subst q;rw[aI] at hm;cases hm;rcases hb with hb | ⟨o',c',h1,h2⟩
   ·exact .inl (le_trans h.frame.size hb)
   ·exact h.own _ _ _ _ h1 h2
  ·rw[aV _ _ _ q] at hi hm;exact h.own _ _ _ _ hi hm
 ·refine⟨hw.os.trans h.frame.os,hw.tape.trans h.frame.tape,hw.output.trans h.frame.output,le_trans h.frame.size hw.size,fun k hk hF=>?_,h.frame.tab⟩;rw[hw.old k (B8 hk h.frame.size) ?_,h.frame.block k hk hF];rintro rfl;rcases hb with hb | ⟨o',c',h1,h2⟩
  ·have:=h.frame.size;omega
  ·rcases h.own _ _ _ _ h1 h2 with h3 | h3
   ·omega
   ·exact hF h3
theorem Inv.same {G:Ctx}{S:Sto}{μ:Mu}{H:dD}{w w':World}(h:Inv G S μ H w) (hh:w'.heap=w.heap) (q:w'.os=w.os) (ht:w'.tape=w.tape) (hu:w'.output=w.output):Inv G S μ H w':=by
 obtain⟨h1,h2,h3,h4,h5,h6,y,I,J⟩:=h;refine⟨⟨fun b o v e=>by rw[hh];exact h1.1 b o v e,fun b m e=>by rw[hh];exact h1.2 b m e⟩,fun id o e=>(h2 id o e).evolve (Evolve.refl _ _ _) rfl fun b c hm=>⟨by rw[hh],fun _=>rfl,rfl⟩,h3,h4,?_,h6,y,I,J⟩;exact⟨q.trans h5.os,ht.trans h5.tape,hu.trans h5.output,by rw[hh];exact h5.size,fun k hk O=>by rw[hh];exact h5.block k hk O,h5.tab⟩
theorem Holds.cell {S:Sto}{w:World}(h:Holds S w) {b o:Nat}{v:Value}(e:S.cell b o=some v):w.cell? ⟨b,o,none⟩=some v:=by
 obtain⟨vs,t,fr,h1,h2⟩:=h.1 b o v e;simp[World.cell?,h1,h2]
structure St where
 e:Nat→Option V
 h:dD
 d:List Nat
def Marks (lo:Nat) (μ:Mu) (H:dD):List Nat→List Deferred→Prop
 | [],ds=>ds=[]
 | id::ids,ds=>∃b c ds',ds={ target:=.collected b,args:= #[] }::ds'∧μ id=some (b,c)∧H id=some .dfr∧lo≤b∧id∉ids∧Marks lo μ H ids ds'
theorem Marks.ren {lo:Nat}{μ μ':Mu}{H H':dD}(σ:Nat→Nat):∀{ids:List Nat}{q:List Deferred},Marks lo μ H (ids.map σ) q→(∀id∈ids,H (σ id)=some .dfr→μ' id=μ (σ id)∧H' id=some .dfr)→Marks lo μ' H' ids q
 | [],_,h,_=>h
 | id::ids,_,⟨b,c,y,h1,h2,h3,h5,h6,h4⟩,k=>by
  obtain⟨k1,k2⟩:=k id (by simp) h3;exact⟨b,c,y,h1,by rw[k1,h2],k2,h5,fun h=>h6 (Ah.2 ⟨_,h,rfl⟩),Marks.ren σ h4 fun i hi=>k i (by simp[hi])⟩
theorem Marks.go {lo:Nat}{μ μ':Mu}{H H':dD}{ids:List Nat}{q:List Deferred}(h:Marks lo μ H ids q) (k:∀id∈ids,H id=some .dfr→μ' id=μ id∧H' id=some .dfr):Marks lo μ' H' ids q:=
 Marks.ren (fun i=>i) (by simpa using h) fun id hid=>k id hid
theorem Marks.evolve {lo:Nat}{S S':Sto}{μ μ':Mu}{H H':dD}(E:Evolve S μ H S' μ' H') {ids:List Nat}{q:List Deferred}(h:Marks lo μ H ids q):Marks lo μ' H' ids q:=
 h.go fun id _ hd=>by
  obtain⟨o',h1,h2⟩:=E.obj id _ hd;cases o' with
  | dfr=>exact⟨h2,h1⟩
  | _=>simp only[AObj.succ] at h2
structure Sim (G:Ctx) (n:Nat) (S:Sto) (μ:Mu) (st:St) (a:Act) (w:World):Prop where
 inv:Inv G S μ st.h w
 size:a.tmps.size=n
 defers:Marks G.w0.heap.size μ st.h st.d a.defers
 env:∀t v,st.e t=some v→aY S μ st.h v (a.tmps.getD t undef)
theorem aKk (ts:Array Value) (d t:Nat) (v:Value) (hd:d<ts.size):(ts.setIfInBounds d v).getD t undef=if t=d then v else ts.getD t undef:=by
 simp only[A8,By];by_cases h:d=t
 ·subst h;simp[hd]
 ·have:¬t=d:=fun e=>h e.symm
  simp[h,this]
theorem Sim.put {G:Ctx}{n:Nat}{S S':Sto}{μ μ':Mu}{st:St}{H':dD}{a:Act}{w w':World}(h:Sim G n S μ st a w) (hi:Inv G S' μ' H' w') (q:Evolve S μ st.h S' μ' H') {d:Nat}(hd:d<n) {v:Value}{x:Option V}
  (I:∀y,x=some y→aY S' μ' H' y v):Sim G n S' μ' ⟨upd st.e d x,H',st.d⟩ (a.put (some d) v) w':=by
 refine⟨hi,by simp[Act.put,h.size],h.defers.evolve q,fun t y e=>?_⟩;show aY S' μ' H' y ((a.tmps.setIfInBounds d v).getD t undef);rw[aKk _ _ _ _ (by rw[h.size];exact hd)];by_cases ht:t=d
 ·subst ht;rw[κ rfl];exact I y (by simpa [aI] using e)
 ·rw[θ ht];have e':st.e t=some y:=by simpa [aV _ _ _ ht] using e
  exact aY.evolve q y _ (h.env t y e')
theorem Sim.put_none {G:Ctx}{n:Nat}{S S':Sto}{μ μ':Mu}{st:St}{H':dD}{a:Act}{w w':World}(h:Sim G n S μ st a w) (hi:Inv G S' μ' H' w') (q:Evolve S μ st.h S' μ' H') (v:Value):
  Sim G n S' μ' ⟨st.e,H',st.d⟩ (a.put none v) w':=
 ⟨hi,h.size,h.defers.evolve q,fun t y e=>aY.evolve q y _ (h.env t y e)⟩
structure Rd where
 e:List Nat
 h:List Nat
structure Eff where
 d:Option (Nat×Option V)
 h:List (Nat×Option AObj)
def look {α:Type}:List (Nat×α)→Nat→Option α
 | [],_=>none
 | (k,x)::l,i=>if Nat.beq i k then some x else look l i
def updL (f:dD) (l:List (Nat×Option AObj)):dD:=fun i=>match look l i with | some o=>o | none=>f i
theorem aIr (f:dD):updL f []=f:=rfl
theorem dG (f:dD) (id:Nat) (x:Option AObj):updL f [(id,x)]=upd f id x:=by
 funext i;simp only[look,upd,updL];cases Nat.beq i id<;>rfl
def Eff.apply (f:Eff) (st:St):St:=
 {
   e:=match f.d with | some (t,v)=>upd st.e t v | none=>st.e
   h:=updL st.h f.h
   d:=st.d }
def Eff.we (f:Eff):List Nat:=(f.d.map (·.1)).toList
def Eff.wh (f:Eff):List Nat:=f.h.map (·.1)
def rR (rd:Rd) (st st':St):Prop:=(∀t∈rd.e,st'.e t=st.e t)∧(∀i∈rd.h,st'.h i=st.h i)
theorem rR.refl (rd:Rd) (st:St):rR rd st st:=⟨fun _ _=>rfl,fun _ _=>rfl⟩
def Wd (ro:Option Nat):Fence:={ fn:=fun _=>True,depth:=none,alive:=false,round:=ro }
theorem Wd.fenced (P:Program) (ro:Option Nat) (m:Machine):m.fenced P (Wd ro):=fenced_wide P m
theorem Wd.room (ro:Option Nat) (k:Nat):(Wd ro).room k:=fun _ h=>by simp[Wd] at h
theorem Wd.steps {ro:Option Nat}{P:Program}{m q:Machine}:StepsIn (Machine.fenced P (Wd ro)) P m q↔Steps P m q:=
 ⟨StepsIn.steps,fun h=>(StepsIn.of_steps h).mono fun m _=>Wd.fenced P ro m⟩
theorem Wd.comes {ro:Option Nat}{P:Program}{m q:Machine}{e:Ending}:ComesIn (Machine.fenced P (Wd ro)) P m q e↔Comes P m q e:=by
 cases e with
 | returned v=>exact Wd.steps
 | panicked chain=>exact Wd.steps
 | outgrown=>exact Iff.rfl
theorem Wd.calls {ro:Option Nat}{n:Nat}{P:Program}{f:FuncId}{args:Array Value}{w:World}{R:Ending→World→Prop}:CallsIn (Wd ro) n P f args w R↔Calls P f args w R:=
  ⟨fun h cs=>let ⟨e,w',fr,r,s,x⟩:=h.2 cs (Wd.room _ _);⟨e,w',fr,r,Wd.comes.1 s,x⟩,
   fun h=>⟨trivial,fun cs _=>let ⟨e,w',fr,r,s,x⟩:=h cs;⟨e,w',fr,r,Wd.comes.2 s,x⟩⟩⟩
theorem lA {P:Program}{o:Oper}{ro:Option Nat}{ρ:Operand→Value}{w w':World}{r:Next}(h:(execOp ρ o).run P w=.ok r w') (y:∀d,r≠ .defer d):(o.semAt ro ρ).run P w=.ok r w':=by
 rw[Oper.semAt_eq]
 ·exact h
 ·intro c hc;rw[execOp,hc] at h;simp only[Ad] at h;cases q:(resolve ρ c o.type).run P w with
  | ok d I=>
   rw[q] at h;simp only[Result.andThen,Af] at h;cases h;exact y _ rfl
  | halt x I=>rw[q] at h;simp[Result.andThen] at h
section
variable {P:Program}{o:Oper}{ro:Option Nat}{a:Act}{w w':World}{K:Act→World→Prop}{Q:Exit→Act→World→Prop}
theorem j7 {v:Value}(q:(execOp a.eval o).run P w=.ok (.value v) w') (h:K (a.put o.dst v) w'):o.wpIn (Wd ro) 0 P a w K Q:=by
 refine⟨fun _ _=>trivial,?_⟩;rw[lA q (by simp),Oper.uponIn_value];exact h
theorem rS (q:(execOp a.eval o).run P w=.ok .skip w') (h:K (a.put o.dst undef) w'):o.wpIn (Wd ro) 0 P a w K Q:=by
 refine⟨fun _ _=>trivial,?_⟩;rw[lA q (by simp),Oper.uponIn_skip];exact h
theorem zD {f:FuncId}{args:Array Value}(y:(execOp a.eval o).run P w=.ok (.enter f args) w')
  (h:Calls P f args w' fun
   | .returned v,q=>K (a.put o.dst v) q
   | .panicked chain,q=>Q (.panic chain) a q
   | .outgrown,_=>LetsOut Q):o.wpIn (Wd ro) 0 P a w K Q:=by
 refine⟨fun _ _=>trivial,?_⟩;rw[lA y (by simp),Oper.uponIn_enter];exact⟨fun h=>by simp[Wd] at h,Wd.calls.2 h⟩
end
def Step (P:Program) (n:Nat) (o:Oper) (st:St) (rd:Rd) (f:Eff):Prop:=
 ∀st',rR rd st st'→∀G S μ a w (K:Act→World→Prop) (Q:Exit→Act→World→Prop),Sim G n S μ st' a w→
  (∀S' μ' a' w',Sim G n S' μ' (f.apply st') a' w'→K a' w')→∀ro,o.wpIn (Wd ro) 0 P a w K Q
def GStep (P:Program) (n:Nat) (ops:Array Oper) (i:Nat) (st:St) (rd:Rd) (f:Eff):Prop:=
 ∀st',rR rd st st'→∀G S μ a w (K:Act→World→Prop) (Q:Exit→Act→World→Prop),Sim G n S μ st' a w→
  (∀S' μ' a' w',Sim G n S' μ' (f.apply st') a' w'→K a' w')→∀ro,wpOpIn (Wd ro) 0 P ops Q i K a w
theorem GStep.plain {P:Program}{n:Nat}{ops:Array Oper}{i:Nat}{o:Oper}{st:St}{rd:Rd}{f:Eff}(q:ops[i]?=some o) (y:o.guard=none) (h:Step P n o st rd f):GStep P n ops i st rd f:=by
 intro st' ha G S μ a w K Q hs hk ro;unfold wpOpIn;simp only[q];rw[κ (by simp[Region.wanted,y])];exact h st' ha G S μ a w K Q hs hk ro
theorem getElem?_of_getD {ts:Array Value}{t:Nat}{b:Bool}(h:ts.getD t undef=.bool b):ts[t]?=some (.bool b):=by
 rw[A8] at h;cases q:ts[t]? with
 | none=>simp[q,undef] at h
 | some v=>simp[q] at h;rw[h]
theorem GStep.yes {P:Program}{n:Nat}{ops:Array Oper}{i j t:Nat}{want b:Bool}{o:Oper}{st:St}{rd:Rd}{f:Eff}(J:ops[i]?=some o) (O:o.guard=some (j,want)) (hj:(ops[j]?).bind (·.dst)=some t)
  (hb:st.e t=some (.one (.c (.bool b)))) (hw:b=want) (h:Step P n o st rd f):GStep P n ops i st ⟨t::rd.e,rd.h⟩ f:=by
 intro st' ha G S μ a w K Q hs hk ro;have q:st'.e t=some (.one (.c (.bool b))):=by rw[ha.1 t (by simp),hb]
 have y:=hs.env t _ q;simp only[aY,b9,Rep] at y;have I:=getElem?_of_getD y;unfold wpOpIn;simp only[J];rw[κ (by simp[Region.wanted,O,yielded,hj,I,hw])];exact h st' ⟨fun t ht=>ha.1 t (by simp[ht]),ha.2⟩ G S μ a w K Q hs hk ro
theorem GStep.no {P:Program}{n:Nat}{ops:Array Oper}{i j t d:Nat}{want b:Bool}{o:Oper}{st:St}(ho:ops[i]?=some o) (hg:o.guard=some (j,want)) (hd:o.dst=some d) (q:d<n) (hj:(ops[j]?).bind (·.dst)=some t)
  {I:Bool} (hb:st.e t=some (.one (.c (.bool b)))) (J:b=I) (hn:I= !want):GStep P n ops i st ⟨[t],[]⟩ ⟨some (d,some (.tup [])),[]⟩:=by
 have hw:b= !want:=J.trans hn;intro st' ha G S μ a w K Q hs hk ro;have O:st'.e t=some (.one (.c (.bool b))):=by rw[ha.1 t (by simp),hb]
 have Y:=hs.env t _ O;simp only[aY,b9,Rep] at Y;have Z:=getElem?_of_getD Y;unfold wpOpIn;simp only[ho];rw[θ (by simp[Region.wanted,hg,yielded,hj,Z,hw])];rw[hd];refine⟨fun _ _=>trivial,hk S μ _ _ ?_⟩;exact hs.put hs.inv (Evolve.refl _ _ _) q (fun y hy=>by cases hy;simp only[aY];exact⟨[],rfl,by simp[c6]⟩)
theorem GStep.un {P:Program}{n:Nat}{ops:Array Oper}{i j t d:Nat}{want:Bool}{o:Oper}{st:St}(Z:ops[i]?=some o) (hg:o.guard=some (j,want)) (hd:o.dst=some d) (J:d<n) (hj:(ops[j]?).bind (·.dst)=some t)
  (hb:st.e t=some (.tup [])):GStep P n ops i st ⟨[t],[]⟩ ⟨some (d,some (.tup [])),[]⟩:=by
 intro st' ha G S μ a w K Q hs hk ro;have O:st'.e t=some (.tup []):=by rw[ha.1 t (by simp),hb]
 have q:=hs.env t _ O;simp only[aY] at q;obtain⟨vs,q,I⟩:=q;simp only[c6] at I;subst I;have Y:yielded ops a.tmps j=none:=by
  unfold yielded;rw[hj];simp only[Cr];rw[A8] at q;cases hq:a.tmps[t]? with
  | none=>rfl
  | some v=>rw[hq] at q;simp at q;subst q;rfl
 unfold wpOpIn;simp only[Z];rw[θ (by simp[Region.wanted,hg,Y])];rw[hd];refine⟨fun _ _=>trivial,hk S μ _ _ ?_⟩;exact hs.put hs.inv (Evolve.refl _ _ _) J (fun y hy=>by cases hy;simp only[aY];exact⟨[],rfl,by simp[c6]⟩)
abbrev REs:=List (Rd×Eff)
def fP (L:Nat→Bool):Nat→REs→St→St
 | _,[],st=>st
 | k,x::xs,st=>fP L (k+1) xs (bif L k then x.2.apply st else st)
inductive Run (P:Program) (n:Nat) (ops:Array Oper):Nat→St→REs→St→Prop
 | nil {k st}:Run P n ops k st [] st
 | cons {k st rd f xs st'}:GStep P n ops k st rd f→Run P n ops (k+1) (f.apply st) xs st'→Run P n ops k st ((rd,f)::xs) st'
theorem Run.final {P:Program}{n:Nat}{ops:Array Oper}{k:Nat}{st st':St}{xs:REs}(h:Run P n ops k st xs st'):∀L:Nat→Bool,(∀j,k≤j→L j=true)→fP L k xs st=st':=by
 induction h with
 | nil=>intro L _;rfl
 | cons _ _ q=>
  intro L hL;simp only[fP,hL _ (le_refl _),Bv];exact q L fun j hj=>hL j (by omega)
theorem Run.at {P:Program}{n:Nat}{ops:Array Oper}{k:Nat}{st st':St}{xs:REs}(h:Run P n ops k st xs st'):∀(i:Nat) (x:Rd×Eff),xs[i]?=some x→
  GStep P n ops (k+i) (fP (fun j=>decide (j<k+i)) k xs st) x.1 x.2:=by
 induction h with
 | nil=>intro i x hx;simp at hx
 | @cons k st rd f xs st' O Y I=>
  intro i x hx;cases i with
  | zero=>
   simp at hx;subst hx;have hz:∀(q:REs) (m:Nat) (s:St),k<m→fP (fun j=>decide (j<k+0)) m q s=s:=by
    intro q
    induction q with
    | nil=>intro m s _;rfl
    | cons y q I=>
     intro m s hm;simp only[fP];have:decide (m<k+0)=false:=by simp;omega
     rw[this,B0];exact I (m+1) _ (by omega)
   simp only[fP];have:decide (k<k+0)=false:=by simp
   rw[this,B0];rw[hz xs (k+1) st (by omega)];exact O
  | succ i=>
   simp at hx;have:=I i x hx;simp only[fP];have J:decide (k<k+(i+1))=true:=by simp
   rw[J,Bv];rw[show k+(i+1)=k+1+i by omega];exact this
theorem aG9 (L:Nat→Bool):∀(xs:REs) (k:Nat) (st:St),(fP L k xs st).d=st.d
 | [],_,_=>rfl
 | x::xs,k,st=>by
  rw[fP,aG9 L xs];cases L k<;>rfl
theorem gZ (f:Eff) (st:St) {t:Nat}(h:t∉f.we):(f.apply st).e t=st.e t:=by
 unfold Eff.apply Eff.we at *;cases hd:f.d with
 | none=>rfl
 | some p=>
  obtain⟨k,v⟩:=p;simp only[hd] at h ⊢;exact aV _ _ _ (by simpa using h)
theorem uT {α:Type}:∀{l:List (Nat×α)}{i:Nat},i∉l.map (·.1)→look l i=none
 | [],_,_=>rfl
 | (k,x)::l,i,h=>by
  simp at h;have hb:Nat.beq i k=false:=by
   cases hb:Nat.beq i k with
   | false=>rfl
   | true=>exact absurd (Aa hb) h.1
  simp only[look,hb,Ba,B5];exact uT (by simpa using h.2)
theorem eJ {α:Type}:∀{l:List (Nat×α)}{i:Nat},i∈l.map (·.1)→∃x,look l i=some x
 | [],_,h=>by simp at h
 | (k,x)::l,i,h=>by
  by_cases hb:Nat.beq i k=true
  ·exact⟨x,by simp[look,hb]⟩
  ·have q:i≠k:=fun e=>hb (by subst e;simp)
   simp at hb;simp only[look];obtain⟨y,I⟩:=eJ (l:=l) (i:=i) (by simpa [q] using h);exact⟨y,by simp[hb,I]⟩
theorem gY (f:Eff) (st:St) {i:Nat}(h:i∉f.wh):(f.apply st).h i=st.h i:=by
 unfold Eff.apply Eff.wh at *;simp only[updL,uT h]
theorem rN (f:Eff) (st st':St) {t:Nat}(h:t∈f.we):(f.apply st).e t=(f.apply st').e t:=by
 unfold Eff.apply Eff.we at *;cases hd:f.d with
 | none=>simp[hd] at h
 | some p=>
  obtain⟨k,v⟩:=p;simp only[hd] at h ⊢;simp at h;subst h;simp[aI]
theorem rM (f:Eff) (st st':St) {i:Nat}(h:i∈f.wh):(f.apply st).h i=(f.apply st').h i:=by
 unfold Eff.apply Eff.wh at *;obtain⟨x,hx⟩:=eJ h;simp only[updL,hx]
theorem yC (t:Nat):∀(xs:REs) (k:Nat) (L L':Nat→Bool) (st st':St),st.e t=st'.e t→(∀i x,xs[i]?=some x→L (k+i)≠L' (k+i)→t∉x.2.we)→(fP L k xs st).e t=(fP L' k xs st').e t:=by
 intro xs
 induction xs with
 | nil=>intro k L L' st st' h _;exact h
 | cons x xs q=>
  intro k L L' st st' h hx;simp only[fP];refine q (k+1) L L' _ _ ?_ fun i y I J=>hx (i+1) y (by simpa using I) (by rwa [show k+(i+1)=k+1+i by omega])
  have h0:=hx 0 x rfl;simp only[B9] at h0;by_cases hL:L k=L' k
  ·rw[hL];cases L' k
   ·exact h
   ·by_cases hw:t∈x.2.we
    ·exact rN _ _ _ hw
    ·simp only[Bv];rw[gZ _ _ hw,gZ _ _ hw,h]
  ·have hw:=h0 hL;cases L k<;>cases L' k<;>simp only[Bv,B0,gZ _ _ hw,h]
theorem yB (t:Nat):∀(xs:REs) (k:Nat) (L L':Nat→Bool) (st st':St),st.h t=st'.h t→(∀i x,xs[i]?=some x→L (k+i)≠L' (k+i)→t∉x.2.wh)→(fP L k xs st).h t=(fP L' k xs st').h t:=by
 intro xs
 induction xs with
 | nil=>intro k L L' st st' h _;exact h
 | cons x xs q=>
  intro k L L' st st' h hx;simp only[fP];refine q (k+1) L L' _ _ ?_ fun i y I J=>hx (i+1) y (by simpa using I) (by rwa [show k+(i+1)=k+1+i by omega])
  have h0:=hx 0 x rfl;simp only[B9] at h0;by_cases hL:L k=L' k
  ·rw[hL];cases L' k
   ·exact h
   ·by_cases hw:t∈x.2.wh
    ·exact rM _ _ _ hw
    ·simp only[Bv];rw[gY _ _ hw,gY _ _ hw,h]
  ·have hw:=h0 hL;cases L k<;>cases L' k<;>simp only[Bv,B0,gY _ _ hw,h]
theorem aQu (L:Nat→Bool) (m:Nat) (f:Eff):∀(xs:REs) (k:Nat) (rd:Rd) (st:St),k≤m→xs[m-k]?=some (rd,f)→L m=false→
  (∀i x,xs[i]?=some x→L (k+i)=true→m<k+i→(∀t∈f.we,t∉x.2.we)∧(∀t∈f.wh,t∉x.2.wh))→
  fP (fun j=>L j || Nat.beq j m) k xs st=f.apply (fP L k xs st):=by
 have tail:∀(xs:REs) (k:Nat) (st:St),m<k→(∀i x,xs[i]?=some x→L (k+i)=true→(∀t∈f.we,t∉x.2.we)∧(∀t∈f.wh,t∉x.2.wh))→
   fP (fun j=>L j || Nat.beq j m) k xs (f.apply st)=f.apply (fP L k xs st):=by
  intro xs
  induction xs with
  | nil=>intro k st _ _;rfl
  | cons x xs O=>
   intro k st hk hx;simp only[fP];have hb:Nat.beq k m=false:=by
    cases hb:Nat.beq k m with
    | false=>rfl
    | true=>have:=Aa hb;omega
   rw[hb,Bool.or_false];have h0:=hx 0 x rfl;simp only[B9] at h0;have I:∀i y,xs[i]?=some y→L (k+1+i)=true→(∀t∈f.we,t∉y.2.we)∧(∀t∈f.wh,t∉y.2.wh):=fun i y J hl=>hx (i+1) y (by simpa using J) (by rwa [show k+(i+1)=k+1+i by omega])
   cases hL:L k with
   | false=>simp only[B0];exact O (k+1) st (by omega) I
   | true=>
    simp only[Bv];obtain⟨h1,h2⟩:=h0 hL;have hc:x.2.apply (f.apply st)=f.apply (x.2.apply st):=by
     have he:(x.2.apply (f.apply st)).e=(f.apply (x.2.apply st)).e:=funext fun t=>by
      by_cases ht:t∈f.we
      ·rw[gZ _ _ (h1 t ht)];exact rN _ _ _ ht
      ·rw[gZ f _ ht];by_cases q:t∈x.2.we
       ·exact rN _ _ _ q
       ·rw[gZ _ _ q,gZ _ _ q,gZ _ _ ht]
     have hh:(x.2.apply (f.apply st)).h=(f.apply (x.2.apply st)).h:=funext fun t=>by
      by_cases ht:t∈f.wh
      ·rw[gY _ _ (h2 t ht)];exact rM _ _ _ ht
      ·rw[gY f _ ht];by_cases q:t∈x.2.wh
       ·exact rM _ _ _ q
       ·rw[gY _ _ q,gY _ _ q,gY _ _ ht]
     cases hA:x.2.apply (f.apply st);cases hB:f.apply (x.2.apply st);have hd:(x.2.apply (f.apply st)).d=(f.apply (x.2.apply st)).d:=rfl;simp only[hA,hB] at he hh hd;rw[he,hh,hd]
    rw[hc];exact O (k+1) _ (by omega) I
 intro xs
 induction xs with
 | nil=>intro k rd st _ hx;simp at hx
 | cons x xs O=>
  intro k rd st hk hx hm hd;simp only[fP];by_cases Y:k=m
  ·subst Y;simp at hx;subst hx;have hb:Nat.beq k k=true:=by simp
   rw[hb,hm,Bool.or_true];simp only[Bv,B0];exact tail xs (k+1) st (by omega) fun i y J hl=>hd (i+1) y (by simpa using J) (by rwa [show k+(i+1)=k+1+i by omega]) (by omega)
  ·have hb:Nat.beq k m=false:=by
    cases hb:Nat.beq k m with
    | false=>rfl
    | true=>exact absurd (Aa hb) Y
   rw[hb,Bool.or_false];have Z:xs[m-(k+1)]?=some (rd,f):=by
    rw[show m-k=(m-(k+1))+1 by omega] at hx;simpa using hx
   exact O (k+1) rd _ (by omega) Z hm fun i y J hl hlt=>hd (i+1) y (by simpa using J) (by rwa [show k+(i+1)=k+1+i by omega]) (by omega)
def a43:List Nat→List Nat→List Nat
 | [],acc=>acc
 | x::l,acc=>if acc.any (Nat.beq x) then a43 l acc else a43 l (x::acc)
def dd (l:List Nat):List Nat:=a43 l []
theorem aBn:∀(l acc:List Nat) (x:Nat),x∈a43 l acc→x∈l∨x∈acc
 | [],_,_,h=>.inr h
 | y::l,acc,x,h=>by
  simp only[a43] at h;split at h
  ·rcases aBn l acc x h with h | h
   ·exact .inl (by simp[h])
   ·exact .inr h
  ·rcases aBn l (y::acc) x h with h | h
   ·exact .inl (by simp[h])
   ·rcases Ac.1 h with rfl | h
    ·exact .inl (by simp)
    ·exact .inr h
theorem a42 {l:List Nat}{x:Nat}(h:x∈dd l):x∈l:=(aBn l [] x h).resolve_right (by simp)
def aGt:List Oper→List (List Nat)→List (List Nat)
 | [],acc=>acc
 | o::os,acc=>aGt os (acc++[dd (o.after.toList.flatMap fun e=>if Region.binds .any e then e.on::(acc.getD e.on []) else [])])
def qU (ops:Array Oper):List (List Nat):=aGt ops.toList []
def a4z (a b:List Nat):Bool:=a.all fun x=>!(b.contains x)
def indep (x y:Rd×Eff):Bool:=a4z x.2.we (y.1.e++y.2.we)&&a4z x.2.wh (y.1.h++y.2.wh)&&a4z y.2.we x.1.e&&a4z y.2.wh x.1.h
def tI (ps:List Nat) (y:Rd×Eff):Nat→REs→Bool
 | _,[]=>true
 | i,x::xs=>(ps.contains i || indep x y)&&tI ps y (i+1) xs
def gJ:List (List Nat)→REs→REs→Bool
 | p::ps,y::ys,done=>tI p y 0 done&&gJ ps ys (done++[y])
 | _,[],_=>true
 | [],_::_,_=>false
def j3 (ops:Array Oper):Bool:=ops.toList.zipIdx.all fun(o,i)=>o.after.toList.all fun e=>!Region.binds .any e || decide (e.on<i)
theorem kX {a b:List Nat}(h:a4z a b=true):∀t∈a,t∉b:=by
 intro t ht hb;have:=Au.1 h t ht;simp at this;exact this hb
theorem aB1 {ps:List Nat}{y:Rd×Eff}:∀(xs:REs) (k:Nat),tI ps y k xs=true→∀i x,xs[i]?=some x→k+i∈ps∨indep x y=true:=by
 intro xs
 induction xs with
 | nil=>intro k _ i x hx;simp at hx
 | cons z xs q=>
  intro k h i x hx;simp only[tI,ζ,Bi] at h;cases i with
  | zero=>simp at hx;subst hx;simpa using h.1
  | succ i=>
   simp at hx;have:=q (k+1) h.2 i x hx;rwa [show k+(i+1)=k+1+i by omega]
theorem sC:∀(ps:List (List Nat)) (I done:REs),gJ ps I done=true→∀j y,I[j]?=some y→∃p,ps[j]?=some p∧∀i x,i<done.length+j→(done++I)[i]?=some x→i∈p∨indep x y=true:=by
 intro ps
 induction ps with
 | nil=>
  intro I done h j y J;cases I with
  | nil=>simp at J
  | cons _ _=>simp[gJ] at h
 | cons p ps Z=>
  intro I done h j y J;cases I with
  | nil=>simp at J
  | cons z I=>
   simp only[gJ,ζ] at h;cases j with
   | zero=>
    simp at J;subst J;refine⟨p,rfl,fun i x hi hx=>?_⟩;have Y:i<done.length:=by omega
    rw[Ax Y] at hx;simpa using aB1 done 0 h.1 i x hx
   | succ j=>
    simp at J;obtain⟨q,hq,O⟩:=Z I (done++[z]) h.2 j y J;refine⟨q,by simpa using hq,fun i x hi hx=>O i x (by simp;omega) (by simpa using hx)⟩
theorem aDa (L:Nat→Bool):∀(os:List Oper) (acc:List (List Nat)),(∀i p,acc[i]?=some p→L i=true→∀j∈p,L j=true)→
  (∀i o,os[i]?=some o→L (acc.length+i)=true→∀e∈o.after.toList,Region.binds .any e=true→L e.on=true)→
  ∀i p,(aGt os acc)[i]?=some p→L i=true→∀j∈p,L j=true:=by
 intro os
 induction os with
 | nil=>intro acc h _;exact h
 | cons o os ih=>
  intro acc h O;refine ih _ ?_ ?_
  ·intro i p hp hl j hj;by_cases hi:i<acc.length
   ·rw[Ax hi] at hp;exact h i p hp hl j hj
   ·rw[Ao (by omega)] at hp;have Y:i-acc.length=0:=by
     rcases Nat.eq_zero_or_pos (i-acc.length) with h0 | h0
     ·exact h0
     ·rw[List.getElem?_eq_none (by simp;omega)] at hp;cases hp
    have Z:i=acc.length:=by omega
    rw[Y] at hp;simp at hp;subst hp;have hj:=a42 hj;simp only[Ce] at hj;obtain⟨e,he,y⟩:=hj;split at y
    ·rename_i hb;have I:=O 0 o rfl (by simpa [Z] using hl) e he hb;simp only[Ac] at y;rcases y with rfl | y
     ·exact I
     ·cases J:acc[e.on]? with
      | none=>simp[J] at y
      | some q=>
       simp[J] at y;exact h e.on q J I j y
    ·simp at y
  ·intro i o' aa hl;exact O (i+1) o' (by simpa using aa) (by simpa [Cq,Nat.add_comm 1 i] using hl)
def aTb (ops:Array Oper) (listed:Array Bool):Prop:=∀(i:Nat) (o:Oper),ops[i]?=some o→listed.getD i false=true→∀e∈o.after.toList,Region.binds .any e=true→listed.getD e.on false=true
theorem n6 {l:Array Bool}{i:Nat}(h:i<l.size):l.getD i true=l.getD i false:=by simp[h]
theorem xJ {ops:Array Oper}{listed:Array Bool}(hl:listed.size=ops.size) {i:Nat}(h:i∈Region.ready .any ops listed):
  i<ops.size∧listed.getD i false=false∧∀o,ops[i]?=some o→∀e∈o.after.toList,Region.binds .any e=true→listed.getD e.on false=true:=by
 simp only[Region.ready,mem_filter,mem_range,ζ,B1] at h;obtain⟨h1,h2,h3⟩:=h;refine⟨h1,by rwa [←n6 (by omega)],fun o q e he hb=>?_⟩;simp only[q,Option.map_some,Option.getD_some] at h3;have:=(Array.all_eq_true_iff_forall_mem.1 h3) e (by simpa using he);simpa [hb] using this
theorem aY6 {P:Program}{n:Nat}{ops:Array Oper}{G:Ctx}{st st':St}{xs:REs}{Q:Exit→Act→World→Prop}(hr:Run P n ops 0 st xs st') (hlen:xs.length=ops.size)
  (hap:gJ (qU ops) xs []=true) (hed:j3 ops=true)
  (hQ:∀S' μ' a' w',Sim G n S' μ' st' a' w'→Q .normal a' w'):
  ∀(fuel:Nat) (listed:Array Bool),listed.size=ops.size→((List.range ops.size).filter fun i=>!listed.getD i false).length=fuel→aTb ops listed→
   ∀S μ a w,Sim G n S μ (fP (fun j=>listed.getD j false) 0 xs st) a w→∀ro,wpAnyIn (Wd ro) 0 P .any ops Q fuel listed a w:=by
 have ad:∀(listed:Array Bool),listed.size=ops.size→Region.ready .any ops listed=[]→∀S μ a w,Sim G n S μ (fP (fun j=>listed.getD j false) 0 xs st) a w→Q .normal a w:=by
  intro listed hl O S μ a w hs;have hall:∀i,i<ops.size→listed.getD i false=true:=by
   intro i
   induction i using Nat.strongRecOn with
   | _ i ih=>
    intro hi;cases hc:listed.getD i false with
    | true=>rfl
    | false=>
     exfalso;have:i∈Region.ready .any ops listed:=by
      simp only[Region.ready,mem_filter,mem_range,ζ,B1];refine⟨hi,by rw[n6 (by omega)];exact hc,?_⟩;have ho:ops[i]?=some ops[i]:=by simp[hi]
      simp only[ho,Option.map_some,Option.getD_some];refine Array.all_eq_true_iff_forall_mem.2 fun e he=>?_
      have hlt:=(Au.1 hed) (ops[i],i) (by
       rw[List.mem_iff_getElem?]
       exact⟨i,by simp[hi]⟩)
      have I:=(Au.1 hlt) e (by simpa using he);simp only[Bi,B1,A4] at I ⊢;rcases I with I | I
      ·exact .inl I
      ·exact .inr (ih e.on I (by omega))
     rw[O] at this;simp at this
  have he:fP (fun j=>listed.getD j false) 0 xs st=st':=by
   rw[←hr.final (fun _=>true) (fun _ _=>rfl)];have key:∀i x,xs[i]?=some x→listed.getD (0+i) false≠true→False:=by
    intro i x hx q;have hi:i<xs.length:=(ξ.1 hx).1
    exact q (by rw[Be];exact hall i (by omega))
   have e1:(fP (fun j=>listed.getD j false) 0 xs st).e=(fP (fun _=>true) 0 xs st).e:=funext fun t=>yC t xs 0 _ _ _ _ rfl fun i x hx q=>(key i x hx q).elim
   have e2:(fP (fun j=>listed.getD j false) 0 xs st).h=(fP (fun _=>true) 0 xs st).h:=funext fun t=>yB t xs 0 _ _ _ _ rfl fun i x hx q=>(key i x hx q).elim
   cases hA:fP (fun j=>listed.getD j false) 0 xs st;cases hB:fP (fun _=>true) 0 xs st;simp only[hA,hB] at e1 e2;have e3:(fP (fun j=>listed.getD j false) 0 xs st).d=(fP (fun _=>true) 0 xs st).d:=by rw[aG9,aG9]
   simp only[hA,hB] at e3;rw[e1,e2,e3]
  rw[he] at hs;exact hQ S μ a w hs
 intro fuel
 induction fuel with
 | zero=>
  intro listed hl hf _ S μ a w hs;have O:Region.ready .any ops listed=[]:=by
   rw[List.eq_nil_iff_forall_not_mem];intro i hi;obtain⟨h1,h2,_⟩:=xJ hl hi;have:i∈(List.range ops.size).filter fun i=>!listed.getD i false:=by simp only[mem_filter,mem_range,B1];exact⟨h1,h2⟩
   rw[Bb hf] at this;simp at this
  exact fun _=>⟨O,ad listed hl O S μ a w hs⟩
 | succ fuel ih=>
  intro listed hl hf hcl S μ a w hs ro;refine⟨fun O=>ad listed hl O S μ a w hs,fun i hi=>?_⟩;obtain⟨h1,h2,h3⟩:=xJ hl hi;have hx:xs[i]?=some xs[i]:=by simp[hlen,h1]
  have ho:ops[i]?=some ops[i]:=by simp[h1]
  have ae:aTb ops (listed.setIfInBounds i true):=by
   intro j o hj J e he hb;simp only[A8,By] at J ⊢;have ag:listed.getD e.on false=true→(if i=e.on then if i<listed.size then some true else none else listed[e.on]?).getD false=true:=by
    intro hh;split
    ·simp[hl,h1]
    ·rwa [A8] at hh
   by_cases ab:i=j
   ·subst ab;exact ag (h3 o hj e he hb)
   ·rw[θ ab] at J;exact ag (hcl j o hj (by rwa [A8]) e he hb)
  have hpd:∀(L:Array Bool),aTb ops L→∀k p,(qU ops)[k]?=some p→L.getD k false=true→∀j∈p,L.getD j false=true:=by
   intro L hL k p hp hk;refine aDa (fun j=>L.getD j false) ops.toList [] (by simp) ?_ k p hp hk;intro k' o ho' hl' e he hb;exact hL k' o (by simpa using ho') (by simpa using hl') e he hb
  have Z:(listed.setIfInBounds i true).getD i false=true:=by simp[hl,h1]
  have hold:∀j,j≠i→(listed.setIfInBounds i true).getD j false=listed.getD j false:=by
   intro j hj;simp only[A8,By];rw[θ (fun e=>hj e.symm)]
  have hdis1:∀j y,xs[j]?=some y→j<i→listed.getD j false=false→indep y xs[i]=true:=by
   intro j y hy hji J;obtain⟨p,hp,aa⟩:=sC _ _ _ hap i _ hx;rcases aa j y (by simpa using hji) (by simpa using hy) with hm | hm
   ·have:=hpd _ ae i p hp Z j hm;rw[hold j (by omega)] at this;rw[this] at J;cases J
   ·exact hm
  have ac:∀j y,xs[j]?=some y→i<j→listed.getD j false=true→indep xs[i] y=true:=by
   intro j y hy ab J;obtain⟨p,hp,aa⟩:=sC _ _ _ hap j _ hy;rcases aa i xs[i] (by simpa using ab) (by simp) with hm | hm
   ·have:=hpd _ hcl j p hp J i hm;rw[this] at h2;cases h2
   ·exact hm
  have hg:=hr.at i _ hx;simp only[Be] at hg;have hag:rR xs[i].1 (fP (fun j=>decide (j<i)) 0 xs st) (fP (fun j=>listed.getD j false) 0 xs st):=by
   have key:∀k x,xs[k]?=some x→listed.getD (0+k) false≠decide (0+k<i)→(∀t∈xs[i].1.e,t∉x.2.we)∧(∀t∈xs[i].1.h,t∉x.2.wh):=by
    intro k x hk q;rw[Be] at q;by_cases ah:k<i
    ·have Y:listed.getD k false=false:=by
      cases hc:listed.getD k false with
      | false=>rfl
      | true=>simp[hc,ah] at q
     have hd:=hdis1 k x hk ah Y;simp only[indep,ζ] at hd;obtain⟨⟨⟨d1,d2⟩,d3⟩,d4⟩:=hd;exact⟨fun t ht hw=>kX d1 t hw (by simp[ht]),fun t ht hw=>kX d2 t hw (by simp[ht])⟩
    ·by_cases hke:k=i
     ·subst hke;rw[h2] at q;simp at q
     ·have Y:listed.getD k false=true:=by
       cases hc:listed.getD k false with
       | true=>rfl
       | false=>simp[hc,ah] at q
      have hd:=ac k x hk (by omega) Y;simp only[indep,ζ] at hd;obtain⟨⟨⟨d1,d2⟩,d3⟩,d4⟩:=hd;exact⟨fun t ht hw=>kX d3 t hw ht,fun t ht hw=>kX d4 t hw ht⟩
   exact⟨fun t ht=>yC t xs 0 _ _ _ _ rfl fun k x hk q=>(key k x hk q).1 t ht,fun t ht=>yB t xs 0 _ _ _ _ rfl fun k x hk q=>(key k x hk q).2 t ht⟩
  refine hg _ hag G S μ a w _ Q hs (fun S' μ' a' w' hs'=>?_) ro;refine ih (listed.setIfInBounds i true) (by simp[hl]) ?_ ae S' μ' a' w' ?_ ro
  ·--one fewer is left
   have:∀(l:List Nat),l.Nodup→i∈l→((l.filter fun j=>!listed.getD j false).length=((l.filter fun j=>!(listed.setIfInBounds i true).getD j false).length)+1):=by
    intro l
    induction l with
    | nil=>intro _ h;simp at h
    | cons b l ihl=>
     intro hnd hmem;have ai:=(Bq.1 hnd)
     by_cases hb:b=i
     ·subst hb;have hno:∀j∈l,(!(listed.setIfInBounds b true).getD j false)=(!listed.getD j false):=fun j hj=>by rw[hold j (fun e=>ai.1 (e▸hj))]
      rw[Dc,Dc,h2,Z];simp only[Bool.not_false,Cw,Bool.not_true,Ba,B5,Ai];rw[List.filter_congr hno]
     ·have hm':i∈l:=(Ac.1 hmem).resolve_left fun e=>hb e.symm
      have:=ihl ai.2 hm';rw[Dc,Dc,hold b hb];split
      ·simp only[Ai];omega
      ·exact this
   have:=this (List.range ops.size) List.nodup_range (by simpa using h1);omega
  ·have hadd:=aQu (fun j=>listed.getD j false) i xs[i].2 xs 0 xs[i].1 st (Al _) (by rw[sub_zero,hx]) h2 (by
    intro k x hk Y hik;rw[Be] at Y hik;have hd:=ac k x hk hik Y;simp only[indep,ζ] at hd;obtain⟨⟨⟨d1,d2⟩,d3⟩,d4⟩:=hd
    exact⟨fun t ht hw=>kX d1 t ht (by simp[hw]),fun t ht hw=>kX d2 t ht (by simp[hw])⟩)
   rw[←hadd] at hs';have hfe:(fun j=>(listed.setIfInBounds i true).getD j false)=fun j=>listed.getD j false || Nat.beq j i:=funext fun j=>by
    by_cases hj:j=i
    ·subst hj;rw[Z];simp
    ·rw[hold j hj];have hb:Nat.beq j i=false:=by
      cases hb:Nat.beq j i with
      | false=>rfl
      | true=>exact absurd (Aa hb) hj
     rw[hb,Bool.or_false]
   rw[hfe];exact hs'
def aRd:Value→Option V
 | .int k n=>some (.one (.c (.int k n)))
 | .bool b=>some (.one (.c (.bool b)))
 | .string s=>some (.one (.c (.str s.data.toList)))
 | .slice none 0 0=>some (.one (.c .nl))
 | .pointer none=>some (.one (.c .np))
 | .map none=>some (.one (.c (.zv 0)))
 | .nilFunc=>some (.one (.c (.zv 1)))
 | .nilIface=>some (.one (.c (.zv 2)))
 | _=>none
def opv (st:St):Operand→Option V
 | .tmp t=>st.e t
 | .const v=>aRd v
 | .func f=>some (.one (.clo f []))
 | .global _=>none
def opr:Operand→List Nat
 | .tmp t=>[t]
 | _=>[]
theorem aMt {S:Sto}{μ:Mu}{H:dD}{v:Value}{x:V}(h:aRd v=some x):aY S μ H x v:=by
 unfold aRd at h;split at h<;>first | (cases h;simp[aY,b9,Rep,aYn];done) | cases h
theorem aO {G:Ctx}{n:Nat}{S:Sto}{μ:Mu}{st st':St}{a:Act}{w:World}{x:Operand}{v:V}(hs:Sim G n S μ st' a w) (h:opv st x=some v) (ha:∀t∈opr x,st'.e t=st.e t):aY S μ st'.h v (a.eval x):=by
 cases x with
 | tmp t=>exact hs.env t v (by rw[ha t (by simp[opr])];exact h)
 | const u=>exact aMt h
 | func f=>simp[opv] at h;subst h;simp[aY,b9,b6,Act.eval]
 | global g=>simp[opv] at h
section
variable {P:Program}{n:Nat}{o:Oper}{st:St}{d:Nat}
theorem Step.value {rd:Rd}{y:V}(hd:o.dst=some d) (q:d<n)
  (h:∀st',rR rd st st'→∀G S μ a w,Sim G n S μ st' a w→∃v,(execOp a.eval o).run P w=.ok (.value v) w∧aY S μ st'.h y v):Step P n o st rd ⟨some (d,some y),[]⟩:=by
 intro st' ha G S μ a w K Q hs hk;obtain⟨v,I,J⟩:=h st' ha G S μ a w hs;refine fun ro=>j7 I ?_
 rw[hd];exact hk S μ _ _ (hs.put hs.inv (Evolve.refl _ _ _) q fun z hz=>by cases hz;exact J)
theorem a3j {x:Operand}{y:V}(I:o.op=.move x) (hd:o.dst=some d) (q:d<n) (hx:opv st x=some y):Step P n o st ⟨opr x,[]⟩ ⟨some (d,some y),[]⟩:=
 Step.value hd q fun _ ha _ _ _ a _ hs=>⟨a.eval x,by simp[execOp,I],aO hs hx ha.1⟩
theorem aUf {x:Operand}{y:V}(I:o.op=.assign x) (hd:o.dst=some d) (q:d<n) (hx:opv st x=some y):Step P n o st ⟨opr x,[]⟩ ⟨some (d,some y),[]⟩:=
 Step.value hd q fun _ ha _ _ _ a _ hs=>⟨a.eval x,by simp[execOp,I],aO hs hx ha.1⟩
theorem gH {S:Sto}{μ:Mu}{H:dD}{k:IntKind}{m:Int}{v:Value}(h:aY S μ H (.one (.c (.int k m))) v):v=.int k m:=by simpa [aY,b9,Rep] using h
theorem jZ {S:Sto}{μ:Mu}{H:dD}{b:Bool}{v:Value}(h:aY S μ H (.one (.c (.bool b))) v):v=.bool b:=by simpa [aY,b9,Rep] using h
theorem lI {S:Sto}{μ:Mu}{H:dD}{b:List UInt8}{v:Value}(h:aY S μ H (.one (.c (.str b))) v):v=.string ⟨⟨b⟩⟩:=by simpa [aY,b9,Rep] using h
abbrev I (k:IntKind) (m:Int):V:=.one (.c (.int k m))
abbrev B (b:Bool):V:=.one (.c (.bool b))
abbrev T (s:List UInt8):V:=.one (.c (.str s))
theorem fF {x y:Operand}{st':St}(ha:rR ⟨opr x++opr y,[]⟩ st st'):(∀t∈opr x,st'.e t=st.e t)∧(∀t∈opr y,st'.e t=st.e t):=
 ⟨fun t h=>ha.1 t (by simp[h]),fun t h=>ha.1 t (by simp[h])⟩
theorem fW {op:BinOp}{q ty:TypeId}{x y:Operand}{k:IntKind}{a b:Int}{z:V}(O:o.op=.binOp op q x y ty) (hd:o.dst=some d) (J:d<n) (hx:opv st x=some (I k a)) (Y:opv st y=some (I k b))
  (Z:∀w:World,∃v,(binOp op q (.int k a) (.int k b)).run P w=.ok v w∧∀S μ H,aY S μ H z v):Step P n o st ⟨opr x++opr y,[]⟩ ⟨some (d,some z),[]⟩:=by
 refine Step.value hd J fun _ ha _ _ _ ac w hs=>?_
 have h1:=gH (aO hs hx (fF ha).1);have h2:=gH (aO hs Y (fF ha).2);obtain⟨v,h3,h4⟩:=Z w;refine⟨v,?_,h4 _ _ _⟩;simp only[execOp,O,h1,h2,Ad];have:(eqGuard op q x y (.int k a) (.int k b)).run P w=.ok () w:=by
  unfold eqGuard;split<;>rfl
 rw[this];simp only[τ,h3,Af]
theorem aUg {J ty:TypeId}{x y:Operand}{k:IntKind}{a b r:Int}(O:o.op=.binOp .add J x y ty) (hd:o.dst=some d) (q:d<n) (hx:opv st x=some (I k a)) (Y:opv st y=some (I k b)) (Z:k.wrap (a+b)=r):
  Step P n o st ⟨opr x++opr y,[]⟩ ⟨some (d,some (I k r)),[]⟩:=
 fW O hd q hx Y fun w=>⟨.int k r,by simp[binOp,Op.intArith,Z],fun _ _ _=>by simp[aY,b9,Rep]⟩
theorem aT5 {J ty:TypeId}{x y:Operand}{k:IntKind}{a b r:Int}(O:o.op=.binOp .sub J x y ty) (hd:o.dst=some d) (q:d<n) (hx:opv st x=some (I k a)) (Y:opv st y=some (I k b)) (Z:k.wrap (a-b)=r):
  Step P n o st ⟨opr x++opr y,[]⟩ ⟨some (d,some (I k r)),[]⟩:=
 fW O hd q hx Y fun w=>⟨.int k r,by simp[binOp,Op.intArith,Z],fun _ _ _=>by simp[aY,b9,Rep]⟩
theorem aUa {J ty:TypeId}{x y:Operand}{k:IntKind}{a b r:Int}(O:o.op=.binOp .mul J x y ty) (hd:o.dst=some d) (q:d<n) (hx:opv st x=some (I k a)) (Y:opv st y=some (I k b)) (Z:k.wrap (a*b)=r):
  Step P n o st ⟨opr x++opr y,[]⟩ ⟨some (d,some (I k r)),[]⟩:=
 fW O hd q hx Y fun w=>⟨.int k r,by simp[binOp,Op.intArith,Z],fun _ _ _=>by simp[aY,b9,Rep]⟩
theorem a3e {J ty:TypeId}{x y:Operand}{k:IntKind}{a b r:Int}(O:o.op=.binOp .quo J x y ty) (hd:o.dst=some d) (q:d<n) (hx:opv st x=some (I k a)) (Y:opv st y=some (I k b)) (hb:b≠0) (Z:k.wrap (a.tdiv b)=r):
  Step P n o st ⟨opr x++opr y,[]⟩ ⟨some (d,some (I k r)),[]⟩:=
 fW O hd q hx Y fun w=>⟨.int k r,by simp[binOp,Op.intDiv,hb,Z],fun _ _ _=>by simp[aY,b9,Rep]⟩
theorem a3c {J ty:TypeId}{x y:Operand}{k:IntKind}{a b r:Int}(O:o.op=.binOp .rem J x y ty) (hd:o.dst=some d) (q:d<n) (hx:opv st x=some (I k a)) (Y:opv st y=some (I k b)) (hb:b≠0) (Z:a.tmod b=r):
  Step P n o st ⟨opr x++opr y,[]⟩ ⟨some (d,some (I k r)),[]⟩:=
 fW O hd q hx Y fun w=>⟨.int k r,by simp[binOp,Op.intDiv,hb,Z],fun _ _ _=>by simp[aY,b9,Rep]⟩
theorem a7e {J ty:TypeId}{x y:Operand}{k:IntKind}{a b:Int}(O:o.op=.binOp .lss J x y ty) (hd:o.dst=some d) (q:d<n) (hx:opv st x=some (I k a)) (Y:opv st y=some (I k b)):
  Step P n o st ⟨opr x++opr y,[]⟩ ⟨some (d,some (B (decide (a<b)))),[]⟩:=
 fW O hd q hx Y fun w=>⟨.bool (decide (a<b)),by simp[binOp,Op.intCmp],fun _ _ _=>by simp[aY,b9,Rep]⟩
theorem a7f {J ty:TypeId}{x y:Operand}{k:IntKind}{a b:Int}(O:o.op=.binOp .leq J x y ty) (hd:o.dst=some d) (q:d<n) (hx:opv st x=some (I k a)) (Y:opv st y=some (I k b)):
  Step P n o st ⟨opr x++opr y,[]⟩ ⟨some (d,some (B (decide (a≤b)))),[]⟩:=
 fW O hd q hx Y fun w=>⟨.bool (decide (a≤b)),by simp[binOp,Op.intCmp],fun _ _ _=>by simp[aY,b9,Rep]⟩
theorem a7g {J ty:TypeId}{x y:Operand}{k:IntKind}{a b:Int}(O:o.op=.binOp .gtr J x y ty) (hd:o.dst=some d) (q:d<n) (hx:opv st x=some (I k a)) (Y:opv st y=some (I k b)):
  Step P n o st ⟨opr x++opr y,[]⟩ ⟨some (d,some (B (decide (b<a)))),[]⟩:=
 fW O hd q hx Y fun w=>⟨.bool (decide (b<a)),by simp[binOp,Op.intCmp],fun _ _ _=>by simp[aY,b9,Rep]⟩
theorem a7h {J ty:TypeId}{x y:Operand}{k:IntKind}{a b:Int}(O:o.op=.binOp .geq J x y ty) (hd:o.dst=some d) (q:d<n) (hx:opv st x=some (I k a)) (Y:opv st y=some (I k b)):
  Step P n o st ⟨opr x++opr y,[]⟩ ⟨some (d,some (B (decide (b≤a)))),[]⟩:=
 fW O hd q hx Y fun w=>⟨.bool (decide (b≤a)),by simp[binOp,Op.intCmp],fun _ _ _=>by simp[aY,b9,Rep]⟩
theorem a7i {J ty:TypeId}{x y:Operand}{k:IntKind}{a b:Int}(O:o.op=.binOp .eql J x y ty) (hd:o.dst=some d) (q:d<n) (hx:opv st x=some (I k a)) (Y:opv st y=some (I k b)):
  Step P n o st ⟨opr x++opr y,[]⟩ ⟨some (d,some (B (decide (a=b)))),[]⟩:=
 fW O hd q hx Y fun w=>⟨.bool (decide (a=b)),by simp[binOp,Op.intCmp];rfl,fun _ _ _=>by simp[aY,b9,Rep]⟩
theorem a7a {J ty:TypeId}{x y:Operand}{k:IntKind}{a b:Int}(O:o.op=.binOp .neq J x y ty) (hd:o.dst=some d) (q:d<n) (hx:opv st x=some (I k a)) (Y:opv st y=some (I k b)):
  Step P n o st ⟨opr x++opr y,[]⟩ ⟨some (d,some (B (!decide (a=b)))),[]⟩:=
 fW O hd q hx Y fun w=>⟨.bool (!decide (a=b)),by simp[binOp,Op.intCmp];rfl,fun _ _ _=>by simp[aY,b9,Rep]⟩
theorem pB {op:BinOp}{q ty:TypeId}{x y:Operand}{a b:List UInt8}{z:V}(O:o.op=.binOp op q x y ty) (hd:o.dst=some d) (I:d<n) (hx:opv st x=some (T a)) (Y:opv st y=some (T b))
  (Z:∀w:World,∃v,(Op.stringOp op ⟨⟨a⟩⟩ ⟨⟨b⟩⟩).run P w=.ok v w∧∀S μ H,aY S μ H z v) (J:∀w:World,(binOp op q (.string ⟨⟨a⟩⟩) (.string ⟨⟨b⟩⟩)).run P w=(Op.stringOp op ⟨⟨a⟩⟩ ⟨⟨b⟩⟩).run P w):Step P n o st ⟨opr x++opr y,[]⟩ ⟨some (d,some z),[]⟩:=by
 refine Step.value hd I fun _ ha _ _ _ ac w hs=>?_
 have h1:=lI (aO hs hx (fF ha).1);have h2:=lI (aO hs Y (fF ha).2);obtain⟨v,h3,h4⟩:=Z w;refine⟨v,?_,h4 _ _ _⟩;simp only[execOp,O,h1,h2,Ad];have:(eqGuard op q x y (.string ⟨⟨a⟩⟩) (.string ⟨⟨b⟩⟩)).run P w=.ok () w:=by
  unfold eqGuard;split<;>rfl
 rw[this];simp only[τ,J,h3,Af]
theorem mU (a:List UInt8):(ByteArray.mk ⟨a⟩).toList=a:=by rw[ByteArray.toList_eq]
theorem a27 {I ty:TypeId}{x y:Operand}{a b:List UInt8}(J:o.op=.binOp .eql I x y ty) (hd:o.dst=some d) (q:d<n) (hx:opv st x=some (T a)) (O:opv st y=some (T b)):
  Step P n o st ⟨opr x++opr y,[]⟩ ⟨some (d,some (B (decide (a=b)))),[]⟩:=
 pB J hd q hx O (fun w=>⟨.bool (decide (a=b)),by simp only[Op.stringOp,mU,Af];congr 2;exact(Bool.beq_eq_decide_eq a b),fun _ _ _=>by simp[aY,b9,Rep]⟩) fun _=>rfl
theorem a25 {I ty:TypeId}{x y:Operand}{a b:List UInt8}(J:o.op=.binOp .neq I x y ty) (hd:o.dst=some d) (q:d<n) (hx:opv st x=some (T a)) (O:opv st y=some (T b)):
  Step P n o st ⟨opr x++opr y,[]⟩ ⟨some (d,some (B (!decide (a=b)))),[]⟩:=
 pB J hd q hx O (fun w=>⟨.bool (!decide (a=b)),by simp only[Op.stringOp,mU,Af];rw[Bool.beq_eq_decide_eq a b],fun _ _ _=>by simp[aY,b9,Rep]⟩) fun _=>rfl
theorem a3a {I ty:TypeId}{x y:Operand}{a b:List UInt8}(J:o.op=.binOp .add I x y ty) (hd:o.dst=some d) (q:d<n) (hx:opv st x=some (T a)) (O:opv st y=some (T b)) (hl:a.length+b.length≤maxLen):
  Step P n o st ⟨opr x++opr y,[]⟩ ⟨some (d,some (T (a++b))),[]⟩:=
 pB J hd q hx O (fun w=>⟨.string ⟨⟨a++b⟩⟩,by
  have h1:(ByteArray.mk ⟨a⟩).size=a.length:=rfl;have h2:(ByteArray.mk ⟨b⟩).size=b.length:=rfl;have h3:¬(((ByteArray.mk ⟨a⟩).size+(ByteArray.mk ⟨b⟩).size:Nat):Int)>IntKind.i64.max:=by
   rw[h1,h2];simp only[IntKind.max,IntKind.signed];unfold maxLen at hl;simp[IntKind.bits];omega
  have h4:(ByteArray.mk ⟨a⟩)++(ByteArray.mk ⟨b⟩)=(⟨⟨a++b⟩⟩:ByteArray):=by
   apply ByteArray.ext;simp
  simp only[Op.stringOp];rw[θ h3,h4]
  rfl,fun _ _ _=>by simp[aY,b9,Rep]⟩) fun _=>rfl
theorem a26 {I ty:TypeId}{x y:Operand}{a b:List UInt8}(J:o.op=.binOp .lss I x y ty) (hd:o.dst=some d) (q:d<n) (hx:opv st x=some (T a)) (O:opv st y=some (T b)):
  Step P n o st ⟨opr x++opr y,[]⟩ ⟨some (d,some (B (Op.bytesLess a b))),[]⟩:=
 pB J hd q hx O (fun w=>⟨.bool (Op.bytesLess a b),by simp only[Op.stringOp,mU,Af],fun _ _ _=>by simp[aY,b9,Rep]⟩) fun _=>rfl
theorem a69 {t:TypeId}{x:Operand}{b:Bool}(y:o.op=.unOp .not t x) (hd:o.dst=some d) (q:d<n) (hx:opv st x=some (B b)):Step P n o st ⟨opr x,[]⟩ ⟨some (d,some (B (!b))),[]⟩:=by
 refine Step.value hd q fun _ ha _ _ _ ac w hs=>?_
 have h1:=jZ (aO hs hx ha.1);exact⟨.bool (!b),by simp[execOp,y,h1,Op.unary],by simp[aY,b9,Rep]⟩
theorem a7b {t:TypeId}{x:Operand}{k:IntKind}{a r:Int}(J:o.op=.unOp .neg t x) (hd:o.dst=some d) (q:d<n) (hx:opv st x=some (I k a)) (y:k.wrap (0-a)=r):Step P n o st ⟨opr x,[]⟩ ⟨some (d,some (I k r)),[]⟩:=by
 refine Step.value hd q fun _ ha _ _ _ ac w hs=>?_
 have h1:=gH (aO hs hx ha.1);refine⟨.int k r,?_,by simp[aY,b9,Rep]⟩;simp only[Int.zero_sub] at y;simp[execOp,J,h1,Op.unary,Op.intArith,y]
theorem aT8 {c x y:Operand}{b:Bool}{z:V}(I:o.op=.pick c x y) (hd:o.dst=some d) (q:d<n) (hc:opv st c=some (B b)) (hb:b=true) (hx:opv st x=some z):Step P n o st ⟨opr c++opr x,[]⟩ ⟨some (d,some z),[]⟩:=by
 refine Step.value hd q fun _ ha _ _ _ ac w hs=>?_
 have h1:=jZ (aO hs hc (fF ha).1);subst hb;exact⟨ac.eval x,by simp[execOp,I,h1,asBool],aO hs hx (fF ha).2⟩
theorem aT9 {c x y:Operand}{b:Bool}{z:V}(I:o.op=.pick c x y) (hd:o.dst=some d) (q:d<n) (hc:opv st c=some (B b)) (hb:b=false) (J:opv st y=some z):Step P n o st ⟨opr c++opr y,[]⟩ ⟨some (d,some z),[]⟩:=by
 refine Step.value hd q fun _ ha _ _ _ ac w hs=>?_
 have h1:=jZ (aO hs hc (fF ha).1);subst hb;exact⟨ac.eval y,by simp[execOp,I,h1,asBool],aO hs J (fF ha).2⟩
theorem aOn {x:Operand}{i:Nat}{l:List V}{z:V}(y:o.op=.extract x i) (hd:o.dst=some d) (q:d<n) (hx:opv st x=some (.tup l)) (hi:l[i]?=some z):Step P n o st ⟨opr x,[]⟩ ⟨some (d,some z),[]⟩:=by
 refine Step.value hd q fun st' ha _ S μ ac w hs=>?_
 have h1:=aO hs hx ha.1;simp only[aY] at h1;obtain⟨vs,h1,h2⟩:=h1;have:∀(l:List V) (vs:List Value) (i:Nat),c6 S μ st'.h l vs→l[i]?=some z→∃v,vs[i]?=some v∧aY S μ st'.h z v:=by
  intro l
  induction l with
  | nil=>intro vs i _ h;simp at h
  | cons r rs I=>
   intro vs i h hi;simp only[c6] at h;obtain⟨v,vs',rfl,h1,h2⟩:=h;cases i with
   | zero=>simp at hi;subst hi;exact⟨v,rfl,h1⟩
   | succ i=>simp at hi;simpa using I vs' i h2 hi
 obtain⟨v,h3,h4⟩:=this l vs i h2 hi;refine⟨v,?_,h4⟩;simp[execOp,y,h1,Instr.extract,h3]
end
inductive TK where
 | bool | int (k:IntKind) | str | pt (e:TypeId) | sl (e:TypeId) | mp (k e:TypeId) | fn
 | st (fs:List (Nat×TypeId)) | ar (m:Nat) (e:TypeId)
 deriving DecidableEq,Inhabited
structure TI where
 k:TK
 size:Nat
 bytes:Nat
 zero:List C
 deriving Inhabited
abbrev TT:=List (Option TI)
def aRe:C→Value→Bool
 | .int k n,.int k' n'=>k==k'&&n==n'
 | .bool b,.bool b'=>b==b'
 | .str s,.string t=>s==t.data.toList
 | .nl,.slice none 0 0=>true
 | .np,.pointer none=>true
 | .zv 0,.map none=>true
 | .zv 1,.nilFunc=>true
 | .zv 2,.nilIface=>true
 | _,_=>false
def vQ:List C→List Value→Bool
 | [],[]=>true
 | c::cs,v::vs=>aRe c v&&vQ cs vs
 | _,_=>false
def TK.fits:TK→TypeDesc→Bool
 | .bool,.bool=>true
 | .int k,.int k'=>k==k'
 | .str,.string=>true
 | .pt e,.pointer e'=>e==e'
 | .sl e,.slice e'=>e==e'
 | .mp k e,.map k' e'=>k==k'&&e==e'
 | .fn,.func _ _ _=>true
 | .st fs,.struct fields=>fs==fields.toList.map fun f=>(f.offset,f.type)
 | .ar m e,.array m' e'=>m==m'&&e==e'
 | _,_=>false
def TK.agg:TK→Bool
 | .st _=>true
 | .ar _ _=>true
 | _=>false
def TI.check (P:Program) (t:TypeId) (i:TI):Bool:=
 match P.info? t,P.underlying t with
 | some inf,some d=>(inf.size==i.size&&(i.zero.length==i.size&&(i.k.agg || i.size==1)))&&inf.bytes==i.bytes&&i.k.fits d&&
   (match inf.zero with | some z=>vQ i.zero z.cells.toList&&(match i.k.agg,z with | true,.agg _=>true | true,_=>false | false,.agg _=>false | false,_=>true) | none=>false)
 | _,_=>false
def TT.check (P:Program) (T:TT):Bool:=T.zipIdx.all fun(i,t)=>match i with | some i=>i.check P t | none=>true
theorem aMu {S:Sto}{c:C}{v:Value}(h:aRe c v=true):Rep S c v:=by
 unfold aRe at h;split at h<;>simp_all [Rep,aYn]
theorem iM {S:Sto}:∀{c:List C}{v:List Value},vQ c v=true→dH S c v
 | [],[],_=>by simp[dH]
 | c::cs,v::vs,h=>by
  simp only[vQ,ζ] at h;simp only[dH];exact⟨v,vs,rfl,aMu h.1,iM h.2⟩
 | [],_::_,h=>by simp[vQ] at h
 | _::_,[],h=>by simp[vQ] at h
def Tok (P:Program) (T:TT):Prop:=TT.check P T=true
structure TIok (P:Program) (t:TypeId) (i:TI):Prop where
 ex:∃inf d z,P.info? t=some inf∧P.underlying t=some d∧inf.size=i.size∧inf.bytes=i.bytes∧i.k.fits d=true∧inf.zero=some z∧vQ i.zero z.cells.toList=true∧(z=if i.k.agg then .agg z.cells else z)∧(i.k.agg=false→∃u,z.cells= #[u]∧z=u)
 len:i.zero.length=i.size
 one:i.k.agg=false→i.size=1
theorem Tok.get {P:Program}{T:TT}(h:Tok P T) {t:TypeId}{i:TI}(hi:T[t]?=some (some i)):TIok P t i:=by
 unfold Tok TT.check at h
 have:=(Au.1 h) (some i,t) (by
  rw[List.mem_iff_getElem?]
  exact⟨t,by simp[List.getElem?_zipIdx,hi]⟩)
 simp only[TI.check] at this;split at this
 ·rename_i inf d h1 h2;simp only[ζ,beq_iff_eq] at this;obtain⟨⟨⟨⟨h3,hl,q⟩,h4⟩,h5⟩,h6⟩:=this;split at h6
  ·rename_i z hz;simp only[ζ] at h6;obtain⟨h6,y⟩:=h6;refine⟨⟨inf,d,z,h1,h2,h3,h4,h5,hz,h6,?_,?_⟩,hl,fun hk=>by simpa [hk] using q⟩
   ·cases hk:i.k.agg with
    | false=>simp
    | true=>
     cases z<;>simp_all [Value.cells]
   ·intro hk;cases z<;>simp_all [Value.cells]
  ·cases h6
 ·cases this
theorem TIok.size_run {P:Program}{t:TypeId}{i:TI}(h:TIok P t i) (w:World):(sizeOf t).run P w=.ok i.size w:=by
 obtain⟨inf,d,z,h1,h2,h3,h4,h5,h6,q,y⟩:=h.ex;simp[sizeOf,typeInfo,h1,h3]
theorem TIok.zero_run {P:Program}{t:TypeId}{i:TI}(h:TIok P t i):∃z,(∀w:World,(zeroValue t).run P w=.ok z w)∧(∀S,dH S i.zero z.cells.toList)∧(z=if i.k.agg then .agg z.cells else z)∧(i.k.agg=false→∃u,z.cells= #[u]∧z=u):=by
 obtain⟨inf,d,z,h1,h2,h3,h4,h5,h6,q,y⟩:=h.ex;exact⟨z,fun w=>by simp[zeroValue,typeInfo,h1,h6],fun S=>iM q,y⟩
theorem TIok.agg_run {P:Program}{t:TypeId}{i:TI}(h:TIok P t i) (w:World):(isAgg t).run P w=.ok i.k.agg w:=by
 obtain⟨inf,d,z,h1,h2,h3,h4,h5,h6,q,y⟩:=h.ex;unfold isAgg;rw[Ad,Av h2 w];simp only[τ];cases hk:i.k<;>rw[hk] at h5<;>cases d<;>simp[TK.fits] at h5<;>rfl
theorem TIok.slice {P:Program}{t e:TypeId}{i:TI}(h:TIok P t i) (hk:i.k=.sl e):P.underlying t=some (.slice e):=by
 obtain⟨inf,d,z,h1,h2,h3,h4,h5,h6,q,y⟩:=h.ex;rw[hk] at h5;cases d<;>simp[TK.fits] at h5;rw[h2,h5]
theorem TIok.array {P:Program}{t e:TypeId}{m:Nat}{i:TI}(h:TIok P t i) (hk:i.k=.ar m e):P.underlying t=some (.array m e):=by
 obtain⟨inf,d,z,h1,h2,h3,h4,h5,h6,q,y⟩:=h.ex;rw[hk] at h5;cases d<;>simp[TK.fits] at h5;rw[h2,h5.1,h5.2]
theorem TIok.str {P:Program}{t:TypeId}{i:TI}(h:TIok P t i) (hk:i.k=.str):P.underlying t=some .string:=by
 obtain⟨inf,d,z,h1,h2,h3,h4,h5,h6,q,y⟩:=h.ex;rw[hk] at h5;cases d<;>simp[TK.fits] at h5;rw[h2]
theorem TIok.int {P:Program}{t:TypeId}{k:IntKind}{i:TI}(h:TIok P t i) (hk:i.k=.int k):P.underlying t=some (.int k):=by
 obtain⟨inf,d,z,h1,h2,h3,h4,h5,h6,q,y⟩:=h.ex;rw[hk] at h5;cases d<;>simp[TK.fits] at h5;rw[h2,h5]
theorem TIok.bool {P:Program}{t:TypeId}{i:TI}(h:TIok P t i) (hk:i.k=.bool):P.underlying t=some .bool:=by
 obtain⟨inf,d,z,h1,h2,h3,h4,h5,h6,q,y⟩:=h.ex;rw[hk] at h5;cases d<;>simp[TK.fits] at h5;rw[h2]
theorem TIok.ptr {P:Program}{t e:TypeId}{i:TI}(h:TIok P t i) (hk:i.k=.pt e):P.underlying t=some (.pointer e):=by
 obtain⟨inf,d,z,h1,h2,h3,h4,h5,h6,q,y⟩:=h.ex;rw[hk] at h5;cases d<;>simp[TK.fits] at h5;rw[h2,h5]
theorem TIok.map {P:Program}{t k e:TypeId}{i:TI}(h:TIok P t i) (hk:i.k=.mp k e):P.underlying t=some (.map k e):=by
 obtain⟨inf,d,z,h1,h2,h3,h4,h5,h6,q,y⟩:=h.ex;rw[hk] at h5;cases d<;>simp[TK.fits] at h5;rw[h2,h5.1,h5.2]
theorem TIok.struct {P:Program}{t:TypeId}{fs:List (Nat×TypeId)}{i:TI}(h:TIok P t i) (hk:i.k=.st fs):∃fields,P.underlying t=some (.struct fields)∧fs=fields.toList.map fun f=>(f.offset,f.type):=by
 obtain⟨inf,d,z,h1,h2,h3,h4,h5,h6,q,y⟩:=h.ex;rw[hk] at h5;cases d<;>simp[TK.fits] at h5;exact⟨_,h2,h5⟩
theorem TIok.info {P:Program}{t:TypeId}{i:TI}(h:TIok P t i):(P.info? t).map (·.size)=some i.size:=by
 obtain⟨inf,d,z,h1,h2,h3,h4,h5,h6,q,y⟩:=h.ex;simp[h1,h3]
theorem b6.length {S:Sto}{μ:Mu}{H:dD}:∀{c:List R}{v:List Value},b6 S μ H c v→v.length=c.length
 | [],_,k=>by simp only[b6] at k;subst k;rfl
 | _::cs,_,k=>by
  simp only[b6] at k;obtain⟨v,vs',rfl,_,h⟩:=k;simp[b6.length h]
theorem b6.get {S:Sto}{μ:Mu}{H:dD}:∀{c:List R}{v:List Value},b6 S μ H c v→∀(i:Nat) (x:R),c[i]?=some x→∃u,v[i]?=some u∧b9 S μ H x u
 | [],_,_,i,x,h=>by simp at h
 | c::cs,_,k,i,x,h=>by
  simp only[b6] at k;obtain⟨v,vs',rfl,h1,h2⟩:=k;cases i with
  | zero=>simp at h;subst h;exact⟨v,rfl,h1⟩
  | succ i=>simp at h;simpa using h2.get i x h
theorem b6.append {S:Sto}{μ:Mu}{H:dD}:∀{a:List R}{x:List Value}{b:List R}{y:List Value},b6 S μ H a x→b6 S μ H b y→b6 S μ H (a++b) (x++y)
 | [],_,_,_,h,k=>by simp only[b6] at h;subst h;simpa using k
 | _::_,_,_,_,h,k=>by
  simp only[b6,A1] at h ⊢;obtain⟨v,vs',rfl,h1,h2⟩:=h;exact⟨v,vs'++_,rfl,h1,h2.append k⟩
theorem b6.take {S:Sto}{μ:Mu}{H:dD}:∀{a:List R}{x:List Value}(n:Nat),b6 S μ H a x→b6 S μ H (a.take n) (x.take n)
 | _,_,0,_=>by simp[b6]
 | [],_,n+1,h=>by simp only[b6] at h;subst h;simp[b6]
 | _::_,_,n+1,h=>by
  simp only[b6,Bj] at h ⊢;obtain⟨v,vs',rfl,h1,h2⟩:=h;exact⟨v,vs'.take n,by simp,h1,h2.take n⟩
theorem b6.drop {S:Sto}{μ:Mu}{H:dD}:∀{a:List R}{x:List Value}(n:Nat),b6 S μ H a x→b6 S μ H (a.drop n) (x.drop n)
 | _,_,0,h=>by simpa using h
 | [],_,n+1,h=>by simp only[b6] at h;subst h;simp[b6]
 | _::_,_,n+1,h=>by
  simp only[b6,C6] at h ⊢;obtain⟨v,vs',rfl,h1,h2⟩:=h;simpa using h2.drop n
theorem dH.toR {S:Sto}{μ:Mu}{H:dD}:∀{c:List C}{v:List Value},dH S c v→b6 S μ H (c.map R.c) v
 | [],_,k=>by simp only[dH] at k;subst k;simp[b6]
 | c::cs,_,k=>by
  simp only[dH] at k;obtain⟨v,vs',rfl,h1,h2⟩:=k;simp only[At,b6];exact⟨v,vs',rfl,by simpa [b9] using h1,h2.toR⟩
def jV:List R→Option (List C)
 | []=>some []
 | .c x::l=>match jV l with | some l'=>some (x::l') | none=>none
 | _::_=>none
theorem pC:∀{rs:List R}{l:List C},jV rs=some l→rs=l.map R.c
 | [],l,h=>by simp[jV] at h;subst h;rfl
 | .c x::rs,l,h=>by
  simp only[jV] at h;split at h
  ·rename_i l' hl;cases h;simp[pC hl]
  ·cases h
 | .hs ..::_,_,h=>by simp[jV] at h
 | .tl ..::_,_,h=>by simp[jV] at h
 | .vp ..::_,_,h=>by simp[jV] at h
 | .ep ..::_,_,h=>by simp[jV] at h
 | .mr ..::_,_,h=>by simp[jV] at h
 | .clo ..::_,_,h=>by simp[jV] at h
 | .mth ..::_,_,h=>by simp[jV] at h
 | .yl ..::_,_,h=>by simp[jV] at h
 | .ra ..::_,_,h=>by simp[jV] at h
 | .rp ..::_,_,h=>by simp[jV] at h
 | .ras ..::_,_,h=>by simp[jV] at h
 | .pas ..::_,_,h=>by simp[jV] at h
theorem b6.pure {S:Sto}{μ:Mu}{H:dD}:∀{l:List C}{v:List Value},b6 S μ H (l.map R.c) v→dH S l v
 | [],_,k=>by simp only[Co,b6] at k;subst k;simp[dH]
 | c::cs,_,k=>by
  simp only[At,b6] at k;obtain⟨v,vs',rfl,h1,h2⟩:=k;simp only[dH];exact⟨v,vs',rfl,by simpa [b9] using h1,h2.pure⟩
def a10 (rs:List R):V:=match jV rs with | some l=>.pa l | none=>.ma rs
theorem aLg {S:Sto}{μ:Mu}{H:dD}{rs:List R}{vs:List Value}(h:b6 S μ H rs vs):aY S μ H (a10 rs) (.agg ⟨vs⟩):=by
 unfold a10;split
 ·rename_i l hl;rw[pC hl] at h;simp only[aY];exact⟨vs,rfl,h.pure⟩
 ·simp only[aY];exact⟨vs,rfl,h⟩
def j0:V→Option (List R)
 | .one r=>some [r]
 | .pa l=>some (l.map R.c)
 | .ma l=>some l
 | .tup _=>none
theorem Rep.one {S:Sto}:∀{c:C}{v:Value},Rep S c v→v.cells= #[v]∧v.oneCell'=true:=by
 intro c v h;cases c<;>simp only[Rep] at h
 case zv k=>subst h;unfold aYn;split<;>exact⟨rfl,rfl⟩
 case sl=>obtain⟨a,len,cap,rfl,_⟩:=h;exact⟨rfl,rfl⟩
 case sg=>obtain⟨a,len,cap,rfl,_⟩:=h;exact⟨rfl,rfl⟩
 case sn=>obtain⟨b,o,sp,len,cap,rfl,_⟩:=h;exact⟨rfl,rfl⟩
 case pt=>obtain⟨b,o,rfl,_⟩:=h;exact⟨rfl,rfl⟩
 case mp=>obtain⟨b,es,clk,rfl,_⟩:=h;exact⟨rfl,rfl⟩
 case clo=>obtain⟨vs,rfl,_⟩:=h;exact⟨rfl,rfl⟩
 case any=>exact h
 all_goals (subst h;exact⟨rfl,rfl⟩)
theorem b9.one {S:Sto}{μ:Mu}{H:dD}:∀{r:R}{v:Value},b9 S μ H r v→v.cells= #[v]∧v.oneCell'=true:=by
 intro r v h;cases r<;>simp only[b9] at h
 case c x=>exact h.one
 case hs=>obtain⟨⟨a,l,c,rfl⟩,_⟩:=h;exact⟨rfl,rfl⟩
 case tl=>obtain⟨⟨a,l,c,rfl⟩,_⟩:=h;exact⟨rfl,rfl⟩
 case vp=>obtain⟨t,cells,b,c,_,_,rfl⟩:=h;exact⟨rfl,rfl⟩
 case ep=>obtain⟨⟨a,rfl⟩,_⟩:=h;exact⟨rfl,rfl⟩
 case mr=>obtain⟨agg,ents,b,c,_,_,rfl⟩:=h;exact⟨rfl,rfl⟩
 case clo=>obtain⟨vs,rfl,_⟩:=h;exact⟨rfl,rfl⟩
 case mth=>obtain⟨u,rfl,_⟩:=h;exact⟨rfl,rfl⟩
 case yl=>obtain⟨st,j,i,e,b,c,_,_,rfl⟩:=h;exact⟨rfl,rfl⟩
 case ra=>obtain⟨⟨a,l,c,rfl⟩,_⟩:=h;exact⟨rfl,rfl⟩
 case rp=>obtain⟨⟨a,rfl⟩,_⟩:=h;exact⟨rfl,rfl⟩
 case ras=>obtain⟨a,cap,rfl,_⟩:=h;exact⟨rfl,rfl⟩
 case pas=>obtain⟨b,o,rfl,_⟩:=h;exact⟨rfl,rfl⟩
theorem b6.one {S:Sto}{μ:Mu}{H:dD}:∀{rs:List R}{vs:List Value},b6 S μ H rs vs→∀v∈vs,v.oneCell'=true
 | [],_,h=>by simp only[b6] at h;subst h;simp
 | _::_,_,h=>by
  simp only[b6] at h;obtain⟨v,vs',rfl,h1,h2⟩:=h;intro u hu;rcases Ac.1 hu with rfl | hu
  ·exact h1.one.2
  ·exact h2.one u hu
theorem fC {S:Sto}{μ:Mu}{H:dD}{x:V}{v:Value}{rs:List R}(h:aY S μ H x v) (hc:j0 x=some rs):b6 S μ H rs v.cells.toList:=by
 cases x<;>simp only[j0] at hc
 case one r=>
  cases hc;simp only[aY] at h;rw[h.one.1];simp only[b6];exact⟨v,[],rfl,h,rfl⟩
 case pa l=>
  cases hc;simp only[aY] at h;obtain⟨vs,rfl,h⟩:=h;exact h.toR
 case ma l=>
  cases hc;simp only[aY] at h;obtain⟨vs,rfl,h⟩:=h;exact h
 case tup=>cases hc
end Go.AM
