/-
  Texts Am0 to Am5 in one.
-/
import Derived.Lib.ItoaNum
import Derived.WalkKit
import Derived.Below
import Derived.OrdersIn
namespace Go.AM
open Go
theorem ψ:∀{p:Prop} [Decidable p],¬p→Decidable.decide p=Bool.false:=@decide_eq_false
theorem φ:∀{p:Prop} [Decidable p],p→Decidable.decide p=Bool.true:=@decide_eq_true
theorem θ.{u}:∀{α:Type u}{as bs:List α},(as++bs).length=as.length+bs.length:=@List.length_append
theorem ξ.{u}:∀{c:Prop}{_:Decidable c},¬c→∀{α:Sort u}{t e:α},(if c then t else e)=e:=@if_neg
theorem ζ.{u}:∀{c:Prop}{_:Decidable c},c→∀{α:Sort u}{t e:α},(if c then t else e)=t:=@if_pos
theorem η.{q,r}:∀{α:Type q}{β:Type r}{as:List α}(f:α→β),(List.map f as).length=as.length:=@List.length_map
theorem κ:∀{p:Prop} [Decidable p],Decidable.decide p=Bool.true→p:=@of_decide_eq_true
theorem χ.{u}:∀{α:Type u}{a:α}{as:List α},(a::as).length=as.length+1:=@List.length_cons
theorem ω:Bool.false≠Bool.true:=@Bool.false_ne_true
theorem δ:∀{α β:Type}(a:α) (w:Go.World) (f:α→Go.World→Go.Result β),(Go.Result.ok a w).andThen f=f a w:=@Go.Result.andThen_ok
theorem ε:∀(n:Nat),0≤n:=@Nat.zero_le
theorem π:∀(a b:Bool),((a&&b)=Bool.true)=(a=Bool.true∧b=Bool.true):=@Bool.and_eq_true
theorem τ.{q}:∀{α:Type q}{l:List α}{i:Nat}{a:α},l[i]?=Option.some a→a∈l:=@List.mem_of_getElem?
theorem Aa:∀{n m:Nat},n.beq m=Bool.true→n=m:=@Nat.eq_of_beq_eq_true
theorem Ab:∀{α β:Type}(P:Go.Program) (w:Go.World) (x:Go.Sem α) (f:α→Go.Sem β),Go.Sem.run P (x>>=f) w=(Go.Sem.run P x w).andThen fun a w'=>Go.Sem.run P (f a) w':=@Go.Sem.run_bind
theorem Ac:∀{α:Type}(P:Go.Program) (w:Go.World) (a:α),Go.Sem.run P (Pure.pure a) w=Go.Result.ok a w:=@Go.Sem.run_pure
theorem Ad.{u}:∀{α:Type u}{a:α}{as bs:List α},a::as++bs=a::(as++bs):=@List.cons_append
theorem Ae.{u}:∀{α:Type u}(as bs cs:List α),as++bs++cs=as++(bs++cs):=@List.append_assoc
theorem Af:∀{p:Prop} [Decidable p],Decidable.decide p=Bool.false→¬p:=@of_decide_eq_false
theorem Ag.{r,u}:∀{α:Type r}{b:α}{q:Type u}{x:Option q}{f:q→Option α},x.bind f=Option.some b↔∃a,x=Option.some a∧f a=Option.some b:=@Option.bind_eq_some_iff
theorem Ah.{q}:∀{α:Type q}{xs:Array α}{i:Nat}{d:α},xs.getD i d=xs[i]?.getD d:=@Array.getD_eq_getD_getElem?
theorem Ai.{q}:∀{α:Type q}{i:Nat}{a:α}{l:List α},l[i]?=Option.some a↔∃h,l[i]=a:=@List.getElem?_eq_some_iff
theorem Aj.{q}:∀{α:Type q}{p:α→Prop}{a:α}{l:List α},(∀(x:α),x∈a::l→p x)↔p a∧∀(x:α),x∈l→p x:=@List.forall_mem_cons
theorem Ak.{u}:∀{α:Type u}(as:List α),[]++as=as:=@List.nil_append
theorem Al.{q,r}:∀{α:Type q}{β:Type r}{f:α→β}{u y:List α},List.map f (u++y)=List.map f u++List.map f y:=@List.map_append
theorem Am:∀{P:Go.Program}{t:Go.TypeId}{d:Go.TypeDesc},P.underlying t=Option.some d→∀(w:Go.World),Go.Sem.run P (Go.underlying t) w=Go.Result.ok d w:=@Go.run_underlying
theorem An.{q}:∀{α:Type q}{i:Nat}{l:List α},(List.take i l).length=Min.min i l.length:=@List.length_take
theorem Ao.{q}:∀{α:Type q}{l:List α}{i j:Nat},(List.take i l)[j]?=if j<i then l[j]? else Option.none:=@List.getElem?_take
theorem Ap.{q}:∀{α:Type q}{xs:List α}{i j:Nat},(List.drop i xs)[j]?=xs[i+j]?:=@List.getElem?_drop
theorem Aq:∀{n m:Nat},n.ble m=Bool.true→n≤m:=@Nat.le_of_ble_eq_true
theorem Ar.{u,v}:∀{α:Type u}{β:Type v}{f:α→β}{a:α}{l:List α},List.map f (a::l)=f a::List.map f l:=@List.map_cons
theorem As:(Bool.false=Bool.true)=False:=@Bool.false_eq_true
theorem Au.{q}:∀{α:Type q}{b:α}{l:List α}{a:α},a∈b::l↔a=b∨a∈l:=@List.mem_cons
theorem Av.{q}:∀{α:Type q}{p:α→Bool}{l:List α},l.all p=Bool.true↔∀(x:α),x∈l→p x=Bool.true:=@List.all_eq_true
theorem Aw.{q}:∀{α:Type q}{l:List α},l.length=0→l=[]:=@List.eq_nil_of_length_eq_zero
theorem Ax.{q}:∀{α:Type q}{l:List α},List.take l.length l=l:=@List.take_length
theorem Ay.{q}:∀{α:Type q}{i:Nat}{l:List α}(h:i<l.length),List.drop i l=l[i]::List.drop (i+1) l:=@List.drop_eq_getElem_cons
theorem Az.{q}:∀{α:Type q}{i:Nat}{l:List α},l.length≤i→List.take i l=l:=@List.take_of_length_le
theorem A0:∀{n m:Nat}(k:Nat),n≤m→n*k≤m*k:=@Nat.mul_le_mul_right
theorem A1.{q}:∀{α:Type q}(y:α) {a:α}{l:List α},a∈l→a∈y::l:=@List.mem_cons_of_mem
theorem A2.{q}:∀{α:Type q}{a b:α},a∈[b]↔a=b:=@List.mem_singleton
theorem A3.{u}:∀{α:Type u}(as:List α),as++[]=as:=@List.append_nil
theorem A4.{q}:∀{α:Type q}{xs:Array α},xs.toList.length=xs.size:=@Array.length_toList
theorem A5.{u}:∀{α:Type u}{a:α}{as:List α}{i:Nat},List.take (i+1) (a::as)=a::List.take i as:=@List.take_succ_cons
theorem A6.{q}:∀{α:Type q}{n:Nat}{v:α}{i:Nat},(Array.replicate n v)[i]?=if i<n then Option.some v else Option.none:=@Array.getElem?_replicate
theorem A7:∀{n m k:Nat},n<m→m≤k→n<k:=@Nat.lt_of_lt_of_le
theorem A8.{r}:∀{α:Type r}{q u:List α}{i:Nat},q.length≤i→(q++u)[i]?=u[i-q.length]?:=@List.getElem?_append_right
theorem A9:∀(b:Bool),(Bool.false || b)=b:=@Bool.false_or
theorem Ba.{q}:∀{α:Type q}{a:α}{l:List α},a∈a::l:=@List.mem_cons_self
theorem Bb.{q}:∀{α:Type q}{xs:Array α}{i j:Nat}{a:α},(xs.setIfInBounds i a)[j]?=if i=j then if i<xs.size then Option.some a else Option.none else xs[j]?:=@Array.getElem?_setIfInBounds
theorem Bc.{r}:∀{α:Type r}{q u:List α}{i:Nat},i<q.length→(q++u)[i]?=q[i]?:=@List.getElem?_append_left
theorem Be:∀(n m k:Nat),(n+m)*k=n*k+m*k:=@Nat.add_mul
theorem Bf.{q}:∀{α:Type q}{l:List α}{i:Nat},List.take (i+1) l=List.take i l++l[i]?.toList:=@List.take_add_one
theorem Bg.{q}:∀{α:Type q}{i:Nat}{l:List α},(List.drop i l).length=l.length-i:=@List.length_drop
theorem Bh.{q}:∀{α:Type q}{l:List α}{L:List (List α)},(l::L).flatten=l++L.flatten:=@List.flatten_cons
theorem Bi.{q}:∀{α:Type q}{x:α}{xs:List α}{p:α→Bool},List.dropWhile p (x::xs)=if p x=Bool.true then List.dropWhile p xs else x::xs:=@List.dropWhile_cons
theorem Bj:∀(n:Nat),0+n=n:=@Nat.zero_add
theorem Bk.{q}:∀{α:Type q}{a:α}{s t:List α},a∈s++t↔a∈s∨a∈t:=@List.mem_append
theorem Bl.{u}:∀{α:Type u}{a:α},[a].length=1:=@List.length_singleton
theorem Bm:∀(b:Bool),((!b)=Bool.true)=(b=Bool.false):=@Bool.not_eq_true'
theorem Bn.{u}:∀{α:Type u}{xs:Array α}(v:α),(xs.push v).size=xs.size+1:=@Array.size_push
theorem Bo.{r}:∀{α:Type r}{q u:List α}{i:Nat},i≤q.length→List.drop i (q++u)=List.drop i q++u:=@List.drop_append_of_le_length
theorem Bp.{q}:∀{α:Sort q}(a b:α),(bif Bool.false then a else b)=b:=@cond_false
theorem Bq.{q}:∀{α:Sort q}{_:Decidable False}(t e:α),(if False then t else e)=e:=@if_false
theorem Br.{u}:∀{α:Type u}{a:α}{as:List α},(a::as).length=as.length+1:=@List.length_cons
theorem Bt:∀(n:Nat),n<n.succ:=@Nat.lt_succ_self
theorem Bu:∀{F:Go.Fence}{n:Nat}{P:Go.Program}{ops:Array Go.Oper}{Q:Go.Exit→Go.Act→Go.World→Prop}(i:Nat) (rest:List Nat) (a:Go.Act) (w:Go.World),Go.wpOpsIn F n P ops Q (i::rest) a w=Go.wpOpIn F n P ops Q i (Go.wpOpsIn F n P ops Q rest) a w:=@Go.wpOpsIn_cons
theorem Bv:∀{a b:Bool},a=b↔(a=Bool.true↔b=Bool.true):=@Bool.eq_iff_iff
theorem Bw.{q}:∀{α:Sort q}(a b:α),(bif Bool.true then a else b)=a:=@cond_true
theorem Bx:∀(w:Go.World) (o:Go.Obj),(w.alloc o).heap[w.heap.size]?=Option.some o:=@Go.heap_alloc_new
theorem By.{q,r}:∀{α:Type q}{β:Type r}{f:α→β}{l:List α}{i:Nat},(List.map f l)[i]?=Option.map f l[i]?:=@List.getElem?_map
theorem Bz:∀{n m k:Nat},n≤m→m<k→n<k:=@Nat.lt_of_le_of_lt
theorem B1.{q}:∀{α:Type q}{xs r:Array α}{i:Nat},i<xs.size→(xs++r)[i]?=xs[i]?:=@Array.getElem?_append_left
theorem B2:∀(n:Int),-9223372036854775808≤n∧n≤9223372036854775807→Go.IntKind.i64.wrap n=n:=@Go.IntWalk.i64_in
theorem B3:∀(b:Bool),(Bool.false&&b)=Bool.false:=@Bool.false_and
theorem B4:∀(b:Bool),(Bool.true || b)=Bool.true:=@Bool.true_or
theorem B5.{u}:∀{α:Type u}{l:List α},List.drop 0 l=l:=@List.drop_zero
theorem B6.{q,r}:∀{α:Type q}{β:Type r}(a:α) (f:α→β),Option.map f (Option.some a)=Option.some (f a):=@Option.map_some
theorem B7.{r}:∀{α:Type r}{q u:List α}{i:Nat},i≤q.length→List.take i (q++u)=List.take i q:=@List.take_append_of_le_length
theorem B8:∀(b:Bool),(Bool.true&&b)=b:=@Bool.true_and
theorem B9.{q}:∀{α:Type q}{x:α}{xs:List α}{p:α→Bool},List.filter p (x::xs)=if p x=Bool.true then x::List.filter p xs else List.filter p xs:=@List.filter_cons
theorem Ca.{r}:∀{α:Type r}{q u:List α}{i:Nat},(q++u)[i]?=if i<q.length then q[i]? else u[i-q.length]?:=@List.getElem?_append
theorem Cb:∀{x y:Bool},(x || y)=Bool.false↔x=Bool.false∧y=Bool.false:=@Bool.or_eq_false_iff
theorem Cc.{q}:∀{α:Type q}{l:List α},List.drop l.length l=[]:=@List.drop_length
theorem Cd.{u}:∀{α:Type u} [Add α] [Zero α] {a:α}{l:List α},(a::l).sum=a+l.sum:=@List.sum_cons
theorem Ce.{q}:∀{α:Type q}{r u:List α},(∀(i:Nat),r[i]?=u[i]?)→r=u:=@List.ext_getElem?
theorem Cf.{q}:∀{α:Type q}{i:Nat}{a:α}{l:List α},a∈List.take i l→a∈l:=@List.mem_of_mem_take
theorem Cg:∀(n:Nat),n-n=0:=@Nat.sub_self
theorem Ch.{u,v}:∀{α:Type u}{β:Type v}{f:α→β},List.map f []=[]:=@List.map_nil
theorem Cj.{q,r}:∀{α:Type q}{β:Type r}{f:α→List β}{b:β}{l:List α},b∈List.flatMap f l↔∃a,a∈l∧b∈f a:=@List.mem_flatMap
theorem Ck.{q,r}:∀{α:Type q}{β:Type r}(a:α) (f:α→Option β),(Option.some a).bind f=f a:=@Option.bind_some
theorem Cm.{q}:∀{α:Type q}{a b:α},(Option.some a).getD b=a:=@Option.getD_some
theorem Co:∀(b:Bool),(¬b=Bool.true)=(b=Bool.false):=@Bool.not_eq_true
theorem Cp.{q}:∀{α:Type q}{i:Nat}{b:α}{xs:Array α},xs[i]?=Option.some b↔∃h,xs[i]=b:=@Array.getElem?_eq_some_iff
theorem Cq.{u}:∀{α:Type u}{xs:List α}{i:Nat},xs.toArray[i]?=xs[i]?:=@List.getElem?_toArray
theorem Cr.{q}:∀{α:Type q}{l:List α}{i:Nat}{a:α},l.set i a=if i<l.length then List.take i l++a::List.drop (i+1) l else l:=@List.set_eq_take_append_cons_drop
theorem Cs.{q}:∀{α:Type q}{xs:List α}{p:α→Bool}{i:Nat},List.findIdx? p xs=Option.some i↔∃h,p xs[i]=Bool.true∧∀(j:Nat) (r:j<i),¬p xs[j]=Bool.true:=@List.findIdx?_eq_some_iff_getElem
theorem Ct:∀(a b:Bool),((a || b)=Bool.true)=(a=Bool.true∨b=Bool.true):=@Bool.or_eq_true
theorem Cu:∀(n:Nat),n+0=n:=@Nat.add_zero
theorem Cv.{q}:∀{α:Sort q}{_:Decidable True}(t e:α),(if True then t else e)=t:=@if_true
theorem Cw.{u,v}:∀{α:Type u}{β:Type v}{x:α}{xs:List α}{f:α→List β},List.flatMap f (x::xs)=f x++List.flatMap f xs:=@List.flatMap_cons
theorem Cx.{u}:∀{α:Type u}{as:List α}{i:Nat}{a:α},(as.set i a).length=as.length:=@List.length_set
theorem Cy.{q}:∀{α:Type q}{l:List α}{i:Nat}(h:i<l.length),l[i]?=Option.some l[i]:=@List.getElem?_eq_getElem
theorem Cz.{q,r}:∀{α:Type q}{β:Type r}{b:β}{f:α→β}{l:List α},b∈List.map f l↔∃a,a∈l∧f a=b:=@List.mem_map
theorem C0.{u}:∀{α:Type u}{a:α}{l:List α}{i:Nat},List.drop (i+1) (a::l)=List.drop i l:=@List.drop_succ_cons
theorem C1.{q}:∀{α:Type q}{i j:Nat}{l:List α},List.drop i (List.drop j l)=List.drop (j+i) l:=@List.drop_drop
theorem C2.{q}:∀{α:Type q}{L₁ L₂:List (List α)},(L₁++L₂).flatten=L₁.flatten++L₂.flatten:=@List.flatten_append
theorem C3:∀{p:Prop}{_:Decidable p},Decidable.decide p=Bool.false↔¬p:=@decide_eq_false_iff_not
theorem C5.{u}:∀{α:Type u}{n:Nat}{a:α},(List.replicate n a).length=n:=@List.length_replicate
theorem C6.{q}:∀{α:Type q}{l:List α},0<l.length↔l≠[]:=@List.length_pos_iff
theorem C7.{q}:∀{α:Type q}{p:α→Bool}{a:α}{l:List α},List.takeWhile p (a::l)=if p a=Bool.true then a::List.takeWhile p l else []:=@List.takeWhile_cons
theorem C8.{q}:∀{α:Type q}(p:α→Bool) (l:List α),(List.filter p l).length≤l.length:=@List.length_filter_le
theorem C9:∀(n m:Nat),n≤m+n:=@Nat.le_add_left
theorem Da:∀{a b:Nat},a≤b→Min.min a b=a:=@Nat.min_eq_left
theorem Db:∀{F:Go.Fence}{n:Nat}{P:Go.Program}{Q:Go.Exit→Go.Act→Go.World→Prop}{a:Go.Act}{w:Go.World}{x y:Go.Code},Go.Code.wpIn F n P x (Go.Exit.then (Go.Code.wpIn F n P y Q) Q) a w→Go.Code.wpIn F n P (x.seq y) Q a w:=@Go.wpIn_seq
theorem Dc:∀{n m:Nat},n<m→n≤m:=@Nat.le_of_lt
theorem Dd.{q}:∀{α:Type q}(a:α) (l:List α),a::l≠[]:=@List.cons_ne_nil
end Go.AM
open List (all_eq_true cons_append drop_succ_cons eq_nil_of_length_eq_zero filter_cons flatten_cons length_cons length_nil map_cons map_nil mem_cons mem_filter mem_flatMap mem_map mem_range nodup_cons take_left' take_succ_cons)
open Nat (add_assoc add_mul add_zero eq_of_beq_eq_true le_refl le_trans lt_of_lt_of_le sub_zero zero_add zero_le)
namespace Go.AM
open Go
def aLf:Option Nat:=some 1
def aYl:Array Value:=(Lib.pow10Tab.map fun z=>Value.int .u64 z).toArray
def aOm (w:World):Prop:=∀g,aLf=some g→g<w.heap.size∧∃t fr,w.heap[g]?=some (.cells aYl t fr)
def a0i (w:World) (F:Nat→Prop):Prop:=aOm w∧∀g,aLf=some g→¬F g
inductive C where
 | int (k:IntKind) (n:Int)
 | bool (b:Bool)
 | str (s:List UInt8)
 | nl
 | sl (es:Nat) (l:List (List C))
 | sn (es:Nat) (l:List (List C))
 | np
 | pt (l:List C)
 | mp (agg:Bool) (l:List (List C))
 | zv (k:Nat)
 | any
 | fn (f:FuncId)
 | clo (f:FuncId) (l:List C)
 | sg (te es:Nat) (l:List (List C))
 deriving Inhabited
inductive MK where
 | all (es:Array MapEntry) (clk:Nat)
 | part (ks:List UInt8→Prop)
 | top (te lo hi:Nat)
def aRj (k:List UInt8) (es:Array MapEntry):Prop:=∃e∈es.toList,e.key=.string ⟨⟨k⟩⟩
def MK.has:MK→List UInt8→Prop
 | .all es _,k=>aRj k es
 | .part ks,k=>ks k
 | .top _ _ _,_=>False
def MK.le:MK→MK→Prop
 | .all es clk,m=>m=.all es clk
 | .part ks,m=>∀k,ks k→m.has k
 | .top te lo hi,m=>m=.top te lo hi
theorem MK.le_refl (m:MK):m.le m:=by cases m<;>simp[MK.le,MK.has]
theorem MK.le_has {m q:MK}(h:m.le q) {k:List UInt8}(e:m.has k):q.has k:=by
 cases m with
 | all es clk=>simp only[MK.le] at h;subst h;exact e
 | part ks=>exact h k e
 | top te lo hi=>cases e
theorem MK.le_trans {m r q:MK}(h:m.le r) (k:r.le q):m.le q:=by
 cases m with
 | all es clk=>simp only[MK.le] at h;subst h;exact k
 | part ks=>exact fun s e=>MK.le_has k (h s e)
 | top te lo hi=>simp only[MK.le] at h;subst h;exact k
def MK.holds:MK→Option Obj→Prop
 | .all es clk,o=>o=some (.map es clk)
 | .part ks,o=>∃es clk,o=some (.map es clk)∧∀k,ks k→aRj k es
 | .top te _ hi,o=>∃vs,o=some (.cells ⟨vs⟩ te (0,0))∧hi≤vs.length
theorem MK.holds_some {m:MK}{o:Option Obj}(h:m.holds o):∃x,o=some x:=by
 cases m with
 | all es clk=>exact⟨_,h⟩
 | part ks=>obtain⟨es,clk,h1,_⟩:=h;exact⟨_,h1⟩
 | top te lo hi=>obtain⟨vs,h1,_⟩:=h;exact⟨_,h1⟩
structure Sto where
 cell:Nat→Nat→Option Value
 mapo:Nat→Option MK
def Sto.le (S S':Sto):Prop:=(∀b o v,S.cell b o=some v→S'.cell b o=some v)∧(∀b m,S.mapo b=some m→∃m',S'.mapo b=some m'∧m.le m')
theorem Sto.le_refl (S:Sto):S.le S:=⟨fun _ _ _ h=>h,fun _ m h=>⟨m,h,m.le_refl⟩⟩
theorem Sto.le_trans {S S' S'':Sto}(h:S.le S') (k:S'.le S''):S.le S'':=⟨fun b o v e=>k.1 b o v (h.1 b o v e),fun b m e=>by
 obtain⟨r,h1,h2⟩:=h.2 b m e;obtain⟨q,u,y⟩:=k.2 b r h1
 exact⟨q,u,MK.le_trans h2 y⟩⟩
theorem Sto.le_all {S S':Sto}(h:S.le S') {b:Nat}{es:Array MapEntry}{clk:Nat}(e:S.mapo b=some (.all es clk)):S'.mapo b=some (.all es clk):=by
 obtain⟨q,h1,h2⟩:=h.2 b _ e;simp only[MK.le] at h2;rw[h1,h2]
theorem Sto.le_top {S S':Sto}(h:S.le S') {b te lo hi:Nat}(e:S.mapo b=some (.top te lo hi)):S'.mapo b=some (.top te lo hi):=by
 obtain⟨q,h1,h2⟩:=h.2 b _ e;simp only[MK.le] at h2;rw[h1,h2]
def Sto.free (S:Sto):Prop:=∀b te lo hi,S.mapo b=some (.top te lo hi)→∀o,lo≤o→S.cell b o=none
def Sto.noTop (S:Sto):Prop:=∀b m,S.mapo b=some m→∃es clk,m=.all es clk
def aTg:Nat→Value
 | 0=>.map none
 | 1=>.nilFunc
 | _=>.nilIface
def eL (S:Sto) (b o:Nat) (vs:List Value):Prop:=∀i v,vs[i]?=some v→S.cell b (o+i)=some v
theorem eL.mono {S S':Sto}(h:S.le S') {b o:Nat}{vs:List Value}(k:eL S b o vs):eL S' b o vs:=fun i v e=>h.1 _ _ _ (k i v e)
mutual
def Rep (S:Sto):C→Value→Prop
 | .int k n,v=>v=.int k n
 | .bool b,v=>v=.bool b
 | .str s,v=>v=.string ⟨⟨s⟩⟩
 | .nl,v=>v=.slice none 0 0
 | .sl es l,v=>∃a len cap,v=.slice a len cap∧len=l.length∧len≤cap∧cap≤maxLen∧(a=none→len=0∧cap=0)∧
   (∀ad,a=some ad→cap≠0→ad.spot=none)∧∃b o,(∀ad,a=some ad→ad.block=b∧ad.off=o)∧bG S es b l o
 | .sn es l,v=>∃b o sp len cap,v=.slice (some ⟨b,o,sp⟩) len cap∧len=l.length∧len≤cap∧cap≤maxLen∧(cap≠0→sp=none)∧bG S es b l o
 | .np,v=>v=.pointer none
 | .pt l,v=>∃b o,v=.pointer (some ⟨b,o,none⟩)∧∃vs,c0 S l vs∧eL S b o vs
 | .mp agg l,v=>∃b es clk,v=.map (some b)∧S.mapo b=some (.all es clk)∧(bE S agg l es.toList∨aK2 S agg l es)
 | .zv k,v=>v=aTg k
 | .any,v=>v.cells= #[v]∧v.oneCell'=true
 | .fn f,v=>v=.func (.func f) #[] ⟨[]⟩
 | .clo f l,v=>∃vs,v=.func (.func f) #[] ⟨vs⟩∧c0 S l vs
 | .sg te es l,v=>∃a len cap,v=.slice a len cap∧len=l.length∧len≤cap∧cap≤maxLen∧((a=none∧len=0∧cap=0)∨∃b o,a=some ⟨b,o,none⟩∧bG S es b l o∧S.mapo b=some (.top te (o+l.length*es) (o+cap*es)))
def c0 (S:Sto):List C→List Value→Prop
 | [],vs=>vs=[]
 | c::cs,vs=>∃v vs',vs=v::vs'∧Rep S c v∧c0 S cs vs'
def bG (S:Sto) (es b:Nat):List (List C)→Nat→Prop
 | [],_=>True
 | r::rs,o=>r.length=es∧(∃vs,c0 S r vs∧eL S b o vs)∧bG S es b rs (o+es)
def bE (S:Sto) (agg:Bool):List (List C)→List MapEntry→Prop
 | [],es=>es=[]
 | r::rs,es=>∃e es',es=e::es'∧(∃vs,c0 S r (e.key::vs)∧(e.val=if agg then .agg ⟨vs⟩ else vs.headD undef)∧(agg=false→vs.length=1))∧bE S agg rs es'
def lV (S:Sto) (agg:Bool):List (List C)→MapEntry→Prop
 | [],_=>False
 | r::rs,e=>(∃vs,c0 S r (e.key::vs)∧(e.val=if agg then .agg ⟨vs⟩ else vs.headD undef)∧(agg=false→vs.length=1))∨lV S agg rs e
def aK2 (S:Sto) (agg:Bool):List (List C)→Array MapEntry→Prop
 | [],_=>False
 | r::rs,es=>r=[]∧(∀e∈es.toList,lV S agg rs e)∧∀k cs,(.str k::cs)∈rs→aRj k es
end
mutual
theorem Rep.mono {S S':Sto}(h:S.le S'):∀(c:C) (v:Value),Rep S c v→Rep S' c v
 | .int _ _,_,k=>by simpa [Rep] using k
 | .bool _,_,k=>by simpa [Rep] using k
 | .str _,_,k=>by simpa [Rep] using k
 | .nl,_,k=>by simpa [Rep] using k
 | .np,_,k=>by simpa [Rep] using k
 | .zv _,_,k=>by simpa [Rep] using k
 | .any,_,k=>by simp only[Rep] at k ⊢;exact k
 | .fn _,_,k=>by simpa [Rep] using k
 | .clo _ l,v,k=>by
  simp only[Rep] at k ⊢;obtain⟨vs,h1,h2⟩:=k;exact⟨vs,h1,c0.mono h l vs h2⟩
 | .sg te es l,v,k=>by
  simp only[Rep] at k ⊢;obtain⟨a,len,cap,h1,h2,q,u,y⟩:=k;refine⟨a,len,cap,h1,h2,q,u,y.imp id fun⟨b,o,B,I,J⟩=>⟨b,o,B,bG.mono h es b l o I,Sto.le_top h J⟩⟩
 | .sl es l,v,k=>by
  simp only[Rep] at k ⊢;obtain⟨a,len,cap,h1,h2,q,u,y,B,b,o,I,J⟩:=k;exact⟨a,len,cap,h1,h2,q,u,y,B,b,o,I,bG.mono h es b l o J⟩
 | .sn es l,v,k=>by
  simp only[Rep] at k ⊢;obtain⟨b,o,sp,len,cap,h1,h2,q,u,y,B⟩:=k;exact⟨b,o,sp,len,cap,h1,h2,q,u,y,bG.mono h es b l o B⟩
 | .pt l,v,k=>by
  simp only[Rep] at k ⊢;obtain⟨b,o,h1,vs,h2,q⟩:=k;exact⟨b,o,h1,vs,c0.mono h l vs h2,q.mono h⟩
 | .mp agg l,v,k=>by
  simp only[Rep] at k ⊢;obtain⟨b,es,clk,h1,h2,q⟩:=k;exact⟨b,es,clk,h1,Sto.le_all h h2,q.elim (fun q=>.inl (bE.mono h agg l es.toList q)) fun q=>.inr (aK2.mono h agg l es q)⟩
theorem c0.mono {S S':Sto}(h:S.le S'):∀(c:List C) (v:List Value),c0 S c v→c0 S' c v
 | [],_,k=>by simpa [c0] using k
 | c::cs,vs,k=>by
  simp only[c0] at k ⊢;obtain⟨v,vs',h1,h2,q⟩:=k;exact⟨v,vs',h1,Rep.mono h c v h2,c0.mono h cs vs' q⟩
theorem bG.mono {S S':Sto}(h:S.le S') (es b:Nat):∀(l:List (List C)) (o:Nat),bG S es b l o→bG S' es b l o
 | [],_,_=>by simp[bG]
 | r::rs,o,k=>by
  simp only[bG] at k ⊢;obtain⟨h1,⟨vs,h2,q⟩,u⟩:=k;exact⟨h1,⟨vs,c0.mono h r vs h2,q.mono h⟩,bG.mono h es b rs (o+es) u⟩
theorem bE.mono {S S':Sto}(h:S.le S') (agg:Bool):∀(l:List (List C)) (es:List MapEntry),bE S agg l es→bE S' agg l es
 | [],_,k=>by simpa [bE] using k
 | r::rs,es,k=>by
  simp only[bE] at k ⊢;obtain⟨e,E,h1,⟨vs,h2,q⟩,u⟩:=k;exact⟨e,E,h1,⟨vs,c0.mono h r _ h2,q⟩,bE.mono h agg rs E u⟩
theorem lV.mono {S S':Sto}(h:S.le S') (agg:Bool):∀(l:List (List C)) (e:MapEntry),lV S agg l e→lV S' agg l e
 | [],_,k=>by simp only[lV] at k
 | r::rs,e,k=>by
  simp only[lV] at k ⊢;rcases k with⟨vs,h2,q⟩ | k
  ·exact .inl ⟨vs,c0.mono h r _ h2,q⟩
  ·exact .inr (lV.mono h agg rs e k)
theorem aK2.mono {S S':Sto}(h:S.le S') (agg:Bool):∀(l:List (List C)) (es:Array MapEntry),aK2 S agg l es→aK2 S' agg l es
 | [],_,k=>by simp only[aK2] at k
 | r::rs,es,k=>by
  simp only[aK2] at k ⊢;exact⟨k.1,fun e he=>lV.mono h agg rs e (k.2.1 e he),k.2.2⟩
end
theorem c0.length {S:Sto}:∀{c:List C}{v:List Value},c0 S c v→v.length=c.length
 | [],_,k=>by simp only[c0] at k;subst k;rfl
 | _::cs,_,k=>by
  simp only[c0] at k;obtain⟨v,vs',rfl,_,h⟩:=k;simp[c0.length h]
theorem c0.append {S:Sto}:∀{a:List C}{x:List Value}{b:List C}{y:List Value},c0 S a x→c0 S b y→c0 S (a++b) (x++y)
 | [],_,_,_,h,k=>by simp only[c0] at h;subst h;simpa using k
 | _::_,_,_,_,h,k=>by
  simp only[c0,Ad] at h ⊢;obtain⟨v,vs',rfl,h1,h2⟩:=h;exact⟨v,vs'++_,rfl,h1,h2.append k⟩
theorem c0.take {S:Sto}:∀{a:List C}{x:List Value}(n:Nat),c0 S a x→c0 S (a.take n) (x.take n)
 | _,_,0,_=>by simp[c0]
 | [],_,n+1,h=>by simp only[c0] at h;subst h;simp[c0]
 | _::_,_,n+1,h=>by
  simp only[c0,A5] at h ⊢;obtain⟨v,vs',rfl,h1,h2⟩:=h;exact⟨v,vs'.take n,by simp,h1,h2.take n⟩
theorem c0.drop {S:Sto}:∀{a:List C}{x:List Value}(n:Nat),c0 S a x→c0 S (a.drop n) (x.drop n)
 | _,_,0,h=>by simpa using h
 | [],_,n+1,h=>by simp only[c0] at h;subst h;simp[c0]
 | _::_,_,n+1,h=>by
  simp only[c0,C0] at h ⊢;obtain⟨v,vs',rfl,h1,h2⟩:=h;simpa using h2.drop n
theorem bG.get {S:Sto}{es b:Nat}:∀{l:List (List C)}{o:Nat},bG S es b l o→∀(i:Nat) (r:List C),l[i]?=some r→r.length=es∧∃vs,c0 S r vs∧eL S b (o+i*es) vs
 | [],_,_,i,r,h=>by simp at h
 | x::xs,o,k,i,r,h=>by
  simp only[bG] at k;obtain⟨h1,h2,q⟩:=k;cases i with
  | zero=>simp at h;subst h;simpa using ⟨h1,h2⟩
  | succ i=>
   simp at h;have:=q.get i r h;rw[show o+es+i*es=o+(i+1)*es by rw[Be];omega] at this;exact this
theorem bG.drop {S:Sto}{es b:Nat}:∀{l:List (List C)}{o:Nat}(n:Nat),bG S es b l o→bG S es b (l.drop n) (o+n*es)
 | _,_,0,h=>by simpa using h
 | [],_,n+1,_=>by simp[bG]
 | x::xs,o,n+1,h=>by
  simp only[bG,C0] at h ⊢;have:=h.2.2.drop n;rw[show o+es+n*es=o+(n+1)*es by rw[Be];omega] at this;exact this
theorem bG.take {S:Sto}{es b:Nat}:∀{l:List (List C)}{o:Nat}(n:Nat),bG S es b l o→bG S es b (l.take n) o
 | _,_,0,_=>by simp[bG]
 | [],_,n+1,_=>by simp[bG]
 | x::xs,o,n+1,h=>by
  simp only[bG,A5] at h ⊢;exact⟨h.1,h.2.1,h.2.2.take n⟩
theorem bG.of_flat {S:Sto}{es b:Nat}:∀{l:List (List C)}{o:Nat}{vs:List Value},(∀r∈l,r.length=es)→c0 S l.flatten vs→eL S b o vs→bG S es b l o
 | [],_,_,_,_,_=>by simp[bG]
 | r::rs,o,vs,hl,h,hc=>by
  have q:r.length=es:=hl r (by simp);simp only[bG,Bh] at h ⊢;have h1:=h.take r.length;have h2:=h.drop r.length;simp only[take_left',List.drop_left'] at h1 h2;refine⟨q,⟨_,h1,fun i v e=>?_⟩,bG.of_flat (fun x hx=>hl x (by simp[hx])) h2 fun i v e=>?_⟩
  ·rw[Ao] at e;split at e
   ·exact hc i v e
   ·cases e
  ·rw[Ap,q] at e;have:=hc (es+i) v e;rwa [←add_assoc] at this
inductive R where
 | c (x:C)
 | hs (id off len sz:Nat)
 | tl (id off len sz:Nat)
 | vp (id off:Nat)
 | ep (id i fo sz:Nat)
 | mr (id:Nat)
 | clo (f:FuncId) (caps:List R)
 | mth (f:FuncId) (recv:R)
 | yl (id:Nat)
 | ra (id off len sz:Nat)
 | rp (id i fo sz:Nat)
 | ras (n es:Nat) (l:List R)
 | pas (l:List R)
 deriving Inhabited
inductive V where
 | one (r:R)
 | pa (l:List C)
 | ma (l:List R)
 | tup (l:List V)
 deriving Inhabited
structure LI where
 n:Nat
 params:Array Tmp
 asg:Code
 body:Code
 deriving Inhabited
inductive AObj where
 | var (t:TypeId) (cells:List R)
 | arr (te es:Nat) (elems:List (List C)) (fz:Nat)
 | map (agg:Bool) (ents:List (List C))
 | dead
 | lp (st:LoopState) (jump:Option Code) (i:LI) (e:List (Nat×V))
 | dfr
 | rarr (te es:Nat) (elems:List (List R))
 | tok (r:R) (k:List UInt8)
 deriving Inhabited
abbrev cE:=Nat→Option AObj
abbrev Mu:=Nat→Option (Nat×Nat×Nat)
mutual
def aZ (S:Sto) (μ:Mu) (H:cE):R→Value→Prop
 | .c x,v=>Rep S x v
 | .hs id off len sz,v=>(∃a l c,v=.slice a l c)∧(H id=some .dead∨∃te es elems fz,H id=some (.arr te es elems fz)∧sz≤elems.length∧
   (sz=elems.length→off+len≤sz∧((μ id=none∧elems=[]∧v=.slice none 0 0)∨∃b base cap,μ id=some (b,base,cap)∧v=.slice (some ⟨b,base+off*es,none⟩) len (cap-off))))
 | .tl id off len sz,v=>(∃a l c,v=.slice a l c)∧(H id=some .dead∨∃te es elems fz,H id=some (.arr te es elems fz)∧sz≤elems.length∧
   (sz=elems.length→off+len=sz∧∃b base cap,μ id=some (b,base,cap)∧off≤cap∧v=.slice (some ⟨b,if cap=off then base else base+off*es,none⟩) len (cap-off)))
 | .vp id off,v=>∃t cells b c,H id=some (.var t cells)∧μ id=some (b,c)∧v=.pointer (some ⟨b,off,none⟩)
 | .ep id i fo sz,v=>(∃a,v=.pointer a)∧(H id=some .dead∨∃te es elems fz,H id=some (.arr te es elems fz)∧sz≤elems.length∧
   (sz=elems.length→i<sz∧∃b base cap,μ id=some (b,base,cap)∧v=.pointer (some ⟨b,base+i*es+fo,none⟩)))
 | .mr id,v=>∃agg ents b c,H id=some (.map agg ents)∧μ id=some (b,c)∧v=.map (some b)
 | .clo f caps,v=>∃vs,v=.func (.func f) #[] ⟨vs⟩∧aR S μ H caps vs
 | .mth f recv,v=>∃u,v=.func (.func f) #[u] #[]∧aZ S μ H recv u
 | .yl id,v=>∃st j i e b c,H id=some (.lp st j i e)∧μ id=some (b,c)∧v=.func (.yield b) #[] #[]
 | .ra id off len sz,v=>(∃a l c,v=.slice a l c)∧(H id=some .dead∨∃te es elems,H id=some (.rarr te es elems)∧sz≤elems.length∧
   (sz=elems.length→off+len≤sz∧((μ id=none∧elems=[]∧v=.slice none 0 0)∨∃b base cap,μ id=some (b,base,cap)∧v=.slice (some ⟨b,base+off*es,none⟩) len (cap-off))))
 | .rp id i fo sz,v=>(∃a,v=.pointer a)∧(H id=some .dead∨∃te es elems,H id=some (.rarr te es elems)∧sz≤elems.length∧
   (sz=elems.length→i<sz∧∃b base cap,μ id=some (b,base,cap)∧v=.pointer (some ⟨b,base+i*es+fo,none⟩)))
 | .ras n es l,v=>∃a cap,v=.slice a n cap∧n*es=l.length∧n≤cap∧cap≤maxLen∧(a=none→n=0∧cap=0)∧(∀ad,a=some ad→ad.spot=none)∧∃b o,(∀ad,a=some ad→ad.block=b∧ad.off=o)∧
   ∃vs,aR S μ H l vs∧eL S b o vs
 | .pas l,v=>∃b o,v=.pointer (some ⟨b,o,none⟩)∧∃vs,aR S μ H l vs∧eL S b o vs
def aR (S:Sto) (μ:Mu) (H:cE):List R→List Value→Prop
 | [],vs=>vs=[]
 | r::rs,vs=>∃v vs',vs=v::vs'∧aZ S μ H r v∧aR S μ H rs vs'
end
mutual
def aO (S:Sto) (μ:Mu) (H:cE):V→Value→Prop
 | .one r,v=>aZ S μ H r v
 | .pa l,v=>∃vs,v=.agg ⟨vs⟩∧c0 S l vs
 | .ma l,v=>∃vs,v=.agg ⟨vs⟩∧aR S μ H l vs
 | .tup l,v=>∃vs,v=.tuple ⟨vs⟩∧b5 S μ H l vs
def b5 (S:Sto) (μ:Mu) (H:cE):List V→List Value→Prop
 | [],vs=>vs=[]
 | r::rs,vs=>∃v vs',vs=v::vs'∧aO S μ H r v∧b5 S μ H rs vs'
end
def lI:List (List C)→Prop
 | []=>True
 | (.str _::_)::r=>lI r
 | _::_=>False
def yQ (S:Sto) (agg:Bool) (ents:List (List C)) (es:List MapEntry):Prop:=(ents=[[]]∧∃e',lI e'∧bE S agg e' es)∨bE S agg ents es∨∃T,ents=[]::T∧T≠[]∧∀e∈es,lV S agg T e
theorem yQ.mono {S S':Sto}(h:S.le S') {agg:Bool}{ents:List (List C)}{es:List MapEntry}(k:yQ S agg ents es):yQ S' agg ents es:=
 k.imp (fun⟨h1,e',h2,q⟩=>⟨h1,e',h2,bE.mono h _ _ _ q⟩) fun k=>k.imp (bE.mono h _ _ _) fun⟨T,h1,h2,q⟩=>⟨T,h1,h2,fun e he=>lV.mono h _ _ _ (q e he)⟩
theorem yQ.rep {S:Sto}{agg:Bool}{ents:List (List C)}{es:List MapEntry}(hm:lI ents) (k:yQ S agg ents es):bE S agg ents es:=
 k.elim (fun h=>by rw[h.1] at hm;simp[lI] at hm) fun k=>k.elim id fun⟨T,h,_⟩=>by rw[h] at hm;simp[lI] at hm
def aFp (S:Sto) (b:Nat) (ents:List (List C)):Prop:=S.mapo b=none∨∃T ks,ents=[]::T∧T≠[]∧S.mapo b=some (.part ks)
theorem aFp.kn0 {S:Sto}{b:Nat}{ents:List (List C)}(h:aFp S b ents) (hm:lI ents):S.mapo b=none:=by
 rcases h with h | ⟨T,ks,h,_⟩
 ·exact h
 ·rw[h] at hm;simp[lI] at hm
theorem aFp.of_eq {S S':Sto}{b:Nat}{ents:List (List C)}(h:aFp S b ents) (e:S'.mapo b=S.mapo b):aFp S' b ents:=
 h.imp (fun h=>e.trans h) fun⟨T,ks,h1,h2,q⟩=>⟨T,ks,h1,h2,e.trans q⟩
def kL (S:Sto) (μ:Mu) (H:cE) (w:World) (id:Nat):AObj→Prop
 | .var t cells=>∃b vs,μ id=some (b,0,0)∧w.heap[b]?=some (.cells ⟨vs⟩ t (0,0))∧aR S μ H cells vs∧(∀o,S.cell b o=none)∧S.mapo b=none
 | .arr te es elems fz=>(∀r∈elems,r.length=es)∧((μ id=none∧elems=[])∨∃b base cap vs,μ id=some (b,base,cap)∧w.heap[b]?=some (.cells ⟨vs⟩ te (0,0))∧
   base+cap*es≤vs.length∧elems.length≤cap∧(cap≤maxLen∧S.mapo b=none)∧c0 S elems.flatten ((vs.drop base).take (elems.length*es))∧
   (fz=0→∀o,base≤o→S.cell b o=none)∧(∀o,base+elems.length*es≤o→S.cell b o=none)∧(fz=2→eL S b base ((vs.drop base).take (elems.length*es))))
 | .map agg ents=>∃b es clk,μ id=some (b,0,0)∧w.heap[b]?=some (.map es clk)∧yQ S agg ents es.toList∧aFp S b ents
 | .dead=>μ id=none
 | .lp st j i e=>∃b r fn tmps,μ id=some (b,0,0)∧w.heap[b]?=some (.loop { state:=st,pending:=j,fn:=fn,tmps:=tmps,params:=i.params,assign:=i.asg,body:=i.body,defers:=r })∧
   tmps.size=i.n∧(∀t v,(t,v)∈e→aO S μ H v (tmps.getD t undef))∧(∀o,S.cell b o=none)∧S.mapo b=none
 | .dfr=>∃b,μ id=some (b,0,0)∧w.heap[b]?=some (.deferred (some []))∧(∀o,S.cell b o=none)∧S.mapo b=none
 | .rarr te es elems=>(∀r∈elems,r.length=es)∧((μ id=none∧elems=[])∨∃b base cap vs,μ id=some (b,base,cap)∧w.heap[b]?=some (.cells ⟨vs⟩ te (0,0))∧
   base+cap*es≤vs.length∧elems.length≤cap∧(cap≤maxLen∧S.mapo b=none)∧aR S μ H elems.flatten ((vs.drop base).take (elems.length*es))∧(∀o,base≤o→S.cell b o=none))
 | .tok r k=>μ id=none∧∃b,aZ S μ H r (.map (some b))∧∃m,S.mapo b=some m∧m.has k
def AObj.succ (same:Prop):AObj→AObj→Prop
 | .var _ _,.var _ _=>same
 | .arr _ es l _,.arr _ es' l' _=>es=es'∧l.length≤l'.length∧(l.length=l'.length→same)
 | .map _ _,.map _ _=>same
 | .arr _ _ _ _,.dead=>True
 | .dead,.dead=>True
 | .lp _ _ _ _,.lp _ _ _ _=>same
 | .dfr,.dfr=>same
 | .rarr _ es l,.rarr _ es' l'=>es=es'∧l.length≤l'.length∧(l.length=l'.length→same)
 | .rarr _ _ _,.dead=>True
 | .tok _ k,.tok _ k'=>k=k'
 | _,_=>False
structure Evolve (S:Sto) (μ:Mu) (H:cE) (S':Sto) (μ':Mu) (H':cE):Prop where
 le:S.le S'
 obj:∀id o,H id=some o→∃o',H' id=some o'∧o.succ (μ' id=μ id) o'
structure Evo0 (S:Sto) (μ:Mu) (H:cE) (S':Sto) (μ':Mu) (H':cE):Prop where
 le:S.le S'
 obj:∀id o,H id=some o→o≠ .dfr→∃o',H' id=some o'∧o.succ (μ' id=μ id) o'
theorem Evolve.weak {S:Sto}{μ:Mu}{H:cE}{S':Sto}{μ':Mu}{H':cE}(E:Evolve S μ H S' μ' H'):Evo0 S μ H S' μ' H':=⟨E.le,fun id o h _=>E.obj id o h⟩
theorem AObj.succ_refl (o:AObj) {p:Prop}(h:p):o.succ p o:=by cases o<;>simp[AObj.succ,h]
theorem AObj.succ_dead {o:AObj}{p:Prop}(h:AObj.dead.succ p o):o=.dead:=by cases o<;>simp only[AObj.succ] at h;rfl
theorem AObj.succ_trans {a b c:AObj}{p q r:Prop}(h:a.succ p b) (k:b.succ q c) (u:p→q→r):a.succ r c:=by
  cases a<;>cases b<;>simp only[AObj.succ] at h<;>cases c<;>simp only[AObj.succ] at k ⊢
  all_goals first
    | exact u h k
    | trivial
    | exact h.trans k
    | (obtain⟨h1,h2,y⟩:=h
       obtain⟨B,E,I⟩:=k
       exact⟨h1.trans B,le_trans h2 E,fun e=>u (y (by omega)) (I (by omega))⟩)
theorem Evolve.refl (S:Sto) (μ:Mu) (H:cE):Evolve S μ H S μ H:=⟨S.le_refl,fun _ o h=>⟨o,h,o.succ_refl rfl⟩⟩
theorem Evolve.trans {S S' S'':Sto}{μ μ' q:Mu}{H H' H'':cE}(h:Evolve S μ H S' μ' H') (k:Evolve S' μ' H' S'' q H''):Evolve S μ H S'' q H'':=
 ⟨Sto.le_trans h.le k.le,fun id o ho=>by
  obtain⟨o',h1,h2⟩:=h.obj id o ho;obtain⟨r,u,y⟩:=k.obj id o' h1
  exact⟨r,u,AObj.succ_trans h2 y fun e f=>f.trans e⟩⟩
section
variable {S S':Sto}{μ μ':Mu}{H H':cE}
mutual
theorem aZ.evolve0 (E:Evo0 S μ H S' μ' H'):∀(r:R) (v:Value),aZ S μ H r v→aZ S' μ' H' r v
 | .c x,v,k=>by simp only[aZ] at k ⊢;exact Rep.mono E.le x v k
 | .hs id off len sz,v,k=>by
  simp only[aZ] at k ⊢;obtain⟨kk,k⟩:=k;refine⟨kk,?_⟩;rcases k with k | ⟨te,es,elems,fz,h1,h2,B⟩
  ·obtain⟨o',y,q⟩:=E.obj _ _ k (by simp);exact .inl (by rw[y,AObj.succ_dead q])
  obtain⟨o',y,q⟩:=E.obj _ _ h1 (by simp);cases o' with
  | arr I aa elems' U=>
   simp only[AObj.succ] at q;obtain⟨rfl,J,O⟩:=q;refine .inr ⟨I,es,elems',U,y,le_trans h2 J,fun e=>?_⟩;have e1:sz=elems.length:=by omega
   obtain⟨M,Y⟩:=B e1;have hm:=O (by omega);refine⟨M,?_⟩;rcases Y with⟨g1,g2,g3⟩ | ⟨b,base,cap,g1,g2⟩
   ·refine .inl ⟨by rw[hm,g1],?_,g3⟩;subst g2;simp only[length_nil] at e1 J;exact Aw (by omega)
   ·exact .inr ⟨b,base,cap,by rw[hm,g1],g2⟩
  | dead=>exact .inl y
  | _=>simp only[AObj.succ] at q
 | .tl id off len sz,v,k=>by
  simp only[aZ] at k ⊢;obtain⟨kk,k⟩:=k;refine⟨kk,?_⟩;rcases k with k | ⟨te,es,elems,fz,h1,h2,B⟩
  ·obtain⟨o',y,q⟩:=E.obj _ _ k (by simp);exact .inl (by rw[y,AObj.succ_dead q])
  obtain⟨o',y,q⟩:=E.obj _ _ h1 (by simp);cases o' with
  | arr I aa elems' U=>
   simp only[AObj.succ] at q;obtain⟨rfl,J,O⟩:=q;refine .inr ⟨I,es,elems',U,y,le_trans h2 J,fun e=>?_⟩;obtain⟨M,b,base,cap,g1,g2⟩:=B (by omega);exact⟨M,b,base,cap,by rw[O (by omega),g1],g2⟩
  | dead=>exact .inl y
  | _=>simp only[AObj.succ] at q
 | .vp id off,v,k=>by
  simp only[aZ] at k ⊢;obtain⟨t,cells,b,c,h1,h2,B⟩:=k;obtain⟨o',y,q⟩:=E.obj _ _ h1 (by simp);cases o' with
  | var t' cells'=>simp only[AObj.succ] at q;exact⟨t',cells',b,c,y,by rw[q,h2],B⟩
  | _=>simp only[AObj.succ] at q
 | .ep id i fo sz,v,k=>by
  simp only[aZ] at k ⊢;obtain⟨kk,k⟩:=k;refine⟨kk,?_⟩;rcases k with k | ⟨te,es,elems,fz,h1,h2,B⟩
  ·obtain⟨o',y,q⟩:=E.obj _ _ k (by simp);exact .inl (by rw[y,AObj.succ_dead q])
  obtain⟨o',y,q⟩:=E.obj _ _ h1 (by simp);cases o' with
  | arr I aa elems' U=>
   simp only[AObj.succ] at q;obtain⟨rfl,J,O⟩:=q;refine .inr ⟨I,es,elems',U,y,le_trans h2 J,fun e=>?_⟩;obtain⟨M,b,base,cap,g1,g2⟩:=B (by omega);exact⟨M,b,base,cap,by rw[O (by omega),g1],g2⟩
  | dead=>exact .inl y
  | _=>simp only[AObj.succ] at q
 | .mr id,v,k=>by
  simp only[aZ] at k ⊢;obtain⟨agg,ents,b,c,h1,h2,B⟩:=k;obtain⟨o',y,q⟩:=E.obj _ _ h1 (by simp);cases o' with
  | map agg' ents'=>simp only[AObj.succ] at q;exact⟨agg',ents',b,c,y,by rw[q,h2],B⟩
  | _=>simp only[AObj.succ] at q
 | .clo f caps,v,k=>by
  simp only[aZ] at k ⊢;obtain⟨vs,h1,h2⟩:=k;exact⟨vs,h1,aR.evolve0 E caps vs h2⟩
 | .mth f recv,v,k=>by
  simp only[aZ] at k ⊢;obtain⟨u,h1,h2⟩:=k;exact⟨u,h1,aZ.evolve0 E recv u h2⟩
 | .rp id i fo sz,v,k=>by
  simp only[aZ] at k ⊢;obtain⟨kk,k⟩:=k;refine⟨kk,?_⟩;rcases k with k | ⟨te,es,elems,h1,h2,B⟩
  ·obtain⟨o',y,q⟩:=E.obj _ _ k (by simp);exact .inl (by rw[y,AObj.succ_dead q])
  obtain⟨o',y,q⟩:=E.obj _ _ h1 (by simp);cases o' with
  | rarr I aa elems'=>
   simp only[AObj.succ] at q;obtain⟨rfl,J,O⟩:=q;refine .inr ⟨I,es,elems',y,le_trans h2 J,fun e=>?_⟩;obtain⟨M,b,base,cap,g1,g2⟩:=B (by omega);exact⟨M,b,base,cap,by rw[O (by omega),g1],g2⟩
  | dead=>exact .inl y
  | _=>simp only[AObj.succ] at q
 | .yl id,v,k=>by
  simp only[aZ] at k ⊢;obtain⟨st,j,i,e,b,c,h1,h2,B⟩:=k;obtain⟨o',y,q⟩:=E.obj _ _ h1 (by simp);cases o' with
  | lp st' j' i' e'=>simp only[AObj.succ] at q;exact⟨st',j',i',e',b,c,y,by rw[q,h2],B⟩
  | _=>simp only[AObj.succ] at q
 | .ra id off len sz,v,k=>by
  simp only[aZ] at k ⊢;obtain⟨kk,k⟩:=k;refine⟨kk,?_⟩;rcases k with k | ⟨te,es,elems,h1,h2,B⟩
  ·obtain⟨o',y,q⟩:=E.obj _ _ k (by simp);exact .inl (by rw[y,AObj.succ_dead q])
  obtain⟨o',y,q⟩:=E.obj _ _ h1 (by simp);cases o' with
  | rarr I aa elems'=>
   simp only[AObj.succ] at q;obtain⟨rfl,J,O⟩:=q;refine .inr ⟨I,es,elems',y,le_trans h2 J,fun e=>?_⟩;have e1:sz=elems.length:=by omega
   obtain⟨M,Y⟩:=B e1;have hm:=O (by omega);refine⟨M,?_⟩;rcases Y with⟨g1,g2,g3⟩ | ⟨b,base,cap,g1,g2⟩
   ·refine .inl ⟨by rw[hm,g1],?_,g3⟩;subst g2;simp only[length_nil] at e1 J;exact Aw (by omega)
   ·exact .inr ⟨b,base,cap,by rw[hm,g1],g2⟩
  | dead=>exact .inl y
  | _=>simp only[AObj.succ] at q
 | .ras n es l,v,k=>by
  simp only[aZ] at k ⊢;obtain⟨a,cap,h1,h2,B,y,q,J,b,o,O,vs,M,Y⟩:=k;exact⟨a,cap,h1,h2,B,y,q,J,b,o,O,vs,aR.evolve0 E l vs M,Y.mono E.le⟩
 | .pas l,v,k=>by
  simp only[aZ] at k ⊢;obtain⟨b,o,h1,vs,M,Y⟩:=k;exact⟨b,o,h1,vs,aR.evolve0 E l vs M,Y.mono E.le⟩
theorem aR.evolve0 (E:Evo0 S μ H S' μ' H'):∀(r:List R) (v:List Value),aR S μ H r v→aR S' μ' H' r v
 | [],_,k=>by simpa [aR] using k
 | r::rs,vs,k=>by
  simp only[aR] at k ⊢;obtain⟨v,vs',h1,h2,B⟩:=k;exact⟨v,vs',h1,aZ.evolve0 E r v h2,aR.evolve0 E rs vs' B⟩
end
mutual
theorem aO.evolve0 (E:Evo0 S μ H S' μ' H'):∀(r:V) (v:Value),aO S μ H r v→aO S' μ' H' r v
 | .one r,v,k=>by simp only[aO] at k ⊢;exact aZ.evolve0 E r v k
 | .pa l,v,k=>by
  simp only[aO] at k ⊢;obtain⟨vs,h1,h2⟩:=k;exact⟨vs,h1,c0.mono E.le l vs h2⟩
 | .ma l,v,k=>by
  simp only[aO] at k ⊢;obtain⟨vs,h1,h2⟩:=k;exact⟨vs,h1,aR.evolve0 E l vs h2⟩
 | .tup l,v,k=>by
  simp only[aO] at k ⊢;obtain⟨vs,h1,h2⟩:=k;exact⟨vs,h1,b5.evolve0 E l vs h2⟩
theorem b5.evolve0 (E:Evo0 S μ H S' μ' H'):∀(r:List V) (v:List Value),b5 S μ H r v→b5 S' μ' H' r v
 | [],_,k=>by simpa [b5] using k
 | r::rs,vs,k=>by
  simp only[b5] at k ⊢;obtain⟨v,vs',h1,h2,q⟩:=k;exact⟨v,vs',h1,aO.evolve0 E r v h2,b5.evolve0 E rs vs' q⟩
end
theorem aR.evolve (E:Evolve S μ H S' μ' H') (r:List R) (v:List Value) (k:aR S μ H r v):aR S' μ' H' r v:=aR.evolve0 E.weak r v k
theorem aO.evolve (E:Evolve S μ H S' μ' H') (r:V) (v:Value) (k:aO S μ H r v):aO S' μ' H' r v:=aO.evolve0 E.weak r v k
theorem b5.evolve (E:Evolve S μ H S' μ' H') (r:List V) (v:List Value) (k:b5 S μ H r v):b5 S' μ' H' r v:=b5.evolve0 E.weak r v k
end
structure Ctx where
 w0:World
 S0:Sto
 F:Nat→Prop
 μ0:Mu
 h0:cE
structure FrameW (w0:World) (F:Nat→Prop) (w:World):Prop where
 os:w.os=w0.os
 tape:w.tape=w0.tape
 output:w.output=w0.output
 size:w0.heap.size≤w.heap.size
 block:∀k,k<w0.heap.size→¬F k→w.heap[k]?=w0.heap[k]?
 tab:a0i w0 F
def Holds (S:Sto) (w:World):Prop:=
 (∀b o v,S.cell b o=some v→∃vs t fr,w.heap[b]?=some (.cells vs t fr)∧vs[o]?=some v)∧(∀b m,S.mapo b=some m→m.holds w.heap[b]?)
structure Inv (G:Ctx) (S:Sto) (μ:Mu) (H:cE) (w:World):Prop where
 holds:Holds S w
 obj:∀id o,H id=some o→kL S μ H w id o
 inj:∀i j o o' b c c',H i=some o→H j=some o'→μ i=some (b,c)→μ j=some (b,c')→i=j
 own:∀i o b c,H i=some o→μ i=some (b,c)→G.w0.heap.size≤b∨G.F b
 frame:FrameW G.w0 G.F w
 sle:G.S0.le S
 sto:∀b,b<G.w0.heap.size→¬G.F b→(∀o,S.cell b o=G.S0.cell b o)∧S.mapo b=G.S0.mapo b
 evo:Evolve G.S0 G.μ0 G.h0 S μ H
 fre:S.free
theorem FrameW.refl (w:World) (F:Nat→Prop) (h:a0i w F):FrameW w F w:=⟨rfl,rfl,rfl,le_refl _,fun _ _ _=>rfl,h⟩
theorem FrameW.tabAt {w0 w:World}{F:Nat→Prop}(h:FrameW w0 F w):aOm w:=fun g q=>by
 obtain⟨h1,t,r,h2⟩:=h.tab.1 g q;exact⟨A7 h1 h.size,t,r,by rw[h.block g h1 (h.tab.2 g q)];exact h2⟩
theorem kL.lt {S:Sto}{μ:Mu}{H:cE}{w:World}{id:Nat}{o:AObj}(h:kL S μ H w id o) {b:Nat}{c:Nat×Nat}(hm:μ id=some (b,c)):b<w.heap.size:=by
 have hl:∀{x:Obj},w.heap[b]?=some x→b<w.heap.size:=fun e=>(Cp.1 e).1
 cases o with
 | var t cells=>
  obtain⟨q,vs,h1,h2,_⟩:=h;rw[hm] at h1;cases h1;exact hl h2
 | arr te es elems fz=>
  obtain⟨_,⟨h1,_⟩ | ⟨q,base,cap,vs,h1,h2,_⟩⟩:=h
  ·rw[hm] at h1;cases h1
  ·rw[hm] at h1;cases h1;exact hl h2
 | map agg ents=>
  obtain⟨q,es,clk,h1,h2,_⟩:=h;rw[hm] at h1;cases h1;exact hl h2
 | dead=>rw[show μ id=none from h] at hm;cases hm
 | lp st j i e=>
  obtain⟨q,r,fn,tmps,h1,h2,_⟩:=h;rw[hm] at h1;cases h1;exact hl h2
 | dfr=>
  obtain⟨q,h1,h2,_⟩:=h;rw[hm] at h1;cases h1;exact hl h2
 | rarr te es elems=>
  obtain⟨_,⟨h1,_⟩ | ⟨q,base,cap,vs,h1,h2,_⟩⟩:=h
  ·rw[hm] at h1;cases h1
  ·rw[hm] at h1;cases h1;exact hl h2
 | tok r k=>rw[h.1] at hm;cases hm
theorem kL.evolve0 {S S':Sto}{μ μ':Mu}{H H':cE}{w w':World}{id:Nat}{o:AObj}(E:Evo0 S μ H S' μ' H') (h:kL S μ H w id o) (hm:μ' id=μ id)
  (hw:∀b c,μ id=some (b,c)→w'.heap[b]?=w.heap[b]?∧(∀o,S'.cell b o=S.cell b o)∧S'.mapo b=S.mapo b):kL S' μ' H' w' id o:=by
 cases o with
 | var t cells=>
  obtain⟨b,vs,h1,h2,u,q⟩:=h;obtain⟨g1,g2,g3⟩:=hw _ _ h1;exact⟨b,vs,by rw[hm,h1],by rw[g1,h2],aR.evolve0 E _ _ u,fun o=>by rw[g2,q.1],by rw[g3,q.2]⟩
 | arr te es elems fz=>
  obtain⟨h0,⟨h1,h2⟩ | ⟨b,base,cap,vs,h1,h2,u,q,y,B,I,J,M⟩⟩:=h
  ·exact⟨h0,.inl ⟨by rw[hm,h1],h2⟩⟩
  ·obtain⟨g1,g2,g3⟩:=hw _ _ h1;exact⟨h0,.inr ⟨b,base,cap,vs,by rw[hm,h1],by rw[g1,h2],u,q,⟨y.1,by rw[g3,y.2]⟩,c0.mono E.le _ _ B,fun e o ho=>by rw[g2,I e o ho],fun o e=>by rw[g2,J o e],fun e=>(M e).mono E.le⟩⟩
 | map agg ents=>
  obtain⟨b,es,clk,h1,h2,u,q⟩:=h;obtain⟨g1,g2,g3⟩:=hw _ _ h1;exact⟨b,es,clk,by rw[hm,h1],by rw[g1,h2],yQ.mono E.le u,q.of_eq g3⟩
 | dead=>exact hm.trans h
 | lp st j i e=>
  obtain⟨b,r,fn,tmps,h1,h2,u,q,y,B⟩:=h;obtain⟨g1,g2,g3⟩:=hw _ _ h1;exact⟨b,r,fn,tmps,by rw[hm,h1],by rw[g1,h2],u,fun t v ht=>aO.evolve0 E _ _ (q t v ht),fun o=>by rw[g2,y],by rw[g3,B]⟩
 | dfr=>
  obtain⟨b,h1,h2,u,q⟩:=h;obtain⟨g1,g2,g3⟩:=hw _ _ h1;exact⟨b,by rw[hm,h1],by rw[g1,h2],fun o=>by rw[g2,u],by rw[g3,q]⟩
 | rarr te es elems=>
  obtain⟨h0,⟨h1,h2⟩ | ⟨b,base,cap,vs,h1,h2,u,q,y,B,I⟩⟩:=h
  ·exact⟨h0,.inl ⟨by rw[hm,h1],h2⟩⟩
  ·obtain⟨g1,g2,g3⟩:=hw _ _ h1;exact⟨h0,.inr ⟨b,base,cap,vs,by rw[hm,h1],by rw[g1,h2],u,q,⟨y.1,by rw[g3,y.2]⟩,aR.evolve0 E _ _ B,fun o ho=>by rw[g2,I o ho]⟩⟩
 | tok r k=>
  obtain⟨h1,b,h2,m,u,q⟩:=h;obtain⟨O,y,B⟩:=E.le.2 b m u;exact⟨by rw[hm,h1],b,aZ.evolve0 E _ _ h2,O,y,MK.le_has B q⟩
theorem kL.evolve {S S':Sto}{μ μ':Mu}{H H':cE}{w w':World}{id:Nat}{o:AObj}(E:Evolve S μ H S' μ' H') (h:kL S μ H w id o) (hm:μ' id=μ id)
  (hw:∀b c,μ id=some (b,c)→w'.heap[b]?=w.heap[b]?∧(∀o,S'.cell b o=S.cell b o)∧S'.mapo b=S.mapo b):kL S' μ' H' w' id o:=kL.evolve0 E.weak h hm hw
def upd {α:Type}(f:Nat→Option α) (k:Nat) (x:Option α):Nat→Option α:=fun i=>if Nat.beq i k then x else f i
theorem aJ {α:Type}(f:Nat→Option α) (k:Nat) (x:Option α):upd f k x k=x:=by simp[upd]
theorem bH {α:Type}(f:Nat→Option α) (k:Nat) (x:Option α) {i:Nat}(h:i≠k):upd f k x i=f i:=by
 have:Nat.beq i k=false:=by
  cases hb:Nat.beq i k with
  | false=>rfl
  | true=>exact absurd (Aa hb) h
 simp[upd,this]
structure WChg (w w':World) (b:Nat) (o:Obj):Prop where
 os:w'.os=w.os
 tape:w'.tape=w.tape
 output:w'.output=w.output
 size:w.heap.size≤w'.heap.size
 new:w'.heap[b]?=some o
 old:∀k,k<w.heap.size→k≠b→w'.heap[k]?=w.heap[k]?
theorem WChg.alloc (w:World) (o:Obj):WChg w (w.alloc o) w.heap.size o:=
 ⟨rfl,rfl,rfl,by simp,Bx w o,fun k q _=>RowKit.Below.heap_alloc w o k q⟩
theorem WChg.alloc_drew (w:World) (o:Obj):WChg w (w.drew.alloc o) w.heap.size o:=
 ⟨rfl,rfl,rfl,by simp,Bx w.drew o,fun k q _=>RowKit.Below.heap_alloc w.drew o k q⟩
theorem WChg.setRow (w:World) (g:Nat) (cur cs:Array Value) (t:TypeId) (q:Nat×Nat) (r:w.heap[g]?=some (.cells cur t q)):WChg w (w.setRow g cs) g (.cells cs t q):=
 ⟨rfl,rfl,rfl,by simp,setRow_heap w g cur cs t q r,fun k _ u=>setRow_other w g k cs u⟩
theorem cA {w:World}{b:Nat}{x:Obj}(e:w.heap[b]?=some x):b<w.heap.size:=(Cp.1 e).1
theorem Inv.chg {G:Ctx}{S:Sto}{μ:Mu}{H:cE}{w w':World}{id b:Nat}{cap:Nat×Nat}{U:Obj}{ao:AObj}(h:Inv G S μ H w) (hw:WChg w w' b U)
  (hb:w.heap.size≤b∨(∃o c,H id=some o∧μ id=some (b,c)))
  (Y:Evolve S μ H S (upd μ id (some (b,cap))) (upd H id (some ao)))
  (hO:kL S (upd μ id (some (b,cap))) (upd H id (some ao)) w' id ao)
  (hS:∀o v,S.cell b o=some v→∃vs t O,U=.cells vs t O∧vs[o]?=some v) (aa:∀m,S.mapo b=some m→w.heap.size≤b):
  Inv G S (upd μ id (some (b,cap))) (upd H id (some ao)) w':=by
 have I:∀j o,H j=some o→j≠id→∀q c',μ j=some (q,c')→q≠b:=by
  intro j o hj ab q c' hm e;subst e;rcases hb with hb | ⟨o',c,h1,h2⟩
  ·have:=(h.obj j o hj).lt hm;omega
  ·exact ab (h.inj j id o o' q c' c hj h1 hm h2)
 refine⟨⟨?_,?_⟩,?_,?_,?_,?_,h.sle,h.sto,h.evo.trans Y,h.fre⟩
 ·intro q o v e;obtain⟨vs,t,O,h1,h2⟩:=h.holds.1 q o v e;by_cases B:q=b
  ·subst B;obtain⟨vs',t',ac,M,h4⟩:=hS o v e;exact⟨vs',t',ac,by rw[hw.new,M],h4⟩
  ·exact⟨vs,t,O,by rw[hw.old q (cA h1) B,h1],h2⟩
 ·intro q m e;have h1:=h.holds.2 q m e;obtain⟨_,h2⟩:=MK.holds_some h1;by_cases B:q=b
  ·subst B;have:=aa _ e;have:=cA h2;omega
  ·rw[hw.old q (cA h2) B];exact h1
 ·intro j o hj;by_cases J:j=id
  ·subst J;rw[aJ] at hj;cases hj;exact hO
  ·rw[bH _ _ _ J] at hj;refine(h.obj j o hj).evolve Y (bH _ _ _ J) fun q c' hm=>⟨?_,fun _=>rfl,rfl⟩
   exact hw.old q ((h.obj j o hj).lt hm) (I j o hj J q c' hm)
 ·intro i j o o' q c c' hi hj u y;by_cases r:i=id<;>by_cases E:j=id
  ·rw[r,E]
  ·subst r;rw[aJ] at u;cases u;rw[bH _ _ _ E] at hj y;exact absurd rfl (I j o' hj E _ _ y)
  ·subst E;rw[aJ] at y;cases y;rw[bH _ _ _ r] at hi u;exact absurd rfl (I i o hi r _ _ u)
  ·rw[bH _ _ _ r] at hi u;rw[bH _ _ _ E] at hj y;exact h.inj i j o o' q c c' hi hj u y
 ·intro i o q c hi hm;by_cases r:i=id
  ·subst r;rw[aJ] at hm;cases hm;rcases hb with hb | ⟨o',c',h1,h2⟩
   ·exact .inl (le_trans h.frame.size hb)
   ·exact h.own _ _ _ _ h1 h2
  ·rw[bH _ _ _ r] at hi hm;exact h.own _ _ _ _ hi hm
 ·refine⟨hw.os.trans h.frame.os,hw.tape.trans h.frame.tape,hw.output.trans h.frame.output,le_trans h.frame.size hw.size,fun k hk hF=>?_,h.frame.tab⟩;rw[hw.old k (A7 hk h.frame.size) ?_,h.frame.block k hk hF];rintro rfl;rcases hb with hb | ⟨o',c',h1,h2⟩
  ·have:=h.frame.size;omega
  ·rcases h.own _ _ _ _ h1 h2 with M | M
   ·omega
   ·exact hF M
theorem Inv.same {G:Ctx}{S:Sto}{μ:Mu}{H:cE}{w w':World}(h:Inv G S μ H w) (hh:w'.heap=w.heap) (ho:w'.os=w.os) (ht:w'.tape=w.tape) (hu:w'.output=w.output):Inv G S μ H w':=by
 obtain⟨h1,h2,r,u,q,y,B,E,I⟩:=h;refine⟨⟨fun b o v e=>by rw[hh];exact h1.1 b o v e,fun b m e=>by rw[hh];exact h1.2 b m e⟩,fun id o e=>(h2 id o e).evolve (Evolve.refl _ _ _) rfl fun b c hm=>⟨by rw[hh],fun _=>rfl,rfl⟩,r,u,?_,y,B,E,I⟩;exact⟨ho.trans q.os,ht.trans q.tape,hu.trans q.output,by rw[hh];exact q.size,fun k J M=>by rw[hh];exact q.block k J M,q.tab⟩
theorem Holds.cell {S:Sto}{w:World}(h:Holds S w) {b o:Nat}{v:Value}(e:S.cell b o=some v):w.cell? ⟨b,o,none⟩=some v:=by
 obtain⟨vs,t,q,h1,h2⟩:=h.1 b o v e;simp[World.cell?,h1,h2]
structure St where
 e:Nat→Option V
 h:cE
 d:List Nat
def Marks (lo:Nat) (μ:Mu) (H:cE):List Nat→List Deferred→Prop
 | [],ds=>ds=[]
 | id::ids,ds=>∃b c ds',ds={ target:=.collected b,args:= #[] }::ds'∧μ id=some (b,c)∧H id=some .dfr∧lo≤b∧id∉ids∧Marks lo μ H ids ds'
theorem Marks.ren {lo:Nat}{μ μ':Mu}{H H':cE}(σ:Nat→Nat):∀{ids:List Nat}{q:List Deferred},Marks lo μ H (ids.map σ) q→(∀id∈ids,H (σ id)=some .dfr→μ' id=μ (σ id)∧H' id=some .dfr)→Marks lo μ' H' ids q
 | [],_,h,_=>h
 | id::ids,_,⟨b,c,r,h1,h2,u,y,B,E⟩,k=>by
  obtain⟨I,J⟩:=k id (by simp) u;exact⟨b,c,r,h1,by rw[I,h2],J,y,fun h=>B (Cz.2 ⟨_,h,rfl⟩),Marks.ren σ E fun i hi=>k i (by simp[hi])⟩
theorem Marks.go {lo:Nat}{μ μ':Mu}{H H':cE}{ids:List Nat}{q:List Deferred}(h:Marks lo μ H ids q) (k:∀id∈ids,H id=some .dfr→μ' id=μ id∧H' id=some .dfr):Marks lo μ' H' ids q:=
 Marks.ren (fun i=>i) (by simpa using h) fun id hid=>k id hid
theorem Marks.evolve {lo:Nat}{S S':Sto}{μ μ':Mu}{H H':cE}(E:Evolve S μ H S' μ' H') {ids:List Nat}{q:List Deferred}(h:Marks lo μ H ids q):Marks lo μ' H' ids q:=
 h.go fun id _ hd=>by
  obtain⟨o',h1,h2⟩:=E.obj id _ hd;cases o' with
  | dfr=>exact⟨h2,h1⟩
  | _=>simp only[AObj.succ] at h2
structure Sim (G:Ctx) (n:Nat) (S:Sto) (μ:Mu) (st:St) (a:Act) (w:World):Prop where
 inv:Inv G S μ st.h w
 size:a.tmps.size=n
 defers:Marks G.w0.heap.size μ st.h st.d a.defers
 env:∀t v,st.e t=some v→aO S μ st.h v (a.tmps.getD t undef)
theorem aCl (ts:Array Value) (d t:Nat) (v:Value) (hd:d<ts.size):(ts.setIfInBounds d v).getD t undef=if t=d then v else ts.getD t undef:=by
 simp only[Ah,Bb];by_cases h:d=t
 ·subst h;simp[hd]
 ·have:¬t=d:=fun e=>h e.symm
  simp[h,this]
theorem Sim.put {G:Ctx}{n:Nat}{S S':Sto}{μ μ':Mu}{st:St}{H':cE}{a:Act}{w w':World}(h:Sim G n S μ st a w) (hi:Inv G S' μ' H' w') (q:Evolve S μ st.h S' μ' H') {d:Nat}(hd:d<n) {v:Value}{x:Option V}
  (hv:∀y,x=some y→aO S' μ' H' y v):Sim G n S' μ' ⟨upd st.e d x,H',st.d⟩ (a.put (some d) v) w':=by
 refine⟨hi,by simp[Act.put,h.size],h.defers.evolve q,fun t y e=>?_⟩;show aO S' μ' H' y ((a.tmps.setIfInBounds d v).getD t undef);rw[aCl _ _ _ _ (by rw[h.size];exact hd)];by_cases ht:t=d
 ·subst ht;rw[ζ rfl];exact hv y (by simpa [aJ] using e)
 ·rw[ξ ht];have e':st.e t=some y:=by simpa [bH _ _ _ ht] using e
  exact aO.evolve q y _ (h.env t y e')
theorem Sim.put_none {G:Ctx}{n:Nat}{S S':Sto}{μ μ':Mu}{st:St}{H':cE}{a:Act}{w w':World}(h:Sim G n S μ st a w) (hi:Inv G S' μ' H' w') (q:Evolve S μ st.h S' μ' H') (v:Value):
  Sim G n S' μ' ⟨st.e,H',st.d⟩ (a.put none v) w':=
 ⟨hi,h.size,h.defers.evolve q,fun t y e=>aO.evolve q y _ (h.env t y e)⟩
structure Rd where
 e:List Nat
 h:List Nat
structure Eff where
 d:Option (Nat×Option V)
 h:List (Nat×Option AObj)
def look {α:Type}:List (Nat×α)→Nat→Option α
 | [],_=>none
 | (k,x)::l,i=>if Nat.beq i k then some x else look l i
def iS (f:cE) (l:List (Nat×Option AObj)):cE:=fun i=>match look l i with | some o=>o | none=>f i
theorem aBb (f:cE):iS f []=f:=rfl
theorem cD (f:cE) (id:Nat) (x:Option AObj):iS f [(id,x)]=upd f id x:=by
 funext i;simp only[look,upd,iS];cases Nat.beq i id<;>rfl
def Eff.apply (f:Eff) (st:St):St:=
 {
   e:=match f.d with | some (t,v)=>upd st.e t v | none=>st.e
   h:=iS st.h f.h
   d:=st.d }
def Eff.we (f:Eff):List Nat:=(f.d.map (·.1)).toList
def Eff.wh (f:Eff):List Nat:=f.h.map (·.1)
def fR (rd:Rd) (st st':St):Prop:=(∀t∈rd.e,st'.e t=st.e t)∧(∀i∈rd.h,st'.h i=st.h i)
theorem fR.refl (rd:Rd) (st:St):fR rd st st:=⟨fun _ _=>rfl,fun _ _=>rfl⟩
def Wd (ro:Option Nat):Fence:={ fn:=fun _=>True,depth:=none,alive:=false,round:=ro }
theorem Wd.fenced (P:Program) (ro:Option Nat) (m:Machine):m.fenced P (Wd ro):=fenced_wide P m
theorem Wd.room (ro:Option Nat) (k:Nat):(Wd ro).room k:=fun _ h=>by simp[Wd] at h
theorem Wd.steps {ro:Option Nat}{P:Program}{m q:Machine}:StepsIn (Machine.fenced P (Wd ro)) P m q↔Steps P m q:=
 ⟨StepsIn.steps,fun h=>(StepsIn.of_steps h).mono fun m _=>Wd.fenced P ro m⟩
theorem Wd.comes {ro:Option Nat}{P:Program}{m q:Machine}{e:Ending}:ComesIn (Machine.fenced P (Wd ro)) P m q e↔Comes P m q e:=by
 cases e with
 | returned v=>exact Wd.steps
 | panicked chain=>exact Wd.steps
 | outgrown=>exact Iff.rfl
theorem Wd.calls {ro:Option Nat}{n:Nat}{P:Program}{f:FuncId}{args:Array Value}{w:World}{R:Ending→World→Prop}:CallsIn (Wd ro) n P f args w R↔Calls P f args w R:=
  ⟨fun h cs=>let ⟨e,w',q,r,s,x⟩:=h.2 cs (Wd.room _ _);⟨e,w',q,r,Wd.comes.1 s,x⟩,
   fun h=>⟨trivial,fun cs _=>let ⟨e,w',q,r,s,x⟩:=h cs;⟨e,w',q,r,Wd.comes.2 s,x⟩⟩⟩
theorem n7 {P:Program}{o:Oper}{ro:Option Nat}{ρ:Operand→Value}{w w':World}{r:Next}(h:(execOp ρ o).run P w=.ok r w') (q:∀d,r≠ .defer d):(o.semAt ro ρ).run P w=.ok r w':=by
 rw[Oper.semAt_eq]
 ·exact h
 ·intro c hc;rw[execOp,hc] at h;simp only[Ab] at h;cases hq:(resolve ρ c o.type).run P w with
  | ok d u=>
   rw[hq] at h;simp only[Result.andThen,Ac] at h;cases h;exact q _ rfl
  | halt x u=>rw[hq] at h;simp[Result.andThen] at h
section
variable {P:Program}{o:Oper}{ro:Option Nat}{a:Act}{w w':World}{K:Act→World→Prop}{Q:Exit→Act→World→Prop}
theorem eY {v:Value}(q:(execOp a.eval o).run P w=.ok (.value v) w') (h:K (a.put o.dst v) w'):o.wpIn (Wd ro) 0 P a w K Q:=by
 refine⟨fun _ _=>trivial,?_⟩;rw[n7 q (by simp),Oper.uponIn_value];exact h
theorem vP (q:(execOp a.eval o).run P w=.ok .skip w') (h:K (a.put o.dst undef) w'):o.wpIn (Wd ro) 0 P a w K Q:=by
 refine⟨fun _ _=>trivial,?_⟩;rw[n7 q (by simp),Oper.uponIn_skip];exact h
theorem jQ {f:FuncId}{args:Array Value}(r:(execOp a.eval o).run P w=.ok (.enter f args) w')
  (h:Calls P f args w' fun
   | .returned v,q=>K (a.put o.dst v) q
   | .panicked chain,q=>Q (.panic chain) a q
   | .outgrown,_=>LetsOut Q):o.wpIn (Wd ro) 0 P a w K Q:=by
 refine⟨fun _ _=>trivial,?_⟩;rw[n7 r (by simp),Oper.uponIn_enter];exact⟨fun h=>by simp[Wd] at h,Wd.calls.2 h⟩
end
def Step (P:Program) (n:Nat) (o:Oper) (st:St) (rd:Rd) (f:Eff):Prop:=
 ∀st',fR rd st st'→∀G S μ a w (K:Act→World→Prop) (Q:Exit→Act→World→Prop),Sim G n S μ st' a w→
  (∀S' μ' a' w',Sim G n S' μ' (f.apply st') a' w'→K a' w')→∀ro,o.wpIn (Wd ro) 0 P a w K Q
def GStep (P:Program) (n:Nat) (ops:Array Oper) (i:Nat) (st:St) (rd:Rd) (f:Eff):Prop:=
 ∀st',fR rd st st'→∀G S μ a w (K:Act→World→Prop) (Q:Exit→Act→World→Prop),Sim G n S μ st' a w→
  (∀S' μ' a' w',Sim G n S' μ' (f.apply st') a' w'→K a' w')→∀ro,wpOpIn (Wd ro) 0 P ops Q i K a w
theorem GStep.plain {P:Program}{n:Nat}{ops:Array Oper}{i:Nat}{o:Oper}{st:St}{rd:Rd}{f:Eff}(ho:ops[i]?=some o) (q:o.guard=none) (h:Step P n o st rd f):GStep P n ops i st rd f:=by
 intro st' ha G S μ a w K Q hs r ro;unfold wpOpIn;simp only[ho];rw[ζ (by simp[Region.wanted,q])];exact h st' ha G S μ a w K Q hs r ro
theorem getElem?_of_getD {ts:Array Value}{t:Nat}{b:Bool}(h:ts.getD t undef=.bool b):ts[t]?=some (.bool b):=by
 rw[Ah] at h;cases hq:ts[t]? with
 | none=>simp[hq,undef] at h
 | some v=>simp[hq] at h;rw[h]
theorem GStep.yes {P:Program}{n:Nat}{ops:Array Oper}{i j t:Nat}{want b:Bool}{o:Oper}{st:St}{rd:Rd}{f:Eff}(ho:ops[i]?=some o) (u:o.guard=some (j,want)) (hj:(ops[j]?).bind (·.dst)=some t)
  (hb:st.e t=some (.one (.c (.bool b)))) (hw:b=want) (h:Step P n o st rd f):GStep P n ops i st ⟨t::rd.e,rd.h⟩ f:=by
 intro st' ha G S μ a w K Q hs y ro;have q:st'.e t=some (.one (.c (.bool b))):=by rw[ha.1 t (by simp),hb]
 have hv:=hs.env t _ q;simp only[aO,aZ,Rep] at hv;have r:=getElem?_of_getD hv;unfold wpOpIn;simp only[ho];rw[ζ (by simp[Region.wanted,u,yielded,hj,r,hw])];exact h st' ⟨fun t ht=>ha.1 t (by simp[ht]),ha.2⟩ G S μ a w K Q hs y ro
theorem GStep.no {P:Program}{n:Nat}{ops:Array Oper}{i j t d:Nat}{want b:Bool}{o:Oper}{st:St}(ho:ops[i]?=some o) (I:o.guard=some (j,want)) (hd:o.dst=some d) (q:d<n) (hj:(ops[j]?).bind (·.dst)=some t)
  {r:Bool} (hb:st.e t=some (.one (.c (.bool b)))) (u:b=r) (hn:r= !want):GStep P n ops i st ⟨[t],[]⟩ ⟨some (d,some (.tup [])),[]⟩:=by
 have hw:b= !want:=u.trans hn;intro st' ha G S μ a w K Q hs J ro;have B:st'.e t=some (.one (.c (.bool b))):=by rw[ha.1 t (by simp),hb]
 have hv:=hs.env t _ B;simp only[aO,aZ,Rep] at hv;have E:=getElem?_of_getD hv;unfold wpOpIn;simp only[ho];rw[ξ (by simp[Region.wanted,I,yielded,hj,E,hw])];rw[hd];refine⟨fun _ _=>trivial,J S μ _ _ ?_⟩;exact hs.put hs.inv (Evolve.refl _ _ _) q (fun y hy=>by cases hy;simp only[aO];exact⟨[],rfl,by simp[b5]⟩)
theorem GStep.un {P:Program}{n:Nat}{ops:Array Oper}{i j t d:Nat}{want:Bool}{o:Oper}{st:St}(ho:ops[i]?=some o) (E:o.guard=some (j,want)) (hd:o.dst=some d) (r:d<n) (hj:(ops[j]?).bind (·.dst)=some t)
  (hb:st.e t=some (.tup [])):GStep P n ops i st ⟨[t],[]⟩ ⟨some (d,some (.tup [])),[]⟩:=by
 intro st' ha G S μ a w K Q hs I ro;have u:st'.e t=some (.tup []):=by rw[ha.1 t (by simp),hb]
 have hv:=hs.env t _ u;simp only[aO] at hv;obtain⟨vs,hv,q⟩:=hv;simp only[b5] at q;subst q;have B:yielded ops a.tmps j=none:=by
  unfold yielded;rw[hj];simp only[Ck];rw[Ah] at hv;cases hq:a.tmps[t]? with
  | none=>rfl
  | some v=>rw[hq] at hv;simp at hv;subst hv;rfl
 unfold wpOpIn;simp only[ho];rw[ξ (by simp[Region.wanted,E,B])];rw[hd];refine⟨fun _ _=>trivial,I S μ _ _ ?_⟩;exact hs.put hs.inv (Evolve.refl _ _ _) r (fun y hy=>by cases hy;simp only[aO];exact⟨[],rfl,by simp[b5]⟩)
abbrev REs:=List (Rd×Eff)
def cG (L:Nat→Bool):Nat→REs→St→St
 | _,[],st=>st
 | k,x::xs,st=>cG L (k+1) xs (bif L k then x.2.apply st else st)
inductive Run (P:Program) (n:Nat) (ops:Array Oper):Nat→St→REs→St→Prop
 | nil {k st}:Run P n ops k st [] st
 | cons {k st rd f xs st'}:GStep P n ops k st rd f→Run P n ops (k+1) (f.apply st) xs st'→Run P n ops k st ((rd,f)::xs) st'
theorem Run.final {P:Program}{n:Nat}{ops:Array Oper}{k:Nat}{st st':St}{xs:REs}(h:Run P n ops k st xs st'):∀L:Nat→Bool,(∀j,k≤j→L j=true)→cG L k xs st=st':=by
 induction h with
 | nil=>intro L _;rfl
 | cons _ _ r=>
  intro L q;simp only[cG,q _ (le_refl _),Bw];exact r L fun j hj=>q j (by omega)
theorem Run.at {P:Program}{n:Nat}{ops:Array Oper}{k:Nat}{st st':St}{xs:REs}(h:Run P n ops k st xs st'):∀(i:Nat) (x:Rd×Eff),xs[i]?=some x→
  GStep P n ops (k+i) (cG (fun j=>decide (j<k+i)) k xs st) x.1 x.2:=by
 induction h with
 | nil=>intro i x hx;simp at hx
 | @cons k st rd f xs st' B I r=>
  intro i x hx;cases i with
  | zero=>
   simp at hx;subst hx;have E:∀(q:REs) (m:Nat) (s:St),k<m→cG (fun j=>decide (j<k+0)) m q s=s:=by
    intro q
    induction q with
    | nil=>intro m s _;rfl
    | cons y q r=>
     intro m s hm;simp only[cG];have:decide (m<k+0)=false:=by simp;omega
     rw[this,Bp];exact r (m+1) _ (by omega)
   simp only[cG];have:decide (k<k+0)=false:=by simp
   rw[this,Bp];rw[E xs (k+1) st (by omega)];exact B
  | succ i=>
   simp at hx;have:=r i x hx;simp only[cG];have u:decide (k<k+(i+1))=true:=by simp
   rw[u,Bw];rw[show k+(i+1)=k+1+i by omega];exact this
theorem uN (L:Nat→Bool):∀(xs:REs) (k:Nat) (st:St),(cG L k xs st).d=st.d
 | [],_,_=>rfl
 | x::xs,k,st=>by
  rw[cG,uN L xs];cases L k<;>rfl
theorem eS (f:Eff) (st:St) {t:Nat}(h:t∉f.we):(f.apply st).e t=st.e t:=by
 unfold Eff.apply Eff.we at *;cases hd:f.d with
 | none=>rfl
 | some p=>
  obtain⟨k,v⟩:=p;simp only[hd] at h ⊢;exact bH _ _ _ (by simpa using h)
theorem wW {α:Type}:∀{l:List (Nat×α)}{i:Nat},i∉l.map (·.1)→look l i=none
 | [],_,_=>rfl
 | (k,x)::l,i,h=>by
  simp at h;have hb:Nat.beq i k=false:=by
   cases hb:Nat.beq i k with
   | false=>rfl
   | true=>exact absurd (Aa hb) h.1
  simp only[look,hb,As,Bq];exact wW (by simpa using h.2)
theorem cU {α:Type}:∀{l:List (Nat×α)}{i:Nat},i∈l.map (·.1)→∃x,look l i=some x
 | [],_,h=>by simp at h
 | (k,x)::l,i,h=>by
  by_cases hb:Nat.beq i k=true
  ·exact⟨x,by simp[look,hb]⟩
  ·have q:i≠k:=fun e=>hb (by subst e;simp)
   simp at hb;simp only[look];obtain⟨y,hy⟩:=cU (l:=l) (i:=i) (by simpa [q] using h);exact⟨y,by simp[hb,hy]⟩
theorem eR (f:Eff) (st:St) {i:Nat}(h:i∉f.wh):(f.apply st).h i=st.h i:=by
 unfold Eff.apply Eff.wh at *;simp only[iS,wW h]
theorem pD (f:Eff) (st st':St) {t:Nat}(h:t∈f.we):(f.apply st).e t=(f.apply st').e t:=by
 unfold Eff.apply Eff.we at *;cases hd:f.d with
 | none=>simp[hd] at h
 | some p=>
  obtain⟨k,v⟩:=p;simp only[hd] at h ⊢;simp at h;subst h;simp[aJ]
theorem pC (f:Eff) (st st':St) {i:Nat}(h:i∈f.wh):(f.apply st).h i=(f.apply st').h i:=by
 unfold Eff.apply Eff.wh at *;obtain⟨x,hx⟩:=cU h;simp only[iS,hx]
theorem oY (t:Nat):∀(xs:REs) (k:Nat) (L L':Nat→Bool) (st st':St),st.e t=st'.e t→(∀i x,xs[i]?=some x→L (k+i)≠L' (k+i)→t∉x.2.we)→(cG L k xs st).e t=(cG L' k xs st').e t:=by
 intro xs
 induction xs with
 | nil=>intro k L L' st st' h _;exact h
 | cons x xs r=>
  intro k L L' st st' h hx;simp only[cG];refine r (k+1) L L' _ _ ?_ fun i y hy u=>hx (i+1) y (by simpa using hy) (by rwa [show k+(i+1)=k+1+i by omega])
  have h0:=hx 0 x rfl;simp only[Cu] at h0;by_cases q:L k=L' k
  ·rw[q];cases L' k
   ·exact h
   ·by_cases hw:t∈x.2.we
    ·exact pD _ _ _ hw
    ·simp only[Bw];rw[eS _ _ hw,eS _ _ hw,h]
  ·have hw:=h0 q;cases L k<;>cases L' k<;>simp only[Bw,Bp,eS _ _ hw,h]
theorem oX (t:Nat):∀(xs:REs) (k:Nat) (L L':Nat→Bool) (st st':St),st.h t=st'.h t→(∀i x,xs[i]?=some x→L (k+i)≠L' (k+i)→t∉x.2.wh)→(cG L k xs st).h t=(cG L' k xs st').h t:=by
 intro xs
 induction xs with
 | nil=>intro k L L' st st' h _;exact h
 | cons x xs r=>
  intro k L L' st st' h hx;simp only[cG];refine r (k+1) L L' _ _ ?_ fun i y hy u=>hx (i+1) y (by simpa using hy) (by rwa [show k+(i+1)=k+1+i by omega])
  have h0:=hx 0 x rfl;simp only[Cu] at h0;by_cases q:L k=L' k
  ·rw[q];cases L' k
   ·exact h
   ·by_cases hw:t∈x.2.wh
    ·exact pC _ _ _ hw
    ·simp only[Bw];rw[eR _ _ hw,eR _ _ hw,h]
  ·have hw:=h0 q;cases L k<;>cases L' k<;>simp only[Bw,Bp,eR _ _ hw,h]
theorem xF (L:Nat→Bool) (m:Nat) (f:Eff):∀(xs:REs) (k:Nat) (rd:Rd) (st:St),k≤m→xs[m-k]?=some (rd,f)→L m=false→
  (∀i x,xs[i]?=some x→L (k+i)=true→m<k+i→(∀t∈f.we,t∉x.2.we)∧(∀t∈f.wh,t∉x.2.wh))→
  cG (fun j=>L j || Nat.beq j m) k xs st=f.apply (cG L k xs st):=by
 have tail:∀(xs:REs) (k:Nat) (st:St),m<k→(∀i x,xs[i]?=some x→L (k+i)=true→(∀t∈f.we,t∉x.2.we)∧(∀t∈f.wh,t∉x.2.wh))→
   cG (fun j=>L j || Nat.beq j m) k xs (f.apply st)=f.apply (cG L k xs st):=by
  intro xs
  induction xs with
  | nil=>intro k st _ _;rfl
  | cons x xs u=>
   intro k st I hx;simp only[cG];have hb:Nat.beq k m=false:=by
    cases hb:Nat.beq k m with
    | false=>rfl
    | true=>have:=Aa hb;omega
   rw[hb,Bool.or_false];have h0:=hx 0 x rfl;simp only[Cu] at h0;have r:∀i y,xs[i]?=some y→L (k+1+i)=true→(∀t∈f.we,t∉y.2.we)∧(∀t∈f.wh,t∉y.2.wh):=fun i y hy hl=>hx (i+1) y (by simpa using hy) (by rwa [show k+(i+1)=k+1+i by omega])
   cases J:L k with
   | false=>simp only[Bp];exact u (k+1) st (by omega) r
   | true=>
    simp only[Bw];obtain⟨h1,h2⟩:=h0 J;have hc:x.2.apply (f.apply st)=f.apply (x.2.apply st):=by
     have he:(x.2.apply (f.apply st)).e=(f.apply (x.2.apply st)).e:=funext fun t=>by
      by_cases ht:t∈f.we
      ·rw[eS _ _ (h1 t ht)];exact pD _ _ _ ht
      ·rw[eS f _ ht];by_cases q:t∈x.2.we
       ·exact pD _ _ _ q
       ·rw[eS _ _ q,eS _ _ q,eS _ _ ht]
     have hh:(x.2.apply (f.apply st)).h=(f.apply (x.2.apply st)).h:=funext fun t=>by
      by_cases ht:t∈f.wh
      ·rw[eR _ _ (h2 t ht)];exact pC _ _ _ ht
      ·rw[eR f _ ht];by_cases q:t∈x.2.wh
       ·exact pC _ _ _ q
       ·rw[eR _ _ q,eR _ _ q,eR _ _ ht]
     cases M:x.2.apply (f.apply st);cases hB:f.apply (x.2.apply st);have hd:(x.2.apply (f.apply st)).d=(f.apply (x.2.apply st)).d:=rfl;simp only[M,hB] at he hh hd;rw[he,hh,hd]
    rw[hc];exact u (k+1) _ (by omega) r
 intro xs
 induction xs with
 | nil=>intro k rd st _ hx;simp at hx
 | cons x xs u=>
  intro k rd st I hx hm hd;simp only[cG];by_cases B:k=m
  ·subst B;simp at hx;subst hx;have hb:Nat.beq k k=true:=by simp
   rw[hb,hm,Bool.or_true];simp only[Bw,Bp];exact tail xs (k+1) st (by omega) fun i y hy hl=>hd (i+1) y (by simpa using hy) (by rwa [show k+(i+1)=k+1+i by omega]) (by omega)
  ·have hb:Nat.beq k m=false:=by
    cases hb:Nat.beq k m with
    | false=>rfl
    | true=>exact absurd (Aa hb) B
   rw[hb,Bool.or_false];have E:xs[m-(k+1)]?=some (rd,f):=by
    rw[show m-k=(m-(k+1))+1 by omega] at hx;simpa using hx
   exact u (k+1) rd _ (by omega) E hm fun i y hy hl O=>hd (i+1) y (by simpa using hy) (by rwa [show k+(i+1)=k+1+i by omega]) (by omega)
def aWa:List Nat→List Nat→List Nat
 | [],acc=>acc
 | x::l,acc=>if acc.any (Nat.beq x) then aWa l acc else aWa l (x::acc)
def dd (l:List Nat):List Nat:=aWa l []
theorem uT:∀(l acc:List Nat) (x:Nat),x∈aWa l acc→x∈l∨x∈acc
 | [],_,_,h=>.inr h
 | y::l,acc,x,h=>by
  simp only[aWa] at h;split at h
  ·rcases uT l acc x h with h | h
   ·exact .inl (by simp[h])
   ·exact .inr h
  ·rcases uT l (y::acc) x h with h | h
   ·exact .inl (by simp[h])
   ·rcases Au.1 h with rfl | h
    ·exact .inl (by simp)
    ·exact .inr h
theorem aV9 {l:List Nat}{x:Nat}(h:x∈dd l):x∈l:=(uT l [] x h).resolve_right (by simp)
def zM:List Oper→List (List Nat)→List (List Nat)
 | [],acc=>acc
 | o::os,acc=>zM os (acc++[dd (o.after.toList.flatMap fun e=>if Region.binds .any e then e.on::(acc.getD e.on []) else [])])
def preds (ops:Array Oper):List (List Nat):=zM ops.toList []
def aV8 (a b:List Nat):Bool:=a.all fun x=>!(b.contains x)
def indep (x y:Rd×Eff):Bool:=aV8 x.2.we (y.1.e++y.2.we)&&aV8 x.2.wh (y.1.h++y.2.wh)&&aV8 y.2.we x.1.e&&aV8 y.2.wh x.1.h
def qM (ps:List Nat) (y:Rd×Eff):Nat→REs→Bool
 | _,[]=>true
 | i,x::xs=>(ps.contains i || indep x y)&&qM ps y (i+1) xs
def cZ:List (List Nat)→REs→REs→Bool
 | p::ps,y::ys,done=>qM p y 0 done&&cZ ps ys (done++[y])
 | _,[],_=>true
 | [],_::_,_=>false
def dV (ops:Array Oper):Bool:=ops.toList.zipIdx.all fun(o,i)=>o.after.toList.all fun e=>!Region.binds .any e || decide (e.on<i)
theorem dK {a b:List Nat}(h:aV8 a b=true):∀t∈a,t∉b:=by
 intro t ht hb;have:=Av.1 h t ht;simp at this;exact this hb
theorem vC {ps:List Nat}{y:Rd×Eff}:∀(xs:REs) (k:Nat),qM ps y k xs=true→∀i x,xs[i]?=some x→k+i∈ps∨indep x y=true:=by
 intro xs
 induction xs with
 | nil=>intro k _ i x hx;simp at hx
 | cons z xs q=>
  intro k h i x hx;simp only[qM,π,Ct] at h;cases i with
  | zero=>simp at hx;subst hx;simpa using h.1
  | succ i=>
   simp at hx;have:=q (k+1) h.2 i x hx;rwa [show k+(i+1)=k+1+i by omega]
theorem j9:∀(ps:List (List Nat)) (r done:REs),cZ ps r done=true→∀j y,r[j]?=some y→∃p,ps[j]?=some p∧∀i x,i<done.length+j→(done++r)[i]?=some x→i∈p∨indep x y=true:=by
 intro ps
 induction ps with
 | nil=>
  intro r done h j y hy;cases r with
  | nil=>simp at hy
  | cons _ _=>simp[cZ] at h
 | cons p ps E=>
  intro r done h j y hy;cases r with
  | nil=>simp at hy
  | cons z r=>
   simp only[cZ,π] at h;cases j with
   | zero=>
    simp at hy;subst hy;refine⟨p,rfl,fun i x hi hx=>?_⟩;have B:i<done.length:=by omega
    rw[Bc B] at hx;simpa using vC done 0 h.1 i x hx
   | succ j=>
    simp at hy;obtain⟨q,hq,u⟩:=E r (done++[z]) h.2 j y hy;refine⟨q,by simpa using hq,fun i x hi hx=>u i x (by simp;omega) (by simpa using hx)⟩
theorem pG (L:Nat→Bool):∀(os:List Oper) (acc:List (List Nat)),(∀i p,acc[i]?=some p→L i=true→∀j∈p,L j=true)→
  (∀i o,os[i]?=some o→L (acc.length+i)=true→∀e∈o.after.toList,Region.binds .any e=true→L e.on=true)→
  ∀i p,(zM os acc)[i]?=some p→L i=true→∀j∈p,L j=true:=by
 intro os
 induction os with
 | nil=>intro acc h _;exact h
 | cons o os I=>
  intro acc h ho;refine I _ ?_ ?_
  ·intro i p hp hl j hj;by_cases hi:i<acc.length
   ·rw[Bc hi] at hp;exact h i p hp hl j hj
   ·rw[A8 (by omega)] at hp;have y:i-acc.length=0:=by
     rcases Nat.eq_zero_or_pos (i-acc.length) with h0 | h0
     ·exact h0
     ·rw[List.getElem?_eq_none (by simp;omega)] at hp;cases hp
    have B:i=acc.length:=by omega
    rw[y] at hp;simp at hp;subst hp;have hj:=aV9 hj;simp only[Cj] at hj;obtain⟨e,he,r⟩:=hj;split at r
    ·rename_i hb;have u:=ho 0 o rfl (by simpa [B] using hl) e he hb;simp only[Au] at r;rcases r with rfl | r
     ·exact u
     ·cases hq:acc[e.on]? with
      | none=>simp[hq] at r
      | some q=>
       simp[hq] at r;exact h e.on q hq u j r
    ·simp at r
  ·intro i o' E hl;exact ho (i+1) o' (by simpa using E) (by simpa [add_assoc,Nat.add_comm 1 i] using hl)
def tM (ops:Array Oper) (listed:Array Bool):Prop:=∀(i:Nat) (o:Oper),ops[i]?=some o→listed.getD i false=true→∀e∈o.after.toList,Region.binds .any e=true→listed.getD e.on false=true
theorem iH {l:Array Bool}{i:Nat}(h:i<l.size):l.getD i true=l.getD i false:=by simp[h]
theorem oS {ops:Array Oper}{listed:Array Bool}(hl:listed.size=ops.size) {i:Nat}(h:i∈Region.ready .any ops listed):
  i<ops.size∧listed.getD i false=false∧∀o,ops[i]?=some o→∀e∈o.after.toList,Region.binds .any e=true→listed.getD e.on false=true:=by
 simp only[Region.ready,mem_filter,mem_range,π,Bm] at h;obtain⟨h1,h2,q⟩:=h;refine⟨h1,by rwa [←iH (by omega)],fun o ho e he hb=>?_⟩;simp only[ho,B6,Cm] at q;have:=(Array.all_eq_true_iff_forall_mem.1 q) e (by simpa using he);simpa [hb] using this
theorem aGq {P:Program}{n:Nat}{ops:Array Oper}{G:Ctx}{st st':St}{xs:REs}{Q:Exit→Act→World→Prop}(hr:Run P n ops 0 st xs st') (hlen:xs.length=ops.size)
  (hap:cZ (preds ops) xs []=true) (hed:dV ops=true)
  (hQ:∀S' μ' a' w',Sim G n S' μ' st' a' w'→Q .normal a' w'):
  ∀(fuel:Nat) (listed:Array Bool),listed.size=ops.size→((List.range ops.size).filter fun i=>!listed.getD i false).length=fuel→tM ops listed→
   ∀S μ a w,Sim G n S μ (cG (fun j=>listed.getD j false) 0 xs st) a w→∀ro,wpAnyIn (Wd ro) 0 P .any ops Q fuel listed a w:=by
 have Y:∀(listed:Array Bool),listed.size=ops.size→Region.ready .any ops listed=[]→∀S μ a w,Sim G n S μ (cG (fun j=>listed.getD j false) 0 xs st) a w→Q .normal a w:=by
  intro listed hl E S μ a w hs;have hall:∀i,i<ops.size→listed.getD i false=true:=by
   intro i
   induction i using Nat.strongRecOn with
   | _ i ih=>
    intro hi;cases hc:listed.getD i false with
    | true=>rfl
    | false=>
     exfalso;have:i∈Region.ready .any ops listed:=by
      simp only[Region.ready,mem_filter,mem_range,π,Bm];refine⟨hi,by rw[iH (by omega)];exact hc,?_⟩;have ho:ops[i]?=some ops[i]:=by simp[hi]
      simp only[ho,B6,Cm];refine Array.all_eq_true_iff_forall_mem.2 fun e he=>?_
      have hlt:=(Av.1 hed) (ops[i],i) (by
       rw[List.mem_iff_getElem?]
       exact⟨i,by simp[hi]⟩)
      have r:=(Av.1 hlt) e (by simpa using he);simp only[Ct,Bm,decide_eq_true_eq] at r ⊢;rcases r with r | r
      ·exact .inl r
      ·exact .inr (ih e.on r (by omega))
     rw[E] at this;simp at this
  have he:cG (fun j=>listed.getD j false) 0 xs st=st':=by
   rw[←hr.final (fun _=>true) (fun _ _=>rfl)];have key:∀i x,xs[i]?=some x→listed.getD (0+i) false≠true→False:=by
    intro i x hx q;have hi:i<xs.length:=(Ai.1 hx).1
    exact q (by rw[Bj];exact hall i (by omega))
   have e1:(cG (fun j=>listed.getD j false) 0 xs st).e=(cG (fun _=>true) 0 xs st).e:=funext fun t=>oY t xs 0 _ _ _ _ rfl fun i x hx q=>(key i x hx q).elim
   have e2:(cG (fun j=>listed.getD j false) 0 xs st).h=(cG (fun _=>true) 0 xs st).h:=funext fun t=>oX t xs 0 _ _ _ _ rfl fun i x hx q=>(key i x hx q).elim
   cases hA:cG (fun j=>listed.getD j false) 0 xs st;cases hB:cG (fun _=>true) 0 xs st;simp only[hA,hB] at e1 e2;have e3:(cG (fun j=>listed.getD j false) 0 xs st).d=(cG (fun _=>true) 0 xs st).d:=by rw[uN,uN]
   simp only[hA,hB] at e3;rw[e1,e2,e3]
  rw[he] at hs;exact hQ S μ a w hs
 intro fuel
 induction fuel with
 | zero=>
  intro listed hl hf _ S μ a w hs;have E:Region.ready .any ops listed=[]:=by
   rw[List.eq_nil_iff_forall_not_mem];intro i hi;obtain⟨h1,h2,_⟩:=oS hl hi;have:i∈(List.range ops.size).filter fun i=>!listed.getD i false:=by simp only[mem_filter,mem_range,Bm];exact⟨h1,h2⟩
   rw[Aw hf] at this;simp at this
  exact fun _=>⟨E,Y listed hl E S μ a w hs⟩
 | succ fuel ih=>
  intro listed hl hf hcl S μ a w hs ro;refine⟨fun E=>Y listed hl E S μ a w hs,fun i hi=>?_⟩;obtain⟨h1,h2,h3⟩:=oS hl hi;have hx:xs[i]?=some xs[i]:=by simp[hlen,h1]
  have ho:ops[i]?=some ops[i]:=by simp[h1]
  have aa:tM ops (listed.setIfInBounds i true):=by
   intro j o hj u e he hb;simp only[Ah,Bb] at u ⊢;have ab:listed.getD e.on false=true→(if i=e.on then if i<listed.size then some true else none else listed[e.on]?).getD false=true:=by
    intro hh;split
    ·simp[hl,h1]
    ·rwa [Ah] at hh
   by_cases O:i=j
   ·subst O;exact ab (h3 o hj e he hb)
   ·rw[ξ O] at u;exact ab (hcl j o hj (by rwa [Ah]) e he hb)
  have hpd:∀(L:Array Bool),tM ops L→∀k p,(preds ops)[k]?=some p→L.getD k false=true→∀j∈p,L.getD j false=true:=by
   intro L hL k p hp B;refine pG (fun j=>L.getD j false) ops.toList [] (by simp) ?_ k p hp B;intro k' o ho' hl' e he hb;exact hL k' o (by simpa using ho') (by simpa using hl') e he hb
  have J:(listed.setIfInBounds i true).getD i false=true:=by simp[hl,h1]
  have hold:∀j,j≠i→(listed.setIfInBounds i true).getD j false=listed.getD j false:=by
   intro j hj;simp only[Ah,Bb];rw[ξ (fun e=>hj e.symm)]
  have hdis1:∀j y,xs[j]?=some y→j<i→listed.getD j false=false→indep y xs[i]=true:=by
   intro j y hy hji u;obtain⟨p,hp,M⟩:=j9 _ _ _ hap i _ hx;rcases M j y (by simpa using hji) (by simpa using hy) with hm | hm
   ·have:=hpd _ aa i p hp J j hm;rw[hold j (by omega)] at this;rw[this] at u;cases u
   ·exact hm
  have U:∀j y,xs[j]?=some y→i<j→listed.getD j false=true→indep xs[i] y=true:=by
   intro j y hy O u;obtain⟨p,hp,M⟩:=j9 _ _ _ hap j _ hy;rcases M i xs[i] (by simpa using O) (by simp) with hm | hm
   ·have:=hpd _ hcl j p hp u i hm;rw[this] at h2;cases h2
   ·exact hm
  have hg:=hr.at i _ hx;simp only[Bj] at hg;have hag:fR xs[i].1 (cG (fun j=>decide (j<i)) 0 xs st) (cG (fun j=>listed.getD j false) 0 xs st):=by
   have key:∀k x,xs[k]?=some x→listed.getD (0+k) false≠decide (0+k<i)→(∀t∈xs[i].1.e,t∉x.2.we)∧(∀t∈xs[i].1.h,t∉x.2.wh):=by
    intro k x B q;rw[Bj] at q;by_cases ac:k<i
    ·have I:listed.getD k false=false:=by
      cases hc:listed.getD k false with
      | false=>rfl
      | true=>simp[hc,ac] at q
     have hd:=hdis1 k x B ac I;simp only[indep,π] at hd;obtain⟨⟨⟨d1,d2⟩,d3⟩,d4⟩:=hd;exact⟨fun t ht hw=>dK d1 t hw (by simp[ht]),fun t ht hw=>dK d2 t hw (by simp[ht])⟩
    ·by_cases hke:k=i
     ·subst hke;rw[h2] at q;simp at q
     ·have I:listed.getD k false=true:=by
       cases hc:listed.getD k false with
       | true=>rfl
       | false=>simp[hc,ac] at q
      have hd:=U k x B (by omega) I;simp only[indep,π] at hd;obtain⟨⟨⟨d1,d2⟩,d3⟩,d4⟩:=hd;exact⟨fun t ht hw=>dK d3 t hw ht,fun t ht hw=>dK d4 t hw ht⟩
   exact⟨fun t ht=>oY t xs 0 _ _ _ _ rfl fun k x B q=>(key k x B q).1 t ht,fun t ht=>oX t xs 0 _ _ _ _ rfl fun k x B q=>(key k x B q).2 t ht⟩
  refine hg _ hag G S μ a w _ Q hs (fun S' μ' a' w' hs'=>?_) ro;refine ih (listed.setIfInBounds i true) (by simp[hl]) ?_ aa S' μ' a' w' ?_ ro
  ·--one fewer is left
   have:∀(l:List Nat),l.Nodup→i∈l→((l.filter fun j=>!listed.getD j false).length=((l.filter fun j=>!(listed.setIfInBounds i true).getD j false).length)+1):=by
    intro l
    induction l with
    | nil=>intro _ h;simp at h
    | cons b l ihl=>
     intro hnd hmem;have ad:=(nodup_cons.1 hnd)
     by_cases hb:b=i
     ·subst hb;have hno:∀j∈l,(!(listed.setIfInBounds b true).getD j false)=(!listed.getD j false):=fun j hj=>by rw[hold j (fun e=>ad.1 (e▸hj))]
      rw[B9,B9,h2,J];simp only[Bool.not_false,Cv,Bool.not_true,As,Bq,χ];rw[List.filter_congr hno]
     ·have hm':i∈l:=(Au.1 hmem).resolve_left fun e=>hb e.symm
      have:=ihl ad.2 hm';rw[B9,B9,hold b hb];split
      ·simp only[χ];omega
      ·exact this
   have:=this (List.range ops.size) List.nodup_range (by simpa using h1);omega
  ·have hadd:=xF (fun j=>listed.getD j false) i xs[i].2 xs 0 xs[i].1 st (ε _) (by rw[sub_zero,hx]) h2 (by
    intro k x B I hik;rw[Bj] at I hik;have hd:=U k x B hik I;simp only[indep,π] at hd;obtain⟨⟨⟨d1,d2⟩,d3⟩,d4⟩:=hd
    exact⟨fun t ht hw=>dK d1 t ht (by simp[hw]),fun t ht hw=>dK d2 t ht (by simp[hw])⟩)
   rw[←hadd] at hs';have hfe:(fun j=>(listed.setIfInBounds i true).getD j false)=fun j=>listed.getD j false || Nat.beq j i:=funext fun j=>by
    by_cases hj:j=i
    ·subst hj;rw[J];simp
    ·rw[hold j hj];have hb:Nat.beq j i=false:=by
      cases hb:Nat.beq j i with
      | false=>rfl
      | true=>exact absurd (Aa hb) hj
     rw[hb,Bool.or_false]
   rw[hfe];exact hs'
def aI7:Value→Option C
 | .int k n=>some (.int k n)
 | .bool b=>some (.bool b)
 | .string ⟨⟨l⟩⟩=>some (.str l)
 | .slice none 0 0=>some .nl
 | .pointer none=>some .np
 | .map none=>some (.zv 0)
 | .nilFunc=>some (.zv 1)
 | .nilIface=>some (.zv 2)
 | _=>none
def xR:List Value→Option (List C)
 | []=>some []
 | v::vs=>(aI7 v).bind fun c=>(xR vs).bind fun cs=>some (c::cs)
def aI6:Value→Option V
 | .int k n=>some (.one (.c (.int k n)))
 | .bool b=>some (.one (.c (.bool b)))
 | .string s=>some (.one (.c (.str s.data.toList)))
 | .slice none 0 0=>some (.one (.c .nl))
 | .pointer none=>some (.one (.c .np))
 | .map none=>some (.one (.c (.zv 0)))
 | .nilFunc=>some (.one (.c (.zv 1)))
 | .nilIface=>some (.one (.c (.zv 2)))
 | .agg vs=>(xR vs.toList).bind fun cs=>some (.pa cs)
 | _=>none
def opv (st:St):Operand→Option V
 | .tmp t=>st.e t
 | .const v=>aI6 v
 | .func f=>some (.one (.clo f []))
 | .global _=>none
def opr:Operand→List Nat
 | .tmp t=>[t]
 | _=>[]
theorem aE4 {S:Sto}{v:Value}{c:C}(h:aI7 v=some c):Rep S c v:=by
 unfold aI7 at h;split at h<;>first | (cases h;simp[Rep,aTg];done) | cases h
theorem tC {S:Sto}:∀{vs:List Value}{cs:List C},xR vs=some cs→c0 S cs vs
 | [],cs,h=>by cases h;rw[c0]
 | v::vs,cs,h=>by
  rw[xR] at h;obtain⟨c,h1,h⟩:=Ag.1 h;obtain⟨cs',h2,h⟩:=Ag.1 h;cases h;rw[c0];exact⟨v,vs,rfl,aE4 h1,tC h2⟩
theorem aE3 {S:Sto}{μ:Mu}{H:cE}{v:Value}{x:V}(h:aI6 v=some x):aO S μ H x v:=by
 unfold aI6 at h;split at h<;>first | (cases h;simp[aO,aZ,Rep,aTg];done) | cases h | skip
 obtain⟨cs,h1,h⟩:=Ag.1 h;cases h;have:=tC (S:=S) h1;rw[aO];exact⟨_,rfl,this⟩
theorem aM {G:Ctx}{n:Nat}{S:Sto}{μ:Mu}{st st':St}{a:Act}{w:World}{x:Operand}{v:V}(hs:Sim G n S μ st' a w) (h:opv st x=some v) (ha:∀t∈opr x,st'.e t=st.e t):aO S μ st'.h v (a.eval x):=by
 cases x with
 | tmp t=>exact hs.env t v (by rw[ha t (by simp[opr])];exact h)
 | const u=>exact aE3 h
 | func f=>simp[opv] at h;subst h;simp[aO,aZ,aR,Act.eval]
 | global g=>simp[opv] at h
section
variable {P:Program}{n:Nat}{o:Oper}{st:St}{d:Nat}
theorem Step.value {rd:Rd}{y:V}(hd:o.dst=some d) (q:d<n)
  (h:∀st',fR rd st st'→∀G S μ a w,Sim G n S μ st' a w→∃v,(execOp a.eval o).run P w=.ok (.value v) w∧aO S μ st'.h y v):Step P n o st rd ⟨some (d,some y),[]⟩:=by
 intro st' ha G S μ a w K Q hs r;obtain⟨v,u,hv⟩:=h st' ha G S μ a w hs;refine fun ro=>eY u ?_
 rw[hd];exact r S μ _ _ (hs.put hs.inv (Evolve.refl _ _ _) q fun z B=>by cases B;exact hv)
theorem aGz {x:Operand}{y:V}(ho:o.op=.move x) (hd:o.dst=some d) (q:d<n) (hx:opv st x=some y):Step P n o st ⟨opr x,[]⟩ ⟨some (d,some y),[]⟩:=
 Step.value hd q fun _ ha _ _ _ a _ hs=>⟨a.eval x,by simp[execOp,ho],aM hs hx ha.1⟩
theorem aL4 {x:Operand}{y:V}(ho:o.op=.assign x) (hd:o.dst=some d) (q:d<n) (hx:opv st x=some y):Step P n o st ⟨opr x,[]⟩ ⟨some (d,some y),[]⟩:=
 Step.value hd q fun _ ha _ _ _ a _ hs=>⟨a.eval x,by simp[execOp,ho],aM hs hx ha.1⟩
theorem dT {S:Sto}{μ:Mu}{H:cE}{k:IntKind}{m:Int}{v:Value}(h:aO S μ H (.one (.c (.int k m))) v):v=.int k m:=by simpa [aO,aZ,Rep] using h
theorem iZ {S:Sto}{μ:Mu}{H:cE}{b:Bool}{v:Value}(h:aO S μ H (.one (.c (.bool b))) v):v=.bool b:=by simpa [aO,aZ,Rep] using h
theorem lH {S:Sto}{μ:Mu}{H:cE}{b:List UInt8}{v:Value}(h:aO S μ H (.one (.c (.str b))) v):v=.string ⟨⟨b⟩⟩:=by simpa [aO,aZ,Rep] using h
abbrev I (k:IntKind) (m:Int):V:=.one (.c (.int k m))
abbrev B (b:Bool):V:=.one (.c (.bool b))
abbrev T (s:List UInt8):V:=.one (.c (.str s))
theorem dA {x y:Operand}{st':St}(ha:fR ⟨opr x++opr y,[]⟩ st st'):(∀t∈opr x,st'.e t=st.e t)∧(∀t∈opr y,st'.e t=st.e t):=
 ⟨fun t h=>ha.1 t (by simp[h]),fun t h=>ha.1 t (by simp[h])⟩
theorem dS {op:BinOp}{q ty:TypeId}{x y:Operand}{k:IntKind}{a b:Int}{z:V}(ho:o.op=.binOp op q x y ty) (hd:o.dst=some d) (r:d<n) (hx:opv st x=some (I k a)) (hy:opv st y=some (I k b))
  (u:∀w:World,∃v,(binOp op q (.int k a) (.int k b)).run P w=.ok v w∧∀S μ H,aO S μ H z v):Step P n o st ⟨opr x++opr y,[]⟩ ⟨some (d,some z),[]⟩:=by
 refine Step.value hd r fun _ ha _ _ _ ac w hs=>?_
 have h1:=dT (aM hs hx (dA ha).1);have h2:=dT (aM hs hy (dA ha).2);obtain⟨v,B,E⟩:=u w;refine⟨v,?_,E _ _ _⟩;simp only[execOp,ho,h1,h2,Ab];have:(eqGuard op q x y (.int k a) (.int k b)).run P w=.ok () w:=by
  unfold eqGuard;split<;>rfl
 rw[this];simp only[δ,B,Ac]
theorem aQ2 {u ty:TypeId}{x y:Operand}{k:IntKind}{a b r:Int}(ho:o.op=.binOp .add u x y ty) (hd:o.dst=some d) (q:d<n) (hx:opv st x=some (I k a)) (hy:opv st y=some (I k b)) (B:k.wrap (a+b)=r):
  Step P n o st ⟨opr x++opr y,[]⟩ ⟨some (d,some (I k r)),[]⟩:=
 dS ho hd q hx hy fun w=>⟨.int k r,by simp[binOp,Op.intArith,B],fun _ _ _=>by simp[aO,aZ,Rep]⟩
theorem aQr {u ty:TypeId}{x y:Operand}{k:IntKind}{a b r:Int}(ho:o.op=.binOp .sub u x y ty) (hd:o.dst=some d) (q:d<n) (hx:opv st x=some (I k a)) (hy:opv st y=some (I k b)) (B:k.wrap (a-b)=r):
  Step P n o st ⟨opr x++opr y,[]⟩ ⟨some (d,some (I k r)),[]⟩:=
 dS ho hd q hx hy fun w=>⟨.int k r,by simp[binOp,Op.intArith,B],fun _ _ _=>by simp[aO,aZ,Rep]⟩
theorem aQv {u ty:TypeId}{x y:Operand}{k:IntKind}{a b r:Int}(ho:o.op=.binOp .mul u x y ty) (hd:o.dst=some d) (q:d<n) (hx:opv st x=some (I k a)) (hy:opv st y=some (I k b)) (B:k.wrap (a*b)=r):
  Step P n o st ⟨opr x++opr y,[]⟩ ⟨some (d,some (I k r)),[]⟩:=
 dS ho hd q hx hy fun w=>⟨.int k r,by simp[binOp,Op.intArith,B],fun _ _ _=>by simp[aO,aZ,Rep]⟩
theorem aYv {u ty:TypeId}{x y:Operand}{k:IntKind}{a b r:Int}(ho:o.op=.binOp .quo u x y ty) (hd:o.dst=some d) (q:d<n) (hx:opv st x=some (I k a)) (hy:opv st y=some (I k b)) (hb:b≠0) (B:k.wrap (a.tdiv b)=r):
  Step P n o st ⟨opr x++opr y,[]⟩ ⟨some (d,some (I k r)),[]⟩:=
 dS ho hd q hx hy fun w=>⟨.int k r,by simp[binOp,Op.intDiv,hb,B],fun _ _ _=>by simp[aO,aZ,Rep]⟩
theorem aYu {u ty:TypeId}{x y:Operand}{k:IntKind}{a b r:Int}(ho:o.op=.binOp .rem u x y ty) (hd:o.dst=some d) (q:d<n) (hx:opv st x=some (I k a)) (hy:opv st y=some (I k b)) (hb:b≠0) (B:a.tmod b=r):
  Step P n o st ⟨opr x++opr y,[]⟩ ⟨some (d,some (I k r)),[]⟩:=
 dS ho hd q hx hy fun w=>⟨.int k r,by simp[binOp,Op.intDiv,hb,B],fun _ _ _=>by simp[aO,aZ,Rep]⟩
theorem aY1 {r ty:TypeId}{x y:Operand}{k:IntKind}{a b:Int}(ho:o.op=.binOp .lss r x y ty) (hd:o.dst=some d) (q:d<n) (hx:opv st x=some (I k a)) (hy:opv st y=some (I k b)):
  Step P n o st ⟨opr x++opr y,[]⟩ ⟨some (d,some (B (decide (a<b)))),[]⟩:=
 dS ho hd q hx hy fun w=>⟨.bool (decide (a<b)),by simp[binOp,Op.intCmp],fun _ _ _=>by simp[aO,aZ,Rep]⟩
theorem aY2 {r ty:TypeId}{x y:Operand}{k:IntKind}{a b:Int}(ho:o.op=.binOp .leq r x y ty) (hd:o.dst=some d) (q:d<n) (hx:opv st x=some (I k a)) (hy:opv st y=some (I k b)):
  Step P n o st ⟨opr x++opr y,[]⟩ ⟨some (d,some (B (decide (a≤b)))),[]⟩:=
 dS ho hd q hx hy fun w=>⟨.bool (decide (a≤b)),by simp[binOp,Op.intCmp],fun _ _ _=>by simp[aO,aZ,Rep]⟩
theorem aY3 {r ty:TypeId}{x y:Operand}{k:IntKind}{a b:Int}(ho:o.op=.binOp .gtr r x y ty) (hd:o.dst=some d) (q:d<n) (hx:opv st x=some (I k a)) (hy:opv st y=some (I k b)):
  Step P n o st ⟨opr x++opr y,[]⟩ ⟨some (d,some (B (decide (b<a)))),[]⟩:=
 dS ho hd q hx hy fun w=>⟨.bool (decide (b<a)),by simp[binOp,Op.intCmp],fun _ _ _=>by simp[aO,aZ,Rep]⟩
theorem aY4 {r ty:TypeId}{x y:Operand}{k:IntKind}{a b:Int}(ho:o.op=.binOp .geq r x y ty) (hd:o.dst=some d) (q:d<n) (hx:opv st x=some (I k a)) (hy:opv st y=some (I k b)):
  Step P n o st ⟨opr x++opr y,[]⟩ ⟨some (d,some (B (decide (b≤a)))),[]⟩:=
 dS ho hd q hx hy fun w=>⟨.bool (decide (b≤a)),by simp[binOp,Op.intCmp],fun _ _ _=>by simp[aO,aZ,Rep]⟩
theorem aY5 {r ty:TypeId}{x y:Operand}{k:IntKind}{a b:Int}(ho:o.op=.binOp .eql r x y ty) (hd:o.dst=some d) (q:d<n) (hx:opv st x=some (I k a)) (hy:opv st y=some (I k b)):
  Step P n o st ⟨opr x++opr y,[]⟩ ⟨some (d,some (B (decide (a=b)))),[]⟩:=
 dS ho hd q hx hy fun w=>⟨.bool (decide (a=b)),by simp[binOp,Op.intCmp];rfl,fun _ _ _=>by simp[aO,aZ,Rep]⟩
theorem aYx {r ty:TypeId}{x y:Operand}{k:IntKind}{a b:Int}(ho:o.op=.binOp .neq r x y ty) (hd:o.dst=some d) (q:d<n) (hx:opv st x=some (I k a)) (hy:opv st y=some (I k b)):
  Step P n o st ⟨opr x++opr y,[]⟩ ⟨some (d,some (B (!decide (a=b)))),[]⟩:=
 dS ho hd q hx hy fun w=>⟨.bool (!decide (a=b)),by simp[binOp,Op.intCmp];rfl,fun _ _ _=>by simp[aO,aZ,Rep]⟩
theorem nM {op:BinOp}{q ty:TypeId}{x y:Operand}{a b:List UInt8}{z:V}(ho:o.op=.binOp op q x y ty) (hd:o.dst=some d) (r:d<n) (hx:opv st x=some (T a)) (hy:opv st y=some (T b))
  (B:∀w:World,∃v,(Op.stringOp op ⟨⟨a⟩⟩ ⟨⟨b⟩⟩).run P w=.ok v w∧∀S μ H,aO S μ H z v) (u:∀w:World,(binOp op q (.string ⟨⟨a⟩⟩) (.string ⟨⟨b⟩⟩)).run P w=(Op.stringOp op ⟨⟨a⟩⟩ ⟨⟨b⟩⟩).run P w):Step P n o st ⟨opr x++opr y,[]⟩ ⟨some (d,some z),[]⟩:=by
 refine Step.value hd r fun _ ha _ _ _ ac w hs=>?_
 have h1:=lH (aM hs hx (dA ha).1);have h2:=lH (aM hs hy (dA ha).2);obtain⟨v,E,I⟩:=B w;refine⟨v,?_,I _ _ _⟩;simp only[execOp,ho,h1,h2,Ab];have:(eqGuard op q x y (.string ⟨⟨a⟩⟩) (.string ⟨⟨b⟩⟩)).run P w=.ok () w:=by
  unfold eqGuard;split<;>rfl
 rw[this];simp only[δ,u,E,Ac]
theorem iE (a:List UInt8):(ByteArray.mk ⟨a⟩).toList=a:=by rw[ByteArray.toList_eq]
theorem aUr {r ty:TypeId}{x y:Operand}{a b:List UInt8}(ho:o.op=.binOp .eql r x y ty) (hd:o.dst=some d) (q:d<n) (hx:opv st x=some (T a)) (hy:opv st y=some (T b)):
  Step P n o st ⟨opr x++opr y,[]⟩ ⟨some (d,some (B (decide (a=b)))),[]⟩:=
 nM ho hd q hx hy (fun w=>⟨.bool (decide (a=b)),by simp only[Op.stringOp,iE,Ac];congr 2;exact(Bool.beq_eq_decide_eq a b),fun _ _ _=>by simp[aO,aZ,Rep]⟩) fun _=>rfl
theorem aUp {r ty:TypeId}{x y:Operand}{a b:List UInt8}(ho:o.op=.binOp .neq r x y ty) (hd:o.dst=some d) (q:d<n) (hx:opv st x=some (T a)) (hy:opv st y=some (T b)):
  Step P n o st ⟨opr x++opr y,[]⟩ ⟨some (d,some (B (!decide (a=b)))),[]⟩:=
 nM ho hd q hx hy (fun w=>⟨.bool (!decide (a=b)),by simp only[Op.stringOp,iE,Ac];rw[Bool.beq_eq_decide_eq a b],fun _ _ _=>by simp[aO,aZ,Rep]⟩) fun _=>rfl
theorem aUt {r ty:TypeId}{x y:Operand}{a b:List UInt8}(ho:o.op=.binOp .add r x y ty) (hd:o.dst=some d) (q:d<n) (hx:opv st x=some (T a)) (hy:opv st y=some (T b)) (hl:a.length+b.length≤maxLen):
  Step P n o st ⟨opr x++opr y,[]⟩ ⟨some (d,some (T (a++b))),[]⟩:=
 nM ho hd q hx hy (fun w=>⟨.string ⟨⟨a++b⟩⟩,by
  have h1:(ByteArray.mk ⟨a⟩).size=a.length:=rfl;have h2:(ByteArray.mk ⟨b⟩).size=b.length:=rfl;have u:¬(((ByteArray.mk ⟨a⟩).size+(ByteArray.mk ⟨b⟩).size:Nat):Int)>IntKind.i64.max:=by
   rw[h1,h2];simp only[IntKind.max,IntKind.signed];unfold maxLen at hl;simp[IntKind.bits];omega
  have B:(ByteArray.mk ⟨a⟩)++(ByteArray.mk ⟨b⟩)=(⟨⟨a++b⟩⟩:ByteArray):=by
   apply ByteArray.ext;simp
  simp only[Op.stringOp];rw[ξ u,B]
  rfl,fun _ _ _=>by simp[aO,aZ,Rep]⟩) fun _=>rfl
theorem aUq {r ty:TypeId}{x y:Operand}{a b:List UInt8}(ho:o.op=.binOp .lss r x y ty) (hd:o.dst=some d) (q:d<n) (hx:opv st x=some (T a)) (hy:opv st y=some (T b)):
  Step P n o st ⟨opr x++opr y,[]⟩ ⟨some (d,some (B (Op.bytesLess a b))),[]⟩:=
 nM ho hd q hx hy (fun w=>⟨.bool (Op.bytesLess a b),by simp only[Op.stringOp,iE,Ac],fun _ _ _=>by simp[aO,aZ,Rep]⟩) fun _=>rfl
theorem aYw {t:TypeId}{x:Operand}{b:Bool}(ho:o.op=.unOp .not t x) (hd:o.dst=some d) (q:d<n) (hx:opv st x=some (B b)):Step P n o st ⟨opr x,[]⟩ ⟨some (d,some (B (!b))),[]⟩:=by
 refine Step.value hd q fun _ ha _ _ _ ac w hs=>?_
 have h1:=iZ (aM hs hx ha.1);exact⟨.bool (!b),by simp[execOp,ho,h1,Op.unary],by simp[aO,aZ,Rep]⟩
theorem aYy {t:TypeId}{x:Operand}{k:IntKind}{a r:Int}(ho:o.op=.unOp .neg t x) (hd:o.dst=some d) (q:d<n) (hx:opv st x=some (I k a)) (u:k.wrap (0-a)=r):Step P n o st ⟨opr x,[]⟩ ⟨some (d,some (I k r)),[]⟩:=by
 refine Step.value hd q fun _ ha _ _ _ ac w hs=>?_
 have h1:=dT (aM hs hx ha.1);refine⟨.int k r,?_,by simp[aO,aZ,Rep]⟩;simp only[Int.zero_sub] at u;simp[execOp,ho,h1,Op.unary,Op.intArith,u]
theorem aLw {c x y:Operand}{b:Bool}{z:V}(ho:o.op=.pick c x y) (hd:o.dst=some d) (q:d<n) (hc:opv st c=some (B b)) (hb:b=true) (hx:opv st x=some z):Step P n o st ⟨opr c++opr x,[]⟩ ⟨some (d,some z),[]⟩:=by
 refine Step.value hd q fun _ ha _ _ _ ac w hs=>?_
 have h1:=iZ (aM hs hc (dA ha).1);subst hb;exact⟨ac.eval x,by simp[execOp,ho,h1,asBool],aM hs hx (dA ha).2⟩
theorem aLx {c x y:Operand}{b:Bool}{z:V}(ho:o.op=.pick c x y) (hd:o.dst=some d) (q:d<n) (hc:opv st c=some (B b)) (hb:b=false) (hy:opv st y=some z):Step P n o st ⟨opr c++opr y,[]⟩ ⟨some (d,some z),[]⟩:=by
 refine Step.value hd q fun _ ha _ _ _ ac w hs=>?_
 have h1:=iZ (aM hs hc (dA ha).1);subst hb;exact⟨ac.eval y,by simp[execOp,ho,h1,asBool],aM hs hy (dA ha).2⟩
theorem aG8 {x:Operand}{i:Nat}{l:List V}{z:V}(ho:o.op=.extract x i) (hd:o.dst=some d) (q:d<n) (hx:opv st x=some (.tup l)) (hi:l[i]?=some z):Step P n o st ⟨opr x,[]⟩ ⟨some (d,some z),[]⟩:=by
 refine Step.value hd q fun st' ha _ S μ ac w hs=>?_
 have h1:=aM hs hx ha.1;simp only[aO] at h1;obtain⟨vs,h1,h2⟩:=h1;have:∀(l:List V) (vs:List Value) (i:Nat),b5 S μ st'.h l vs→l[i]?=some z→∃v,vs[i]?=some v∧aO S μ st'.h z v:=by
  intro l
  induction l with
  | nil=>intro vs i _ h;simp at h
  | cons r rs u=>
   intro vs i h hi;simp only[b5] at h;obtain⟨v,vs',rfl,h1,h2⟩:=h;cases i with
   | zero=>simp at hi;subst hi;exact⟨v,rfl,h1⟩
   | succ i=>simp at hi;simpa using u vs' i h2 hi
 obtain⟨v,y,B⟩:=this l vs i h2 hi;refine⟨v,?_,B⟩;simp[execOp,ho,h1,Instr.extract,y]
end
inductive TK where
 | bool | int (k:IntKind) | str | pt (e:TypeId) | sl (e:TypeId) | mp (k e:TypeId) | fn
 | st (fs:List (Nat×TypeId)) | ar (m:Nat) (e:TypeId)
 deriving DecidableEq,Inhabited
structure TI where
 k:TK
 size:Nat
 bytes:Nat
 zero:List C
 deriving Inhabited
abbrev TT:=List (Option TI)
def aJa:C→Value→Bool
 | .int k n,.int k' n'=>k==k'&&n==n'
 | .bool b,.bool b'=>b==b'
 | .str s,.string t=>s==t.data.toList
 | .nl,.slice none 0 0=>true
 | .np,.pointer none=>true
 | .zv 0,.map none=>true
 | .zv 1,.nilFunc=>true
 | .zv 2,.nilIface=>true
 | _,_=>false
def rT:List C→List Value→Bool
 | [],[]=>true
 | c::cs,v::vs=>aJa c v&&rT cs vs
 | _,_=>false
def TK.fits:TK→TypeDesc→Bool
 | .bool,.bool=>true
 | .int k,.int k'=>k==k'
 | .str,.string=>true
 | .pt e,.pointer e'=>e==e'
 | .sl e,.slice e'=>e==e'
 | .mp k e,.map k' e'=>k==k'&&e==e'
 | .fn,.func _ _ _=>true
 | .st fs,.struct fields=>fs==fields.toList.map fun f=>(f.offset,f.type)
 | .ar m e,.array m' e'=>m==m'&&e==e'
 | _,_=>false
def TK.agg:TK→Bool
 | .st _=>true
 | .ar _ _=>true
 | _=>false
def TI.check (P:Program) (t:TypeId) (i:TI):Bool:=
 match P.info? t,P.underlying t with
 | some inf,some d=>(inf.size==i.size&&(i.zero.length==i.size&&(i.k.agg || i.size==1)))&&inf.bytes==i.bytes&&i.k.fits d&&
   (match inf.zero with | some z=>rT i.zero z.cells.toList&&(match i.k.agg,z with | true,.agg _=>true | true,_=>false | false,.agg _=>false | false,_=>true) | none=>false)
 | _,_=>false
def TT.check (P:Program) (T:TT):Bool:=T.zipIdx.all fun(i,t)=>match i with | some i=>i.check P t | none=>true
theorem aE5 {S:Sto}{c:C}{v:Value}(h:aJa c v=true):Rep S c v:=by
 unfold aJa at h;split at h<;>simp_all [Rep,aTg]
theorem hJ {S:Sto}:∀{c:List C}{v:List Value},rT c v=true→c0 S c v
 | [],[],_=>by simp[c0]
 | c::cs,v::vs,h=>by
  simp only[rT,π] at h;simp only[c0];exact⟨v,vs,rfl,aE5 h.1,hJ h.2⟩
 | [],_::_,h=>by simp[rT] at h
 | _::_,[],h=>by simp[rT] at h
def Tok (P:Program) (T:TT):Prop:=TT.check P T=true
structure TIok (P:Program) (t:TypeId) (i:TI):Prop where
 ex:∃inf d z,P.info? t=some inf∧P.underlying t=some d∧inf.size=i.size∧inf.bytes=i.bytes∧i.k.fits d=true∧inf.zero=some z∧rT i.zero z.cells.toList=true∧(z=if i.k.agg then .agg z.cells else z)∧(i.k.agg=false→∃u,z.cells= #[u]∧z=u)
 len:i.zero.length=i.size
 one:i.k.agg=false→i.size=1
theorem Tok.get {P:Program}{T:TT}(h:Tok P T) {t:TypeId}{i:TI}(hi:T[t]?=some (some i)):TIok P t i:=by
 unfold Tok TT.check at h
 have:=(Av.1 h) (some i,t) (by
  rw[List.mem_iff_getElem?]
  exact⟨t,by simp[List.getElem?_zipIdx,hi]⟩)
 simp only[TI.check] at this;split at this
 ·rename_i inf d h1 h2;simp only[π,beq_iff_eq] at this;obtain⟨⟨⟨⟨u,hl,ho⟩,y⟩,B⟩,q⟩:=this;split at q
  ·rename_i z E;simp only[π] at q;obtain⟨q,I⟩:=q;refine⟨⟨inf,d,z,h1,h2,u,y,B,E,q,?_,?_⟩,hl,fun r=>by simpa [r] using ho⟩
   ·cases r:i.k.agg with
    | false=>simp
    | true=>
     cases z<;>simp_all [Value.cells]
   ·intro r;cases z<;>simp_all [Value.cells]
  ·cases q
 ·cases this
theorem TIok.size_run {P:Program}{t:TypeId}{i:TI}(h:TIok P t i) (w:World):(sizeOf t).run P w=.ok i.size w:=by
 obtain⟨inf,d,z,h1,h2,q,r,u,y,B,E⟩:=h.ex;simp[sizeOf,typeInfo,h1,q]
theorem TIok.zero_run {P:Program}{t:TypeId}{i:TI}(h:TIok P t i):∃z,(∀w:World,(zeroValue t).run P w=.ok z w)∧(∀S,c0 S i.zero z.cells.toList)∧(z=if i.k.agg then .agg z.cells else z)∧(i.k.agg=false→∃u,z.cells= #[u]∧z=u):=by
 obtain⟨inf,d,z,h1,h2,B,E,I,q,r,y⟩:=h.ex;exact⟨z,fun w=>by simp[zeroValue,typeInfo,h1,q],fun S=>hJ r,y⟩
theorem TIok.agg_run {P:Program}{t:TypeId}{i:TI}(h:TIok P t i) (w:World):(isAgg t).run P w=.ok i.k.agg w:=by
 obtain⟨inf,d,z,h1,h2,u,y,q,B,E,I⟩:=h.ex;unfold isAgg;rw[Ab,Am h2 w];simp only[δ];cases r:i.k<;>rw[r] at q<;>cases d<;>simp[TK.fits] at q<;>rfl
theorem TIok.slice {P:Program}{t e:TypeId}{i:TI}(h:TIok P t i) (r:i.k=.sl e):P.underlying t=some (.slice e):=by
 obtain⟨inf,d,z,h1,h2,u,y,q,B,E,I⟩:=h.ex;rw[r] at q;cases d<;>simp[TK.fits] at q;rw[h2,q]
theorem TIok.array {P:Program}{t e:TypeId}{m:Nat}{i:TI}(h:TIok P t i) (r:i.k=.ar m e):P.underlying t=some (.array m e):=by
 obtain⟨inf,d,z,h1,h2,u,y,q,B,E,I⟩:=h.ex;rw[r] at q;cases d<;>simp[TK.fits] at q;rw[h2,q.1,q.2]
theorem TIok.str {P:Program}{t:TypeId}{i:TI}(h:TIok P t i) (r:i.k=.str):P.underlying t=some .string:=by
 obtain⟨inf,d,z,h1,h2,u,y,q,B,E,I⟩:=h.ex;rw[r] at q;cases d<;>simp[TK.fits] at q;rw[h2]
theorem TIok.int {P:Program}{t:TypeId}{k:IntKind}{i:TI}(h:TIok P t i) (r:i.k=.int k):P.underlying t=some (.int k):=by
 obtain⟨inf,d,z,h1,h2,u,y,q,B,E,I⟩:=h.ex;rw[r] at q;cases d<;>simp[TK.fits] at q;rw[h2,q]
theorem TIok.bool {P:Program}{t:TypeId}{i:TI}(h:TIok P t i) (r:i.k=.bool):P.underlying t=some .bool:=by
 obtain⟨inf,d,z,h1,h2,u,y,q,B,E,I⟩:=h.ex;rw[r] at q;cases d<;>simp[TK.fits] at q;rw[h2]
theorem TIok.ptr {P:Program}{t e:TypeId}{i:TI}(h:TIok P t i) (r:i.k=.pt e):P.underlying t=some (.pointer e):=by
 obtain⟨inf,d,z,h1,h2,u,y,q,B,E,I⟩:=h.ex;rw[r] at q;cases d<;>simp[TK.fits] at q;rw[h2,q]
theorem TIok.map {P:Program}{t k e:TypeId}{i:TI}(h:TIok P t i) (r:i.k=.mp k e):P.underlying t=some (.map k e):=by
 obtain⟨inf,d,z,h1,h2,u,y,q,B,E,I⟩:=h.ex;rw[r] at q;cases d<;>simp[TK.fits] at q;rw[h2,q.1,q.2]
theorem TIok.struct {P:Program}{t:TypeId}{fs:List (Nat×TypeId)}{i:TI}(h:TIok P t i) (r:i.k=.st fs):∃fields,P.underlying t=some (.struct fields)∧fs=fields.toList.map fun f=>(f.offset,f.type):=by
 obtain⟨inf,d,z,h1,h2,u,y,q,B,E,I⟩:=h.ex;rw[r] at q;cases d<;>simp[TK.fits] at q;exact⟨_,h2,q⟩
theorem TIok.info {P:Program}{t:TypeId}{i:TI}(h:TIok P t i):(P.info? t).map (·.size)=some i.size:=by
 obtain⟨inf,d,z,h1,h2,q,r,u,y,B,E⟩:=h.ex;simp[h1,q]
theorem aR.length {S:Sto}{μ:Mu}{H:cE}:∀{c:List R}{v:List Value},aR S μ H c v→v.length=c.length
 | [],_,k=>by simp only[aR] at k;subst k;rfl
 | _::cs,_,k=>by
  simp only[aR] at k;obtain⟨v,vs',rfl,_,h⟩:=k;simp[aR.length h]
theorem aR.get {S:Sto}{μ:Mu}{H:cE}:∀{c:List R}{v:List Value},aR S μ H c v→∀(i:Nat) (x:R),c[i]?=some x→∃u,v[i]?=some u∧aZ S μ H x u
 | [],_,_,i,x,h=>by simp at h
 | c::cs,_,k,i,x,h=>by
  simp only[aR] at k;obtain⟨v,vs',rfl,h1,h2⟩:=k;cases i with
  | zero=>simp at h;subst h;exact⟨v,rfl,h1⟩
  | succ i=>simp at h;simpa using h2.get i x h
theorem aR.append {S:Sto}{μ:Mu}{H:cE}:∀{a:List R}{x:List Value}{b:List R}{y:List Value},aR S μ H a x→aR S μ H b y→aR S μ H (a++b) (x++y)
 | [],_,_,_,h,k=>by simp only[aR] at h;subst h;simpa using k
 | _::_,_,_,_,h,k=>by
  simp only[aR,Ad] at h ⊢;obtain⟨v,vs',rfl,h1,h2⟩:=h;exact⟨v,vs'++_,rfl,h1,h2.append k⟩
theorem aR.take {S:Sto}{μ:Mu}{H:cE}:∀{a:List R}{x:List Value}(n:Nat),aR S μ H a x→aR S μ H (a.take n) (x.take n)
 | _,_,0,_=>by simp[aR]
 | [],_,n+1,h=>by simp only[aR] at h;subst h;simp[aR]
 | _::_,_,n+1,h=>by
  simp only[aR,A5] at h ⊢;obtain⟨v,vs',rfl,h1,h2⟩:=h;exact⟨v,vs'.take n,by simp,h1,h2.take n⟩
theorem aR.drop {S:Sto}{μ:Mu}{H:cE}:∀{a:List R}{x:List Value}(n:Nat),aR S μ H a x→aR S μ H (a.drop n) (x.drop n)
 | _,_,0,h=>by simpa using h
 | [],_,n+1,h=>by simp only[aR] at h;subst h;simp[aR]
 | _::_,_,n+1,h=>by
  simp only[aR,C0] at h ⊢;obtain⟨v,vs',rfl,h1,h2⟩:=h;simpa using h2.drop n
theorem c0.toR {S:Sto}{μ:Mu}{H:cE}:∀{c:List C}{v:List Value},c0 S c v→aR S μ H (c.map R.c) v
 | [],_,k=>by simp only[c0] at k;subst k;simp[aR]
 | c::cs,_,k=>by
  simp only[c0] at k;obtain⟨v,vs',rfl,h1,h2⟩:=k;simp only[Ar,aR];exact⟨v,vs',rfl,by simpa [aZ] using h1,h2.toR⟩
def iU:List R→Option (List C)
 | []=>some []
 | .c x::l=>match iU l with | some l'=>some (x::l') | none=>none
 | _::_=>none
theorem nN:∀{rs:List R}{l:List C},iU rs=some l→rs=l.map R.c
 | [],l,h=>by simp[iU] at h;subst h;rfl
 | .c x::rs,l,h=>by
  simp only[iU] at h;split at h
  ·rename_i q hl;cases h;simp[nN hl]
  ·cases h
 | .hs ..::_,_,h=>by simp[iU] at h
 | .tl ..::_,_,h=>by simp[iU] at h
 | .vp ..::_,_,h=>by simp[iU] at h
 | .ep ..::_,_,h=>by simp[iU] at h
 | .mr ..::_,_,h=>by simp[iU] at h
 | .clo ..::_,_,h=>by simp[iU] at h
 | .mth ..::_,_,h=>by simp[iU] at h
 | .yl ..::_,_,h=>by simp[iU] at h
 | .ra ..::_,_,h=>by simp[iU] at h
 | .rp ..::_,_,h=>by simp[iU] at h
 | .ras ..::_,_,h=>by simp[iU] at h
 | .pas ..::_,_,h=>by simp[iU] at h
theorem aR.pure {S:Sto}{μ:Mu}{H:cE}:∀{l:List C}{v:List Value},aR S μ H (l.map R.c) v→c0 S l v
 | [],_,k=>by simp only[Ch,aR] at k;subst k;simp[c0]
 | c::cs,_,k=>by
  simp only[Ar,aR] at k;obtain⟨v,vs',rfl,h1,h2⟩:=k;simp only[c0];exact⟨v,vs',rfl,by simpa [aZ] using h1,h2.pure⟩
def aTy (rs:List R):V:=match iU rs with | some l=>.pa l | none=>.ma rs
theorem aDv {S:Sto}{μ:Mu}{H:cE}{rs:List R}{vs:List Value}(h:aR S μ H rs vs):aO S μ H (aTy rs) (.agg ⟨vs⟩):=by
 unfold aTy;split
 ·rename_i l hl;rw[nN hl] at h;simp only[aO];exact⟨vs,rfl,h.pure⟩
 ·simp only[aO];exact⟨vs,rfl,h⟩
def gK:V→Option (List R)
 | .one r=>some [r]
 | .pa l=>some (l.map R.c)
 | .ma l=>some l
 | .tup _=>none
theorem Rep.one {S:Sto}:∀{c:C}{v:Value},Rep S c v→v.cells= #[v]∧v.oneCell'=true:=by
 intro c v h;cases c<;>simp only[Rep] at h
 case zv k=>subst h;unfold aTg;split<;>exact⟨rfl,rfl⟩
 case sl=>obtain⟨a,len,cap,rfl,_⟩:=h;exact⟨rfl,rfl⟩
 case sg=>obtain⟨a,len,cap,rfl,_⟩:=h;exact⟨rfl,rfl⟩
 case sn=>obtain⟨b,o,sp,len,cap,rfl,_⟩:=h;exact⟨rfl,rfl⟩
 case pt=>obtain⟨b,o,rfl,_⟩:=h;exact⟨rfl,rfl⟩
 case mp=>obtain⟨b,es,clk,rfl,_⟩:=h;exact⟨rfl,rfl⟩
 case clo=>obtain⟨vs,rfl,_⟩:=h;exact⟨rfl,rfl⟩
 case any=>exact h
 all_goals (subst h;exact⟨rfl,rfl⟩)
theorem aZ.one {S:Sto}{μ:Mu}{H:cE}:∀{r:R}{v:Value},aZ S μ H r v→v.cells= #[v]∧v.oneCell'=true:=by
 intro r v h;cases r<;>simp only[aZ] at h
 case c x=>exact h.one
 case hs=>obtain⟨⟨a,l,c,rfl⟩,_⟩:=h;exact⟨rfl,rfl⟩
 case tl=>obtain⟨⟨a,l,c,rfl⟩,_⟩:=h;exact⟨rfl,rfl⟩
 case vp=>obtain⟨t,cells,b,c,_,_,rfl⟩:=h;exact⟨rfl,rfl⟩
 case ep=>obtain⟨⟨a,rfl⟩,_⟩:=h;exact⟨rfl,rfl⟩
 case mr=>obtain⟨agg,ents,b,c,_,_,rfl⟩:=h;exact⟨rfl,rfl⟩
 case clo=>obtain⟨vs,rfl,_⟩:=h;exact⟨rfl,rfl⟩
 case mth=>obtain⟨u,rfl,_⟩:=h;exact⟨rfl,rfl⟩
 case yl=>obtain⟨st,j,i,e,b,c,_,_,rfl⟩:=h;exact⟨rfl,rfl⟩
 case ra=>obtain⟨⟨a,l,c,rfl⟩,_⟩:=h;exact⟨rfl,rfl⟩
 case rp=>obtain⟨⟨a,rfl⟩,_⟩:=h;exact⟨rfl,rfl⟩
 case ras=>obtain⟨a,cap,rfl,_⟩:=h;exact⟨rfl,rfl⟩
 case pas=>obtain⟨b,o,rfl,_⟩:=h;exact⟨rfl,rfl⟩
theorem aR.one {S:Sto}{μ:Mu}{H:cE}:∀{rs:List R}{vs:List Value},aR S μ H rs vs→∀v∈vs,v.oneCell'=true
 | [],_,h=>by simp only[aR] at h;subst h;simp
 | _::_,_,h=>by
  simp only[aR] at h;obtain⟨v,vs',rfl,h1,h2⟩:=h;intro u hu;rcases Au.1 hu with rfl | hu
  ·exact h1.one.2
  ·exact h2.one u hu
theorem dM {S:Sto}{μ:Mu}{H:cE}{x:V}{v:Value}{rs:List R}(h:aO S μ H x v) (hc:gK x=some rs):aR S μ H rs v.cells.toList:=by
 cases x<;>simp only[gK] at hc
 case one r=>
  cases hc;simp only[aO] at h;rw[h.one.1];simp only[aR];exact⟨v,[],rfl,h,rfl⟩
 case pa l=>
  cases hc;simp only[aO] at h;obtain⟨vs,rfl,h⟩:=h;exact h.toR
 case ma l=>
  cases hc;simp only[aO] at h;obtain⟨vs,rfl,h⟩:=h;exact h
 case tup=>cases hc
end Go.AM
