/-
  Texts Am0 to Am5 in one.
-/
import Derived.Lib.ItoaNum
import Derived.WalkKit
import Derived.Below
import Derived.OrdersIn
namespace Go.AM
open Go
theorem ψ.{u}:∀{α:Type u}{as q:List α},(as++q).length=as.length+q.length:=@List.length_append
theorem φ:∀{p:Prop} [Decidable p],¬p→Decidable.decide p=Bool.false:=@decide_eq_false
theorem θ:∀{p:Prop} [Decidable p],p→Decidable.decide p=Bool.true:=@decide_eq_true
theorem ξ.{q,u}:∀{α:Type q}{β:Type u}{as:List α}(f:α→β),(List.map f as).length=as.length:=@List.length_map
theorem ζ.{u}:∀{c:Prop}{_:Decidable c},c→∀{α:Sort u}{t e:α},(if c then t else e)=t:=@if_pos
theorem η.{u}:∀{c:Prop}{_:Decidable c},¬c→∀{α:Sort u}{t e:α},(if c then t else e)=e:=@if_neg
theorem κ:∀{p:Prop} [Decidable p],Decidable.decide p=Bool.true→p:=@of_decide_eq_true
theorem χ:Bool.false≠Bool.true:=@Bool.false_ne_true
theorem ω.{u}:∀{α:Type u}{a:α}{as:List α},(a::as).length=as.length+1:=@List.length_cons
theorem δ:∀{α β:Type}(a:α) (w:Go.World) (f:α→Go.World→Go.Result β),(Go.Result.ok a w).andThen f=f a w:=@Go.Result.andThen_ok
theorem ε.{q}:∀{α:Type q}{l:List α}{i:Nat}{a:α},l[i]?=Option.some a→a∈l:=@List.mem_of_getElem?
theorem π:∀(a b:Bool),((a&&b)=Bool.true)=(a=Bool.true∧b=Bool.true):=@Bool.and_eq_true
theorem τ:∀{n m:Nat},n.beq m=Bool.true→n=m:=@Nat.eq_of_beq_eq_true
theorem Aa:∀{α β:Type}(P:Go.Program) (w:Go.World) (x:Go.Sem α) (f:α→Go.Sem β),Go.Sem.run P (x>>=f) w=(Go.Sem.run P x w).andThen fun a w'=>Go.Sem.run P (f a) w':=@Go.Sem.run_bind
theorem Ab:∀(n:Nat),0≤n:=@Nat.zero_le
theorem Ac:∀{p:Prop} [Decidable p],Decidable.decide p=Bool.false→¬p:=@of_decide_eq_false
theorem Ad:∀{α:Type}(P:Go.Program) (w:Go.World) (a:α),Go.Sem.run P (Pure.pure a) w=Go.Result.ok a w:=@Go.Sem.run_pure
theorem Ae.{u,y}:∀{α:Type u}{b:α}{q:Type y}{x:Option q}{f:q→Option α},x.bind f=Option.some b↔∃a,x=Option.some a∧f a=Option.some b:=@Option.bind_eq_some_iff
theorem Af.{q,u}:∀{α:Type q}{β:Type u}{f:α→β}{y A:List α},List.map f (y++A)=List.map f y++List.map f A:=@List.map_append
theorem Ag.{q}:∀{α:Type q}{xs:Array α}{i:Nat}{d:α},xs.getD i d=xs[i]?.getD d:=@Array.getD_eq_getD_getElem?
theorem Ah.{q}:∀{α:Type q}{i:Nat}{a:α}{l:List α},l[i]?=Option.some a↔∃h,l[i]=a:=@List.getElem?_eq_some_iff
theorem Ai.{q}:∀{α:Type q}{i:Nat}{l:List α},(List.take i l).length=Min.min i l.length:=@List.length_take
theorem Aj.{u}:∀{α:Type u}(as q cs:List α),as++q++cs=as++(q++cs):=@List.append_assoc
theorem Ak:∀{P:Go.Program}{t:Go.TypeId}{d:Go.TypeDesc},P.underlying t=Option.some d→∀(w:Go.World),Go.Sem.run P (Go.underlying t) w=Go.Result.ok d w:=@Go.run_underlying
theorem Al.{q}:∀{α:Type q}{l:List α},List.take l.length l=l:=@List.take_length
theorem Am.{q}:∀{α:Type q}{a b:α},a∈[b]↔a=b:=@List.mem_singleton
theorem An.{q}:∀{α:Type q}{l:List α}{i j:Nat},(List.take i l)[j]?=if j<i then l[j]? else Option.none:=@List.getElem?_take
theorem Ao.{q}:∀{α:Type q}{xs:List α}{i j:Nat},(List.drop i xs)[j]?=xs[i+j]?:=@List.getElem?_drop
theorem Ap:∀{n m:Nat},n.ble m=Bool.true→n≤m:=@Nat.le_of_ble_eq_true
theorem Aq.{q}:∀{α:Type q}{b:α}{l:List α}{a:α},a∈b::l↔a=b∨a∈l:=@List.mem_cons
theorem Ar.{u,v}:∀{α:Type u}{β:Type v}{f:α→β}{a:α}{l:List α},List.map f (a::l)=f a::List.map f l:=@List.map_cons
theorem As.{u}:∀{α:Type u}{a:α}{as q:List α},a::as++q=a::(as++q):=@List.cons_append
theorem Au.{q}:∀{α:Type q}{i:Nat}{l:List α},l.length≤i→List.take i l=l:=@List.take_of_length_le
theorem Av.{u}:∀{α:Type u}(as:List α),[]++as=as:=@List.nil_append
theorem Aw.{q}:∀{α:Type q}{l:List α},l.length=0→l=[]:=@List.eq_nil_of_length_eq_zero
theorem Ax:(Bool.false=Bool.true)=False:=@Bool.false_eq_true
theorem Ay.{u}:∀{α:Type u}(as:List α),as++[]=as:=@List.append_nil
theorem Az.{q}:∀{α:Type q}{i:Nat}{l:List α}(h:i<l.length),List.drop i l=l[i]::List.drop (i+1) l:=@List.drop_eq_getElem_cons
theorem A2:∀{n m:Nat}(k:Nat),n≤m→n*k≤m*k:=@Nat.mul_le_mul_right
theorem A3.{u}:∀{α:Type u}{a:α}{as:List α}{i:Nat},List.take (i+1) (a::as)=a::List.take i as:=@List.take_succ_cons
theorem A4.{q}:∀{α:Type q}{a:α}{s t:List α},a∈s++t↔a∈s∨a∈t:=@List.mem_append
theorem A5.{q}:∀{α:Type q}{p:α→Bool}{l:List α},l.all p=Bool.true↔∀(x:α),x∈l→p x=Bool.true:=@List.all_eq_true
theorem A6.{q}:∀{α:Type q}{xs:Array α},xs.toList.length=xs.size:=@Array.length_toList
theorem A7.{q}:∀{α:Type q}{n:Nat}{v:α}{i:Nat},(Array.replicate n v)[i]?=if i<n then Option.some v else Option.none:=@Array.getElem?_replicate
theorem A8:∀{n m k:Nat},n<m→m≤k→n<k:=@Nat.lt_of_lt_of_le
theorem A9:∀(b:Bool),(Bool.false || b)=b:=@Bool.false_or
theorem Ba.{q}:∀{α:Type q}{xs:Array α}{i j:Nat}{a:α},(xs.setIfInBounds i a)[j]?=if i=j then if i<xs.size then Option.some a else Option.none else xs[j]?:=@Array.getElem?_setIfInBounds
theorem Bb.{q}:∀{α:Type q}{i:Nat}{a:α}{l:List α},a∈List.take i l→a∈l:=@List.mem_of_mem_take
theorem Bc.{u}:∀{α:Type u}{q y:List α}{i:Nat},i<q.length→(q++y)[i]?=q[i]?:=@List.getElem?_append_left
theorem Be:∀(n m k:Nat),(n+m)*k=n*k+m*k:=@Nat.add_mul
theorem Bf.{q}:∀{α:Type q}(y:α) {a:α}{l:List α},a∈l→a∈y::l:=@List.mem_cons_of_mem
theorem Bg.{u}:∀{α:Type u}{q y:List α}{i:Nat},q.length≤i→(q++y)[i]?=y[i-q.length]?:=@List.getElem?_append_right
theorem Bh.{q}:∀{α:Type q}{l:List α}{i:Nat},List.take (i+1) l=List.take i l++l[i]?.toList:=@List.take_add_one
theorem Bi.{q}:∀{α:Type q}{i:Nat}{l:List α},(List.drop i l).length=l.length-i:=@List.length_drop
theorem Bj.{q}:∀{α:Type q}{l:List α}{L:List (List α)},(l::L).flatten=l++L.flatten:=@List.flatten_cons
theorem Bk:∀(n:Nat),0+n=n:=@Nat.zero_add
theorem Bl.{u}:∀{α:Type u}{l:List α},List.take 0 l=[]:=@List.take_zero
theorem Bm.{u}:∀{α:Type u}{a:α},[a].length=1:=@List.length_singleton
theorem Bn:∀(b:Bool),((!b)=Bool.true)=(b=Bool.false):=@Bool.not_eq_true'
theorem Bo.{u}:∀{α:Type u}{xs:Array α}(v:α),(xs.push v).size=xs.size+1:=@Array.size_push
theorem Bp.{u}:∀{α:Type u}{q y:List α}{i:Nat},i≤q.length→List.drop i (q++y)=List.drop i q++y:=@List.drop_append_of_le_length
theorem Bq.{q}:∀{α:Sort q}(a b:α),(bif Bool.false then a else b)=b:=@cond_false
theorem Br.{q,u}:∀{α:Type q}{β:Type u}{f:α→β}{l:List α}{i:Nat},(List.map f l)[i]?=Option.map f l[i]?:=@List.getElem?_map
theorem Bt.{q}:∀{α:Type q}{a:α}{l:List α},a∈a::l:=@List.mem_cons_self
theorem Bu.{u}:∀{α:Type u}{a:α}{as:List α},(a::as).length=as.length+1:=@List.length_cons
theorem Bv:∀(n:Nat),n<n.succ:=@Nat.lt_succ_self
theorem Bw.{q}:∀{α:Sort q}{_:Decidable False}(t e:α),(if False then t else e)=e:=@if_false
theorem Bx.{u}:∀{α:Type u} [Add α] [Zero α] {a:α}{l:List α},(a::l).sum=a+l.sum:=@List.sum_cons
theorem By:∀{F:Go.Fence}{n:Nat}{P:Go.Program}{ops:Array Go.Oper}{Q:Go.Exit→Go.Act→Go.World→Prop}(i:Nat) (rest:List Nat) (a:Go.Act) (w:Go.World),Go.wpOpsIn F n P ops Q (i::rest) a w=Go.wpOpIn F n P ops Q i (Go.wpOpsIn F n P ops Q rest) a w:=@Go.wpOpsIn_cons
theorem Bz:∀{a b:Bool},a=b↔(a=Bool.true↔b=Bool.true):=@Bool.eq_iff_iff
theorem B1.{q}:∀{α:Sort q}(a b:α),(bif Bool.true then a else b)=a:=@cond_true
theorem B2:∀(w:Go.World) (o:Go.Obj),(w.alloc o).heap[w.heap.size]?=Option.some o:=@Go.heap_alloc_new
theorem B3:∀{n m k:Nat},n≤m→m<k→n<k:=@Nat.lt_of_le_of_lt
theorem B4.{q}:∀{α:Type q}{xs u:Array α}{i:Nat},i<xs.size→(xs++u)[i]?=xs[i]?:=@Array.getElem?_append_left
theorem B5:∀(n:Int),-9223372036854775808≤n∧n≤9223372036854775807→Go.IntKind.i64.wrap n=n:=@Go.IntWalk.i64_in
theorem B6:∀(b:Bool),(Bool.false&&b)=Bool.false:=@Bool.false_and
theorem B7:∀(b:Bool),(Bool.true || b)=Bool.true:=@Bool.true_or
theorem B8.{u}:∀{α:Type u}{l:List α},List.drop 0 l=l:=@List.drop_zero
theorem B9.{q,u}:∀{α:Type q}{β:Type u}(a:α) (f:α→β),Option.map f (Option.some a)=Option.some (f a):=@Option.map_some
theorem Ca.{u,v}:∀{α:Type u}{β:Type v}{f:α→β},List.map f []=[]:=@List.map_nil
theorem Cb:∀(b:Bool),(¬b=Bool.true)=(b=Bool.false):=@Bool.not_eq_true
theorem Cc.{u}:∀{α:Type u}{q y:List α}{i:Nat},i≤q.length→List.take i (q++y)=List.take i q:=@List.take_append_of_le_length
theorem Cd:∀(b:Bool),(Bool.true&&b)=b:=@Bool.true_and
theorem Ce.{q}:∀{α:Type q}{x:α}{xs:List α}{p:α→Bool},List.filter p (x::xs)=if p x=Bool.true then x::List.filter p xs else List.filter p xs:=@List.filter_cons
theorem Cf.{u}:∀{α:Type u}{q y:List α}{i:Nat},(q++y)[i]?=if i<q.length then q[i]? else y[i-q.length]?:=@List.getElem?_append
theorem Cg.{q}:∀{α:Type q}{l:List α},0<l.length↔l≠[]:=@List.length_pos_iff
theorem Ch.{q}:∀{α:Type q}{l:List α},List.drop l.length l=[]:=@List.drop_length
theorem Ci.{q}:∀{α:Type q}{x:α}{xs:List α}{p:α→Bool},List.dropWhile p (x::xs)=if p x=Bool.true then List.dropWhile p xs else x::xs:=@List.dropWhile_cons
theorem Ck.{q,u}:∀{α:Type q}{β:Type u}(a:α) (f:α→Option β),(Option.some a).bind f=f a:=@Option.bind_some
theorem Cm.{q}:∀{α:Type q}{a b:α},(Option.some a).getD b=a:=@Option.getD_some
theorem Co.{q}:∀{α:Type q}(p:α→Bool) (l:List α),(List.filter p l).length≤l.length:=@List.length_filter_le
theorem Cp.{q}:∀{α:Type q}{i:Nat}{b:α}{xs:Array α},xs[i]?=Option.some b↔∃h,xs[i]=b:=@Array.getElem?_eq_some_iff
theorem Cq:∀(n:Nat),n-n=0:=@Nat.sub_self
theorem Cr.{u}:∀{α:Type u}{xs:List α}{i:Nat},xs.toArray[i]?=xs[i]?:=@List.getElem?_toArray
theorem Cs.{q}:∀{α:Type q}{l:List α}{i:Nat}{a:α},l.set i a=if i<l.length then List.take i l++a::List.drop (i+1) l else l:=@List.set_eq_take_append_cons_drop
theorem Ct:∀(n:Nat),n+0=n:=@Nat.add_zero
theorem Cu.{q}:∀{α:Sort q}{_:Decidable True}(t e:α),(if True then t else e)=t:=@if_true
theorem Cv.{q}:∀{α:Type q}{u y:List α},(∀(i:Nat),u[i]?=y[i]?)→u=y:=@List.ext_getElem?
theorem Cw.{u}:∀{α:Type u}{a:α}{l:List α}{i:Nat},List.drop (i+1) (a::l)=List.drop i l:=@List.drop_succ_cons
theorem Cx.{q}:∀{α:Type q}{i j:Nat}{l:List α},List.drop i (List.drop j l)=List.drop (j+i) l:=@List.drop_drop
theorem Cy.{q}:∀{α:Type q}{L₁ L₂:List (List α)},(L₁++L₂).flatten=L₁.flatten++L₂.flatten:=@List.flatten_append
theorem C1.{u}:∀{α:Type u}{n:Nat}{a:α},(List.replicate n a).length=n:=@List.length_replicate
theorem C2.{q}:∀{α:Type q}(i:Nat) (l:List α),List.take i l++List.drop i l=l:=@List.take_append_drop
theorem C3.{u}:∀{α:Type u}{as:List α}{i:Nat}{a:α},(as.set i a).length=as.length:=@List.length_set
theorem C4:∀{a b:Nat},a≤b→Min.min a b=a:=@Nat.min_eq_left
theorem C5:∀{F:Go.Fence}{n:Nat}{P:Go.Program}{Q:Go.Exit→Go.Act→Go.World→Prop}{a:Go.Act}{w:Go.World}{x y:Go.Code},Go.Code.wpIn F n P x (Go.Exit.then (Go.Code.wpIn F n P y Q) Q) a w→Go.Code.wpIn F n P (x.seq y) Q a w:=@Go.wpIn_seq
theorem C6:∀{n m:Nat},n<m→n≤m:=@Nat.le_of_lt
theorem C7.{q,u}:∀{α:Type q}{β:Type u}{b:β}{f:α→β}{l:List α},b∈List.map f l↔∃a,a∈l∧f a=b:=@List.mem_map
end Go.AM
open List (all_eq_true cons_append drop_succ_cons eq_nil_of_length_eq_zero filter_cons flatten_cons length_cons length_nil map_cons map_nil mem_cons mem_filter mem_map mem_range nodup_cons take_left' take_succ_cons)
open Nat (add_assoc add_mul add_zero eq_of_beq_eq_true le_refl le_trans lt_of_lt_of_le sub_zero zero_add zero_le)
namespace Go.AM
open Go
def aN5:Option Nat:=some 1
def a1j:Array Value:=(Lib.pow10Tab.map fun z=>Value.int .u64 z).toArray
def aQ0 (w:World):Prop:=∀g,aN5=some g→g<w.heap.size∧∃t fr,w.heap[g]?=some (.cells a1j t fr)
def a3w (w:World) (F:Nat→Prop):Prop:=aQ0 w∧∀g,aN5=some g→¬F g
inductive C where
 | int (k:IntKind) (n:Int)
 | bool (b:Bool)
 | str (s:List UInt8)
 | nl
 | sl (es:Nat) (l:List (List C))
 | sn (es:Nat) (l:List (List C))
 | np
 | pt (l:List C)
 | mp (agg:Bool) (l:List (List C))
 | zv (k:Nat)
 | any
 | fn (f:FuncId)
 | clo (f:FuncId) (l:List C)
 | sg (te es:Nat) (l:List (List C))
 deriving Inhabited
inductive MK where
 | all (es:Array MapEntry) (clk:Nat)
 | part (ks:List UInt8→Prop)
 | top (te lo hi:Nat)
def aT6 (k:List UInt8) (es:Array MapEntry):Prop:=∃e∈es.toList,e.key=.string ⟨⟨k⟩⟩
def MK.has:MK→List UInt8→Prop
 | .all es _,k=>aT6 k es
 | .part ks,k=>ks k
 | .top _ _ _,_=>False
def MK.le:MK→MK→Prop
 | .all es clk,m=>m=.all es clk
 | .part ks,m=>∀k,ks k→m.has k
 | .top te lo hi,m=>m=.top te lo hi
theorem MK.le_refl (m:MK):m.le m:=by cases m<;>simp[MK.le,MK.has]
theorem MK.le_has {m q:MK}(h:m.le q) {k:List UInt8}(e:m.has k):q.has k:=by
 cases m with
 | all es clk=>simp only[MK.le] at h;subst h;exact e
 | part ks=>exact h k e
 | top te lo hi=>cases e
theorem MK.le_trans {m u q:MK}(h:m.le u) (k:u.le q):m.le q:=by
 cases m with
 | all es clk=>simp only[MK.le] at h;subst h;exact k
 | part ks=>exact fun s e=>MK.le_has k (h s e)
 | top te lo hi=>simp only[MK.le] at h;subst h;exact k
def MK.holds:MK→Option Obj→Prop
 | .all es clk,o=>o=some (.map es clk)
 | .part ks,o=>∃es clk,o=some (.map es clk)∧∀k,ks k→aT6 k es
 | .top te _ hi,o=>∃vs,o=some (.cells ⟨vs⟩ te (0,0))∧hi≤vs.length
theorem MK.holds_some {m:MK}{o:Option Obj}(h:m.holds o):∃x,o=some x:=by
 cases m with
 | all es clk=>exact⟨_,h⟩
 | part ks=>obtain⟨es,clk,h1,_⟩:=h;exact⟨_,h1⟩
 | top te lo hi=>obtain⟨vs,h1,_⟩:=h;exact⟨_,h1⟩
structure Sto where
 cell:Nat→Nat→Option Value
 mapo:Nat→Option MK
def Sto.le (S S':Sto):Prop:=(∀b o v,S.cell b o=some v→S'.cell b o=some v)∧(∀b m,S.mapo b=some m→∃m',S'.mapo b=some m'∧m.le m')
theorem Sto.le_refl (S:Sto):S.le S:=⟨fun _ _ _ h=>h,fun _ m h=>⟨m,h,m.le_refl⟩⟩
theorem Sto.le_trans {S S' S'':Sto}(h:S.le S') (k:S'.le S''):S.le S'':=⟨fun b o v e=>k.1 b o v (h.1 b o v e),fun b m e=>by
 obtain⟨u,h1,h2⟩:=h.2 b m e;obtain⟨q,y,A⟩:=k.2 b u h1
 exact⟨q,y,MK.le_trans h2 A⟩⟩
theorem Sto.le_all {S S':Sto}(h:S.le S') {b:Nat}{es:Array MapEntry}{clk:Nat}(e:S.mapo b=some (.all es clk)):S'.mapo b=some (.all es clk):=by
 obtain⟨q,h1,h2⟩:=h.2 b _ e;simp only[MK.le] at h2;rw[h1,h2]
theorem Sto.le_top {S S':Sto}(h:S.le S') {b te lo hi:Nat}(e:S.mapo b=some (.top te lo hi)):S'.mapo b=some (.top te lo hi):=by
 obtain⟨q,h1,h2⟩:=h.2 b _ e;simp only[MK.le] at h2;rw[h1,h2]
def Sto.free (S:Sto):Prop:=∀b te lo hi,S.mapo b=some (.top te lo hi)→∀o,lo≤o→S.cell b o=none
def Sto.noTop (S:Sto):Prop:=∀b m,S.mapo b=some m→∃es clk,m=.all es clk
def aWi:Nat→Value
 | 0=>.map none
 | 1=>.nilFunc
 | _=>.nilIface
def fD (S:Sto) (b o:Nat) (vs:List Value):Prop:=∀i v,vs[i]?=some v→S.cell b (o+i)=some v
theorem fD.mono {S S':Sto}(h:S.le S') {b o:Nat}{vs:List Value}(k:fD S b o vs):fD S' b o vs:=fun i v e=>h.1 _ _ _ (k i v e)
mutual
def Rep (S:Sto):C→Value→Prop
 | .int k n,v=>v=.int k n
 | .bool b,v=>v=.bool b
 | .str s,v=>v=.string ⟨⟨s⟩⟩
 | .nl,v=>v=.slice none 0 0
 | .sl es l,v=>∃a len cap,v=.slice a len cap∧len=l.length∧len≤cap∧cap≤maxLen∧(a=none→len=0∧cap=0)∧
   (∀ad,a=some ad→cap≠0→ad.spot=none)∧∃b o,(∀ad,a=some ad→ad.block=b∧ad.off=o)∧bI S es b l o
 | .sn es l,v=>∃b o sp len cap,v=.slice (some ⟨b,o,sp⟩) len cap∧len=l.length∧len≤cap∧cap≤maxLen∧(cap≠0→sp=none)∧bI S es b l o
 | .np,v=>v=.pointer none
 | .pt l,v=>∃b o,v=.pointer (some ⟨b,o,none⟩)∧∃vs,bZ S l vs∧fD S b o vs
 | .mp agg l,v=>∃b es clk,v=.map (some b)∧S.mapo b=some (.all es clk)∧(bG S agg l es.toList∨aNp S agg l es)
 | .zv k,v=>v=aWi k
 | .any,v=>v.cells= #[v]∧v.oneCell'=true
 | .fn f,v=>v=.func (.func f) #[] ⟨[]⟩
 | .clo f l,v=>∃vs,v=.func (.func f) #[] ⟨vs⟩∧bZ S l vs
 | .sg te es l,v=>∃a len cap,v=.slice a len cap∧len=l.length∧len≤cap∧cap≤maxLen∧((a=none∧len=0∧cap=0)∨∃b o,a=some ⟨b,o,none⟩∧bI S es b l o∧S.mapo b=some (.top te (o+l.length*es) (o+cap*es)))
def bZ (S:Sto):List C→List Value→Prop
 | [],vs=>vs=[]
 | c::cs,vs=>∃v vs',vs=v::vs'∧Rep S c v∧bZ S cs vs'
def bI (S:Sto) (es b:Nat):List (List C)→Nat→Prop
 | [],_=>True
 | r::rs,o=>r.length=es∧(∃vs,bZ S r vs∧fD S b o vs)∧bI S es b rs (o+es)
def bG (S:Sto) (agg:Bool):List (List C)→List MapEntry→Prop
 | [],es=>es=[]
 | r::rs,es=>∃e es',es=e::es'∧(∃vs,bZ S r (e.key::vs)∧(e.val=if agg then .agg ⟨vs⟩ else vs.headD undef)∧(agg=false→vs.length=1))∧bG S agg rs es'
def n9 (S:Sto) (agg:Bool):List (List C)→MapEntry→Prop
 | [],_=>False
 | r::rs,e=>(∃vs,bZ S r (e.key::vs)∧(e.val=if agg then .agg ⟨vs⟩ else vs.headD undef)∧(agg=false→vs.length=1))∨n9 S agg rs e
def aNp (S:Sto) (agg:Bool):List (List C)→Array MapEntry→Prop
 | [],_=>False
 | r::rs,es=>r=[]∧(∀e∈es.toList,n9 S agg rs e)∧∀k cs,(.str k::cs)∈rs→aT6 k es
end
mutual
theorem Rep.mono {S S':Sto}(h:S.le S'):∀(c:C) (v:Value),Rep S c v→Rep S' c v
 | .int _ _,_,k=>by simpa [Rep] using k
 | .bool _,_,k=>by simpa [Rep] using k
 | .str _,_,k=>by simpa [Rep] using k
 | .nl,_,k=>by simpa [Rep] using k
 | .np,_,k=>by simpa [Rep] using k
 | .zv _,_,k=>by simpa [Rep] using k
 | .any,_,k=>by simp only[Rep] at k ⊢;exact k
 | .fn _,_,k=>by simpa [Rep] using k
 | .clo _ l,v,k=>by
  simp only[Rep] at k ⊢;obtain⟨vs,h1,h2⟩:=k;exact⟨vs,h1,bZ.mono h l vs h2⟩
 | .sg te es l,v,k=>by
  simp only[Rep] at k ⊢;obtain⟨a,len,cap,h1,h2,q,u,y⟩:=k;refine⟨a,len,cap,h1,h2,q,u,y.imp id fun⟨b,o,A,E,I⟩=>⟨b,o,A,bI.mono h es b l o E,Sto.le_top h I⟩⟩
 | .sl es l,v,k=>by
  simp only[Rep] at k ⊢;obtain⟨a,len,cap,h1,h2,q,u,y,A,b,o,E,I⟩:=k;exact⟨a,len,cap,h1,h2,q,u,y,A,b,o,E,bI.mono h es b l o I⟩
 | .sn es l,v,k=>by
  simp only[Rep] at k ⊢;obtain⟨b,o,sp,len,cap,h1,h2,q,u,y,A⟩:=k;exact⟨b,o,sp,len,cap,h1,h2,q,u,y,bI.mono h es b l o A⟩
 | .pt l,v,k=>by
  simp only[Rep] at k ⊢;obtain⟨b,o,h1,vs,h2,q⟩:=k;exact⟨b,o,h1,vs,bZ.mono h l vs h2,q.mono h⟩
 | .mp agg l,v,k=>by
  simp only[Rep] at k ⊢;obtain⟨b,es,clk,h1,h2,q⟩:=k;exact⟨b,es,clk,h1,Sto.le_all h h2,q.elim (fun q=>.inl (bG.mono h agg l es.toList q)) fun q=>.inr (aNp.mono h agg l es q)⟩
theorem bZ.mono {S S':Sto}(h:S.le S'):∀(c:List C) (v:List Value),bZ S c v→bZ S' c v
 | [],_,k=>by simpa [bZ] using k
 | c::cs,vs,k=>by
  simp only[bZ] at k ⊢;obtain⟨v,vs',h1,h2,q⟩:=k;exact⟨v,vs',h1,Rep.mono h c v h2,bZ.mono h cs vs' q⟩
theorem bI.mono {S S':Sto}(h:S.le S') (es b:Nat):∀(l:List (List C)) (o:Nat),bI S es b l o→bI S' es b l o
 | [],_,_=>by simp[bI]
 | r::rs,o,k=>by
  simp only[bI] at k ⊢;obtain⟨h1,⟨vs,h2,q⟩,u⟩:=k;exact⟨h1,⟨vs,bZ.mono h r vs h2,q.mono h⟩,bI.mono h es b rs (o+es) u⟩
theorem bG.mono {S S':Sto}(h:S.le S') (agg:Bool):∀(l:List (List C)) (es:List MapEntry),bG S agg l es→bG S' agg l es
 | [],_,k=>by simpa [bG] using k
 | r::rs,es,k=>by
  simp only[bG] at k ⊢;obtain⟨e,B,h1,⟨vs,h2,q⟩,u⟩:=k;exact⟨e,B,h1,⟨vs,bZ.mono h r _ h2,q⟩,bG.mono h agg rs B u⟩
theorem n9.mono {S S':Sto}(h:S.le S') (agg:Bool):∀(l:List (List C)) (e:MapEntry),n9 S agg l e→n9 S' agg l e
 | [],_,k=>by simp only[n9] at k
 | r::rs,e,k=>by
  simp only[n9] at k ⊢;rcases k with⟨vs,h2,q⟩ | k
  ·exact .inl ⟨vs,bZ.mono h r _ h2,q⟩
  ·exact .inr (n9.mono h agg rs e k)
theorem aNp.mono {S S':Sto}(h:S.le S') (agg:Bool):∀(l:List (List C)) (es:Array MapEntry),aNp S agg l es→aNp S' agg l es
 | [],_,k=>by simp only[aNp] at k
 | r::rs,es,k=>by
  simp only[aNp] at k ⊢;exact⟨k.1,fun e he=>n9.mono h agg rs e (k.2.1 e he),k.2.2⟩
end
theorem bZ.length {S:Sto}:∀{c:List C}{v:List Value},bZ S c v→v.length=c.length
 | [],_,k=>by simp only[bZ] at k;subst k;rfl
 | _::cs,_,k=>by
  simp only[bZ] at k;obtain⟨v,vs',rfl,_,h⟩:=k;simp[bZ.length h]
theorem bZ.append {S:Sto}:∀{a:List C}{x:List Value}{b:List C}{y:List Value},bZ S a x→bZ S b y→bZ S (a++b) (x++y)
 | [],_,_,_,h,k=>by simp only[bZ] at h;subst h;simpa using k
 | _::_,_,_,_,h,k=>by
  simp only[bZ,As] at h ⊢;obtain⟨v,vs',rfl,h1,h2⟩:=h;exact⟨v,vs'++_,rfl,h1,h2.append k⟩
theorem bZ.take {S:Sto}:∀{a:List C}{x:List Value}(n:Nat),bZ S a x→bZ S (a.take n) (x.take n)
 | _,_,0,_=>by simp[bZ]
 | [],_,n+1,h=>by simp only[bZ] at h;subst h;simp[bZ]
 | _::_,_,n+1,h=>by
  simp only[bZ,A3] at h ⊢;obtain⟨v,vs',rfl,h1,h2⟩:=h;exact⟨v,vs'.take n,by simp,h1,h2.take n⟩
theorem bZ.drop {S:Sto}:∀{a:List C}{x:List Value}(n:Nat),bZ S a x→bZ S (a.drop n) (x.drop n)
 | _,_,0,h=>by simpa using h
 | [],_,n+1,h=>by simp only[bZ] at h;subst h;simp[bZ]
 | _::_,_,n+1,h=>by
  simp only[bZ,Cw] at h ⊢;obtain⟨v,vs',rfl,h1,h2⟩:=h;simpa using h2.drop n
theorem bI.get {S:Sto}{es b:Nat}:∀{l:List (List C)}{o:Nat},bI S es b l o→∀(i:Nat) (r:List C),l[i]?=some r→r.length=es∧∃vs,bZ S r vs∧fD S b (o+i*es) vs
 | [],_,_,i,r,h=>by simp at h
 | x::xs,o,k,i,r,h=>by
  simp only[bI] at k;obtain⟨h1,h2,q⟩:=k;cases i with
  | zero=>simp at h;subst h;simpa using ⟨h1,h2⟩
  | succ i=>
   simp at h;have:=q.get i r h;rw[show o+es+i*es=o+(i+1)*es by rw[Be];omega] at this;exact this
theorem bI.drop {S:Sto}{es b:Nat}:∀{l:List (List C)}{o:Nat}(n:Nat),bI S es b l o→bI S es b (l.drop n) (o+n*es)
 | _,_,0,h=>by simpa using h
 | [],_,n+1,_=>by simp[bI]
 | x::xs,o,n+1,h=>by
  simp only[bI,Cw] at h ⊢;have:=h.2.2.drop n;rw[show o+es+n*es=o+(n+1)*es by rw[Be];omega] at this;exact this
theorem bI.take {S:Sto}{es b:Nat}:∀{l:List (List C)}{o:Nat}(n:Nat),bI S es b l o→bI S es b (l.take n) o
 | _,_,0,_=>by simp[bI]
 | [],_,n+1,_=>by simp[bI]
 | x::xs,o,n+1,h=>by
  simp only[bI,A3] at h ⊢;exact⟨h.1,h.2.1,h.2.2.take n⟩
theorem bI.of_flat {S:Sto}{es b:Nat}:∀{l:List (List C)}{o:Nat}{vs:List Value},(∀r∈l,r.length=es)→bZ S l.flatten vs→fD S b o vs→bI S es b l o
 | [],_,_,_,_,_=>by simp[bI]
 | r::rs,o,vs,hl,h,hc=>by
  have q:r.length=es:=hl r (by simp);simp only[bI,Bj] at h ⊢;have h1:=h.take r.length;have h2:=h.drop r.length;simp only[take_left',List.drop_left'] at h1 h2;refine⟨q,⟨_,h1,fun i v e=>?_⟩,bI.of_flat (fun x hx=>hl x (by simp[hx])) h2 fun i v e=>?_⟩
  ·rw[An] at e;split at e
   ·exact hc i v e
   ·cases e
  ·rw[Ao,q] at e;have:=hc (es+i) v e;rwa [←add_assoc] at this
inductive R where
 | c (x:C)
 | hs (id off len sz:Nat)
 | tl (id off len sz:Nat)
 | vp (id off:Nat)
 | ep (id i fo sz:Nat)
 | mr (id:Nat)
 | clo (f:FuncId) (caps:List R)
 | mth (f:FuncId) (recv:R)
 | yl (id:Nat)
 | ra (id off len sz:Nat)
 | rp (id i fo sz:Nat)
 | ras (n es:Nat) (l:List R)
 | pas (l:List R)
 deriving Inhabited
inductive V where
 | one (r:R)
 | pa (l:List C)
 | ma (l:List R)
 | tup (l:List V)
 deriving Inhabited
structure LI where
 n:Nat
 params:Array Tmp
 asg:Code
 body:Code
 deriving Inhabited
inductive AObj where
 | var (t:TypeId) (cells:List R)
 | arr (te es:Nat) (elems:List (List C)) (fz:Nat)
 | map (agg:Bool) (ents:List (List C))
 | dead
 | lp (st:LoopState) (jump:Option Code) (i:LI) (e:List (Nat×V))
 | dfr
 | rarr (te es:Nat) (elems:List (List R))
 | tok (r:R) (k:List UInt8)
 deriving Inhabited
abbrev cF:=Nat→Option AObj
abbrev Mu:=Nat→Option (Nat×Nat×Nat)
mutual
def aZ (S:Sto) (μ:Mu) (H:cF):R→Value→Prop
 | .c x,v=>Rep S x v
 | .hs id off len sz,v=>(∃a l c,v=.slice a l c)∧(H id=some .dead∨∃te es elems fz,H id=some (.arr te es elems fz)∧sz≤elems.length∧
   (sz=elems.length→off+len≤sz∧((μ id=none∧elems=[]∧v=.slice none 0 0)∨∃b base cap,μ id=some (b,base,cap)∧v=.slice (some ⟨b,base+off*es,none⟩) len (cap-off))))
 | .tl id off len sz,v=>(∃a l c,v=.slice a l c)∧(H id=some .dead∨∃te es elems fz,H id=some (.arr te es elems fz)∧sz≤elems.length∧
   (sz=elems.length→off+len=sz∧∃b base cap,μ id=some (b,base,cap)∧off≤cap∧v=.slice (some ⟨b,if cap=off then base else base+off*es,none⟩) len (cap-off)))
 | .vp id off,v=>∃t cells b c,H id=some (.var t cells)∧μ id=some (b,c)∧v=.pointer (some ⟨b,off,none⟩)
 | .ep id i fo sz,v=>(∃a,v=.pointer a)∧(H id=some .dead∨∃te es elems fz,H id=some (.arr te es elems fz)∧sz≤elems.length∧
   (sz=elems.length→i<sz∧∃b base cap,μ id=some (b,base,cap)∧v=.pointer (some ⟨b,base+i*es+fo,none⟩)))
 | .mr id,v=>∃agg ents b c,H id=some (.map agg ents)∧μ id=some (b,c)∧v=.map (some b)
 | .clo f caps,v=>∃vs,v=.func (.func f) #[] ⟨vs⟩∧aT S μ H caps vs
 | .mth f recv,v=>∃u,v=.func (.func f) #[u] #[]∧aZ S μ H recv u
 | .yl id,v=>∃st j i e b c,H id=some (.lp st j i e)∧μ id=some (b,c)∧v=.func (.yield b) #[] #[]
 | .ra id off len sz,v=>(∃a l c,v=.slice a l c)∧(H id=some .dead∨∃te es elems,H id=some (.rarr te es elems)∧sz≤elems.length∧
   (sz=elems.length→off+len≤sz∧((μ id=none∧elems=[]∧v=.slice none 0 0)∨∃b base cap,μ id=some (b,base,cap)∧v=.slice (some ⟨b,base+off*es,none⟩) len (cap-off))))
 | .rp id i fo sz,v=>(∃a,v=.pointer a)∧(H id=some .dead∨∃te es elems,H id=some (.rarr te es elems)∧sz≤elems.length∧
   (sz=elems.length→i<sz∧∃b base cap,μ id=some (b,base,cap)∧v=.pointer (some ⟨b,base+i*es+fo,none⟩)))
 | .ras n es l,v=>∃a cap,v=.slice a n cap∧n*es=l.length∧n≤cap∧cap≤maxLen∧(a=none→n=0∧cap=0)∧(∀ad,a=some ad→ad.spot=none)∧∃b o,(∀ad,a=some ad→ad.block=b∧ad.off=o)∧
   ∃vs,aT S μ H l vs∧fD S b o vs
 | .pas l,v=>∃b o,v=.pointer (some ⟨b,o,none⟩)∧∃vs,aT S μ H l vs∧fD S b o vs
def aT (S:Sto) (μ:Mu) (H:cF):List R→List Value→Prop
 | [],vs=>vs=[]
 | r::rs,vs=>∃v vs',vs=v::vs'∧aZ S μ H r v∧aT S μ H rs vs'
end
mutual
def aS (S:Sto) (μ:Mu) (H:cF):V→Value→Prop
 | .one r,v=>aZ S μ H r v
 | .pa l,v=>∃vs,v=.agg ⟨vs⟩∧bZ S l vs
 | .ma l,v=>∃vs,v=.agg ⟨vs⟩∧aT S μ H l vs
 | .tup l,v=>∃vs,v=.tuple ⟨vs⟩∧b7 S μ H l vs
def b7 (S:Sto) (μ:Mu) (H:cF):List V→List Value→Prop
 | [],vs=>vs=[]
 | r::rs,vs=>∃v vs',vs=v::vs'∧aS S μ H r v∧b7 S μ H rs vs'
end
def mT:List (List C)→Prop
 | []=>True
 | (.str _::_)::r=>mT r
 | _::_=>False
def aB2 (S:Sto) (agg:Bool) (ents:List (List C)) (es:List MapEntry):Prop:=(ents=[[]]∧∃e',mT e'∧bG S agg e' es)∨bG S agg ents es∨∃T,ents=[]::T∧T≠[]∧∀e∈es,n9 S agg T e
theorem aB2.mono {S S':Sto}(h:S.le S') {agg:Bool}{ents:List (List C)}{es:List MapEntry}(k:aB2 S agg ents es):aB2 S' agg ents es:=
 k.imp (fun⟨h1,e',h2,q⟩=>⟨h1,e',h2,bG.mono h _ _ _ q⟩) fun k=>k.imp (bG.mono h _ _ _) fun⟨T,h1,h2,q⟩=>⟨T,h1,h2,fun e he=>n9.mono h _ _ _ (q e he)⟩
theorem aB2.rep {S:Sto}{agg:Bool}{ents:List (List C)}{es:List MapEntry}(hm:mT ents) (k:aB2 S agg ents es):bG S agg ents es:=
 k.elim (fun h=>by rw[h.1] at hm;simp[mT] at hm) fun k=>k.elim id fun⟨T,h,_⟩=>by rw[h] at hm;simp[mT] at hm
def aIh (S:Sto) (b:Nat) (ents:List (List C)):Prop:=S.mapo b=none∨∃T ks,ents=[]::T∧T≠[]∧S.mapo b=some (.part ks)
theorem aIh.kn0 {S:Sto}{b:Nat}{ents:List (List C)}(h:aIh S b ents) (hm:mT ents):S.mapo b=none:=by
 rcases h with h | ⟨T,ks,h,_⟩
 ·exact h
 ·rw[h] at hm;simp[mT] at hm
theorem aIh.of_eq {S S':Sto}{b:Nat}{ents:List (List C)}(h:aIh S b ents) (e:S'.mapo b=S.mapo b):aIh S' b ents:=
 h.imp (fun h=>e.trans h) fun⟨T,ks,h1,h2,q⟩=>⟨T,ks,h1,h2,e.trans q⟩
def mB (S:Sto) (μ:Mu) (H:cF) (w:World) (id:Nat):AObj→Prop
 | .var t cells=>∃b vs,μ id=some (b,0,0)∧w.heap[b]?=some (.cells ⟨vs⟩ t (0,0))∧aT S μ H cells vs∧(∀o,S.cell b o=none)∧S.mapo b=none
 | .arr te es elems fz=>(∀r∈elems,r.length=es)∧((μ id=none∧elems=[])∨∃b base cap vs,μ id=some (b,base,cap)∧w.heap[b]?=some (.cells ⟨vs⟩ te (0,0))∧
   base+cap*es≤vs.length∧elems.length≤cap∧(cap≤maxLen∧S.mapo b=none)∧bZ S elems.flatten ((vs.drop base).take (elems.length*es))∧
   (fz=0→∀o,base≤o→S.cell b o=none)∧(∀o,base+elems.length*es≤o→S.cell b o=none)∧(fz=2→fD S b base ((vs.drop base).take (elems.length*es))))
 | .map agg ents=>∃b es clk,μ id=some (b,0,0)∧w.heap[b]?=some (.map es clk)∧aB2 S agg ents es.toList∧aIh S b ents
 | .dead=>μ id=none
 | .lp st j i e=>∃b r fn tmps,μ id=some (b,0,0)∧w.heap[b]?=some (.loop { state:=st,pending:=j,fn:=fn,tmps:=tmps,params:=i.params,assign:=i.asg,body:=i.body,defers:=r })∧
   tmps.size=i.n∧(∀t v,(t,v)∈e→aS S μ H v (tmps.getD t undef))∧(∀o,S.cell b o=none)∧S.mapo b=none
 | .dfr=>∃b,μ id=some (b,0,0)∧w.heap[b]?=some (.deferred (some []))∧(∀o,S.cell b o=none)∧S.mapo b=none
 | .rarr te es elems=>(∀r∈elems,r.length=es)∧((μ id=none∧elems=[])∨∃b base cap vs,μ id=some (b,base,cap)∧w.heap[b]?=some (.cells ⟨vs⟩ te (0,0))∧
   base+cap*es≤vs.length∧elems.length≤cap∧(cap≤maxLen∧S.mapo b=none)∧aT S μ H elems.flatten ((vs.drop base).take (elems.length*es))∧(∀o,base≤o→S.cell b o=none))
 | .tok r k=>μ id=none∧∃b,aZ S μ H r (.map (some b))∧∃m,S.mapo b=some m∧m.has k
def AObj.succ (same:Prop):AObj→AObj→Prop
 | .var _ _,.var _ _=>same
 | .arr _ es l _,.arr _ es' l' _=>es=es'∧l.length≤l'.length∧(l.length=l'.length→same)
 | .map _ _,.map _ _=>same
 | .arr _ _ _ _,.dead=>True
 | .dead,.dead=>True
 | .lp _ _ _ _,.lp _ _ _ _=>same
 | .dfr,.dfr=>same
 | .rarr _ es l,.rarr _ es' l'=>es=es'∧l.length≤l'.length∧(l.length=l'.length→same)
 | .rarr _ _ _,.dead=>True
 | .tok _ k,.tok _ k'=>k=k'
 | _,_=>False
structure Evolve (S:Sto) (μ:Mu) (H:cF) (S':Sto) (μ':Mu) (H':cF):Prop where
 le:S.le S'
 obj:∀id o,H id=some o→∃o',H' id=some o'∧o.succ (μ' id=μ id) o'
structure Evo0 (S:Sto) (μ:Mu) (H:cF) (S':Sto) (μ':Mu) (H':cF):Prop where
 le:S.le S'
 obj:∀id o,H id=some o→o≠ .dfr→∃o',H' id=some o'∧o.succ (μ' id=μ id) o'
theorem Evolve.weak {S:Sto}{μ:Mu}{H:cF}{S':Sto}{μ':Mu}{H':cF}(E:Evolve S μ H S' μ' H'):Evo0 S μ H S' μ' H':=⟨E.le,fun id o h _=>E.obj id o h⟩
theorem AObj.succ_refl (o:AObj) {p:Prop}(h:p):o.succ p o:=by cases o<;>simp[AObj.succ,h]
theorem AObj.succ_dead {o:AObj}{p:Prop}(h:AObj.dead.succ p o):o=.dead:=by cases o<;>simp only[AObj.succ] at h;rfl
theorem AObj.succ_trans {a b c:AObj}{p q r:Prop}(h:a.succ p b) (k:b.succ q c) (u:p→q→r):a.succ r c:=by
  cases a<;>cases b<;>simp only[AObj.succ] at h<;>cases c<;>simp only[AObj.succ] at k ⊢
  all_goals first
    | exact u h k
    | trivial
    | exact h.trans k
    | (obtain⟨h1,h2,y⟩:=h
       obtain⟨A,B,E⟩:=k
       exact⟨h1.trans A,le_trans h2 B,fun e=>u (y (by omega)) (E (by omega))⟩)
theorem Evolve.refl (S:Sto) (μ:Mu) (H:cF):Evolve S μ H S μ H:=⟨S.le_refl,fun _ o h=>⟨o,h,o.succ_refl rfl⟩⟩
theorem Evolve.trans {S S' S'':Sto}{μ μ' q:Mu}{H H' H'':cF}(h:Evolve S μ H S' μ' H') (k:Evolve S' μ' H' S'' q H''):Evolve S μ H S'' q H'':=
 ⟨Sto.le_trans h.le k.le,fun id o ho=>by
  obtain⟨o',h1,h2⟩:=h.obj id o ho;obtain⟨u,y,A⟩:=k.obj id o' h1
  exact⟨u,y,AObj.succ_trans h2 A fun e f=>f.trans e⟩⟩
section
variable {S S':Sto}{μ μ':Mu}{H H':cF}
mutual
theorem aZ.evolve0 (E:Evo0 S μ H S' μ' H'):∀(r:R) (v:Value),aZ S μ H r v→aZ S' μ' H' r v
 | .c x,v,k=>by simp only[aZ] at k ⊢;exact Rep.mono E.le x v k
 | .hs id off len sz,v,k=>by
  simp only[aZ] at k ⊢;obtain⟨kk,k⟩:=k;refine⟨kk,?_⟩;rcases k with k | ⟨te,es,elems,fz,h1,h2,A⟩
  ·obtain⟨o',y,q⟩:=E.obj _ _ k (by simp);exact .inl (by rw[y,AObj.succ_dead q])
  obtain⟨o',y,q⟩:=E.obj _ _ h1 (by simp);cases o' with
  | arr B Y elems' O=>
   simp only[AObj.succ] at q;obtain⟨rfl,I,M⟩:=q;refine .inr ⟨B,es,elems',O,y,le_trans h2 I,fun e=>?_⟩;have e1:sz=elems.length:=by omega
   obtain⟨J,U⟩:=A e1;have hm:=M (by omega);refine⟨J,?_⟩;rcases U with⟨g1,g2,g3⟩ | ⟨b,base,cap,g1,g2⟩
   ·refine .inl ⟨by rw[hm,g1],?_,g3⟩;subst g2;simp only[length_nil] at e1 I;exact Aw (by omega)
   ·exact .inr ⟨b,base,cap,by rw[hm,g1],g2⟩
  | dead=>exact .inl y
  | _=>simp only[AObj.succ] at q
 | .tl id off len sz,v,k=>by
  simp only[aZ] at k ⊢;obtain⟨kk,k⟩:=k;refine⟨kk,?_⟩;rcases k with k | ⟨te,es,elems,fz,h1,h2,A⟩
  ·obtain⟨o',y,q⟩:=E.obj _ _ k (by simp);exact .inl (by rw[y,AObj.succ_dead q])
  obtain⟨o',y,q⟩:=E.obj _ _ h1 (by simp);cases o' with
  | arr B Y elems' O=>
   simp only[AObj.succ] at q;obtain⟨rfl,I,M⟩:=q;refine .inr ⟨B,es,elems',O,y,le_trans h2 I,fun e=>?_⟩;obtain⟨J,b,base,cap,g1,g2⟩:=A (by omega);exact⟨J,b,base,cap,by rw[M (by omega),g1],g2⟩
  | dead=>exact .inl y
  | _=>simp only[AObj.succ] at q
 | .vp id off,v,k=>by
  simp only[aZ] at k ⊢;obtain⟨t,cells,b,c,h1,h2,A⟩:=k;obtain⟨o',y,q⟩:=E.obj _ _ h1 (by simp);cases o' with
  | var t' cells'=>simp only[AObj.succ] at q;exact⟨t',cells',b,c,y,by rw[q,h2],A⟩
  | _=>simp only[AObj.succ] at q
 | .ep id i fo sz,v,k=>by
  simp only[aZ] at k ⊢;obtain⟨kk,k⟩:=k;refine⟨kk,?_⟩;rcases k with k | ⟨te,es,elems,fz,h1,h2,A⟩
  ·obtain⟨o',y,q⟩:=E.obj _ _ k (by simp);exact .inl (by rw[y,AObj.succ_dead q])
  obtain⟨o',y,q⟩:=E.obj _ _ h1 (by simp);cases o' with
  | arr B Y elems' O=>
   simp only[AObj.succ] at q;obtain⟨rfl,I,M⟩:=q;refine .inr ⟨B,es,elems',O,y,le_trans h2 I,fun e=>?_⟩;obtain⟨J,b,base,cap,g1,g2⟩:=A (by omega);exact⟨J,b,base,cap,by rw[M (by omega),g1],g2⟩
  | dead=>exact .inl y
  | _=>simp only[AObj.succ] at q
 | .mr id,v,k=>by
  simp only[aZ] at k ⊢;obtain⟨agg,ents,b,c,h1,h2,A⟩:=k;obtain⟨o',y,q⟩:=E.obj _ _ h1 (by simp);cases o' with
  | map agg' ents'=>simp only[AObj.succ] at q;exact⟨agg',ents',b,c,y,by rw[q,h2],A⟩
  | _=>simp only[AObj.succ] at q
 | .clo f caps,v,k=>by
  simp only[aZ] at k ⊢;obtain⟨vs,h1,h2⟩:=k;exact⟨vs,h1,aT.evolve0 E caps vs h2⟩
 | .mth f recv,v,k=>by
  simp only[aZ] at k ⊢;obtain⟨u,h1,h2⟩:=k;exact⟨u,h1,aZ.evolve0 E recv u h2⟩
 | .rp id i fo sz,v,k=>by
  simp only[aZ] at k ⊢;obtain⟨kk,k⟩:=k;refine⟨kk,?_⟩;rcases k with k | ⟨te,es,elems,h1,h2,A⟩
  ·obtain⟨o',y,q⟩:=E.obj _ _ k (by simp);exact .inl (by rw[y,AObj.succ_dead q])
  obtain⟨o',y,q⟩:=E.obj _ _ h1 (by simp);cases o' with
  | rarr B Y elems'=>
   simp only[AObj.succ] at q;obtain⟨rfl,I,M⟩:=q;refine .inr ⟨B,es,elems',y,le_trans h2 I,fun e=>?_⟩;obtain⟨J,b,base,cap,g1,g2⟩:=A (by omega);exact⟨J,b,base,cap,by rw[M (by omega),g1],g2⟩
  | dead=>exact .inl y
  | _=>simp only[AObj.succ] at q
 | .yl id,v,k=>by
  simp only[aZ] at k ⊢;obtain⟨st,j,i,e,b,c,h1,h2,A⟩:=k;obtain⟨o',y,q⟩:=E.obj _ _ h1 (by simp);cases o' with
  | lp st' j' i' e'=>simp only[AObj.succ] at q;exact⟨st',j',i',e',b,c,y,by rw[q,h2],A⟩
  | _=>simp only[AObj.succ] at q
 | .ra id off len sz,v,k=>by
  simp only[aZ] at k ⊢;obtain⟨kk,k⟩:=k;refine⟨kk,?_⟩;rcases k with k | ⟨te,es,elems,h1,h2,A⟩
  ·obtain⟨o',y,q⟩:=E.obj _ _ k (by simp);exact .inl (by rw[y,AObj.succ_dead q])
  obtain⟨o',y,q⟩:=E.obj _ _ h1 (by simp);cases o' with
  | rarr B Y elems'=>
   simp only[AObj.succ] at q;obtain⟨rfl,I,M⟩:=q;refine .inr ⟨B,es,elems',y,le_trans h2 I,fun e=>?_⟩;have e1:sz=elems.length:=by omega
   obtain⟨J,U⟩:=A e1;have hm:=M (by omega);refine⟨J,?_⟩;rcases U with⟨g1,g2,g3⟩ | ⟨b,base,cap,g1,g2⟩
   ·refine .inl ⟨by rw[hm,g1],?_,g3⟩;subst g2;simp only[length_nil] at e1 I;exact Aw (by omega)
   ·exact .inr ⟨b,base,cap,by rw[hm,g1],g2⟩
  | dead=>exact .inl y
  | _=>simp only[AObj.succ] at q
 | .ras n es l,v,k=>by
  simp only[aZ] at k ⊢;obtain⟨a,cap,h1,h2,A,y,q,I,b,o,M,vs,J,U⟩:=k;exact⟨a,cap,h1,h2,A,y,q,I,b,o,M,vs,aT.evolve0 E l vs J,U.mono E.le⟩
 | .pas l,v,k=>by
  simp only[aZ] at k ⊢;obtain⟨b,o,h1,vs,J,U⟩:=k;exact⟨b,o,h1,vs,aT.evolve0 E l vs J,U.mono E.le⟩
theorem aT.evolve0 (E:Evo0 S μ H S' μ' H'):∀(r:List R) (v:List Value),aT S μ H r v→aT S' μ' H' r v
 | [],_,k=>by simpa [aT] using k
 | r::rs,vs,k=>by
  simp only[aT] at k ⊢;obtain⟨v,vs',h1,h2,A⟩:=k;exact⟨v,vs',h1,aZ.evolve0 E r v h2,aT.evolve0 E rs vs' A⟩
end
mutual
theorem aS.evolve0 (E:Evo0 S μ H S' μ' H'):∀(r:V) (v:Value),aS S μ H r v→aS S' μ' H' r v
 | .one r,v,k=>by simp only[aS] at k ⊢;exact aZ.evolve0 E r v k
 | .pa l,v,k=>by
  simp only[aS] at k ⊢;obtain⟨vs,h1,h2⟩:=k;exact⟨vs,h1,bZ.mono E.le l vs h2⟩
 | .ma l,v,k=>by
  simp only[aS] at k ⊢;obtain⟨vs,h1,h2⟩:=k;exact⟨vs,h1,aT.evolve0 E l vs h2⟩
 | .tup l,v,k=>by
  simp only[aS] at k ⊢;obtain⟨vs,h1,h2⟩:=k;exact⟨vs,h1,b7.evolve0 E l vs h2⟩
theorem b7.evolve0 (E:Evo0 S μ H S' μ' H'):∀(r:List V) (v:List Value),b7 S μ H r v→b7 S' μ' H' r v
 | [],_,k=>by simpa [b7] using k
 | r::rs,vs,k=>by
  simp only[b7] at k ⊢;obtain⟨v,vs',h1,h2,q⟩:=k;exact⟨v,vs',h1,aS.evolve0 E r v h2,b7.evolve0 E rs vs' q⟩
end
theorem aT.evolve (E:Evolve S μ H S' μ' H') (r:List R) (v:List Value) (k:aT S μ H r v):aT S' μ' H' r v:=aT.evolve0 E.weak r v k
theorem aS.evolve (E:Evolve S μ H S' μ' H') (r:V) (v:Value) (k:aS S μ H r v):aS S' μ' H' r v:=aS.evolve0 E.weak r v k
theorem b7.evolve (E:Evolve S μ H S' μ' H') (r:List V) (v:List Value) (k:b7 S μ H r v):b7 S' μ' H' r v:=b7.evolve0 E.weak r v k
end
structure Ctx where
 w0:World
 S0:Sto
 F:Nat→Prop
 μ0:Mu
 h0:cF
structure FrameW (w0:World) (F:Nat→Prop) (w:World):Prop where
 os:w.os=w0.os
 tape:w.tape=w0.tape
 output:w.output=w0.output
 size:w0.heap.size≤w.heap.size
 block:∀k,k<w0.heap.size→¬F k→w.heap[k]?=w0.heap[k]?
 tab:a3w w0 F
def Holds (S:Sto) (w:World):Prop:=
 (∀b o v,S.cell b o=some v→∃vs t fr,w.heap[b]?=some (.cells vs t fr)∧vs[o]?=some v)∧(∀b m,S.mapo b=some m→m.holds w.heap[b]?)
structure Inv (G:Ctx) (S:Sto) (μ:Mu) (H:cF) (w:World):Prop where
 holds:Holds S w
 obj:∀id o,H id=some o→mB S μ H w id o
 inj:∀i j o o' b c c',H i=some o→H j=some o'→μ i=some (b,c)→μ j=some (b,c')→i=j
 own:∀i o b c,H i=some o→μ i=some (b,c)→G.w0.heap.size≤b∨G.F b
 frame:FrameW G.w0 G.F w
 sle:G.S0.le S
 sto:∀b,b<G.w0.heap.size→¬G.F b→(∀o,S.cell b o=G.S0.cell b o)∧S.mapo b=G.S0.mapo b
 evo:Evolve G.S0 G.μ0 G.h0 S μ H
 fre:S.free
theorem FrameW.refl (w:World) (F:Nat→Prop) (h:a3w w F):FrameW w F w:=⟨rfl,rfl,rfl,le_refl _,fun _ _ _=>rfl,h⟩
theorem FrameW.tabAt {w0 w:World}{F:Nat→Prop}(h:FrameW w0 F w):aQ0 w:=fun g q=>by
 obtain⟨h1,t,u,h2⟩:=h.tab.1 g q;exact⟨A8 h1 h.size,t,u,by rw[h.block g h1 (h.tab.2 g q)];exact h2⟩
theorem mB.lt {S:Sto}{μ:Mu}{H:cF}{w:World}{id:Nat}{o:AObj}(h:mB S μ H w id o) {b:Nat}{c:Nat×Nat}(hm:μ id=some (b,c)):b<w.heap.size:=by
 have hl:∀{x:Obj},w.heap[b]?=some x→b<w.heap.size:=fun e=>(Cp.1 e).1
 cases o with
 | var t cells=>
  obtain⟨q,vs,h1,h2,_⟩:=h;rw[hm] at h1;cases h1;exact hl h2
 | arr te es elems fz=>
  obtain⟨_,⟨h1,_⟩ | ⟨q,base,cap,vs,h1,h2,_⟩⟩:=h
  ·rw[hm] at h1;cases h1
  ·rw[hm] at h1;cases h1;exact hl h2
 | map agg ents=>
  obtain⟨q,es,clk,h1,h2,_⟩:=h;rw[hm] at h1;cases h1;exact hl h2
 | dead=>rw[show μ id=none from h] at hm;cases hm
 | lp st j i e=>
  obtain⟨q,r,fn,tmps,h1,h2,_⟩:=h;rw[hm] at h1;cases h1;exact hl h2
 | dfr=>
  obtain⟨q,h1,h2,_⟩:=h;rw[hm] at h1;cases h1;exact hl h2
 | rarr te es elems=>
  obtain⟨_,⟨h1,_⟩ | ⟨q,base,cap,vs,h1,h2,_⟩⟩:=h
  ·rw[hm] at h1;cases h1
  ·rw[hm] at h1;cases h1;exact hl h2
 | tok r k=>rw[h.1] at hm;cases hm
theorem mB.evolve0 {S S':Sto}{μ μ':Mu}{H H':cF}{w w':World}{id:Nat}{o:AObj}(E:Evo0 S μ H S' μ' H') (h:mB S μ H w id o) (hm:μ' id=μ id)
  (hw:∀b c,μ id=some (b,c)→w'.heap[b]?=w.heap[b]?∧(∀o,S'.cell b o=S.cell b o)∧S'.mapo b=S.mapo b):mB S' μ' H' w' id o:=by
 cases o with
 | var t cells=>
  obtain⟨b,vs,h1,h2,u,q⟩:=h;obtain⟨g1,g2,g3⟩:=hw _ _ h1;exact⟨b,vs,by rw[hm,h1],by rw[g1,h2],aT.evolve0 E _ _ u,fun o=>by rw[g2,q.1],by rw[g3,q.2]⟩
 | arr te es elems fz=>
  obtain⟨h0,⟨h1,h2⟩ | ⟨b,base,cap,vs,h1,h2,u,q,y,A,B,I,J⟩⟩:=h
  ·exact⟨h0,.inl ⟨by rw[hm,h1],h2⟩⟩
  ·obtain⟨g1,g2,g3⟩:=hw _ _ h1;exact⟨h0,.inr ⟨b,base,cap,vs,by rw[hm,h1],by rw[g1,h2],u,q,⟨y.1,by rw[g3,y.2]⟩,bZ.mono E.le _ _ A,fun e o ho=>by rw[g2,B e o ho],fun o e=>by rw[g2,I o e],fun e=>(J e).mono E.le⟩⟩
 | map agg ents=>
  obtain⟨b,es,clk,h1,h2,u,q⟩:=h;obtain⟨g1,g2,g3⟩:=hw _ _ h1;exact⟨b,es,clk,by rw[hm,h1],by rw[g1,h2],aB2.mono E.le u,q.of_eq g3⟩
 | dead=>exact hm.trans h
 | lp st j i e=>
  obtain⟨b,r,fn,tmps,h1,h2,u,q,y,A⟩:=h;obtain⟨g1,g2,g3⟩:=hw _ _ h1;exact⟨b,r,fn,tmps,by rw[hm,h1],by rw[g1,h2],u,fun t v ht=>aS.evolve0 E _ _ (q t v ht),fun o=>by rw[g2,y],by rw[g3,A]⟩
 | dfr=>
  obtain⟨b,h1,h2,u,q⟩:=h;obtain⟨g1,g2,g3⟩:=hw _ _ h1;exact⟨b,by rw[hm,h1],by rw[g1,h2],fun o=>by rw[g2,u],by rw[g3,q]⟩
 | rarr te es elems=>
  obtain⟨h0,⟨h1,h2⟩ | ⟨b,base,cap,vs,h1,h2,u,q,y,A,B⟩⟩:=h
  ·exact⟨h0,.inl ⟨by rw[hm,h1],h2⟩⟩
  ·obtain⟨g1,g2,g3⟩:=hw _ _ h1;exact⟨h0,.inr ⟨b,base,cap,vs,by rw[hm,h1],by rw[g1,h2],u,q,⟨y.1,by rw[g3,y.2]⟩,aT.evolve0 E _ _ A,fun o ho=>by rw[g2,B o ho]⟩⟩
 | tok r k=>
  obtain⟨h1,b,h2,m,u,q⟩:=h;obtain⟨M,y,A⟩:=E.le.2 b m u;exact⟨by rw[hm,h1],b,aZ.evolve0 E _ _ h2,M,y,MK.le_has A q⟩
theorem mB.evolve {S S':Sto}{μ μ':Mu}{H H':cF}{w w':World}{id:Nat}{o:AObj}(E:Evolve S μ H S' μ' H') (h:mB S μ H w id o) (hm:μ' id=μ id)
  (hw:∀b c,μ id=some (b,c)→w'.heap[b]?=w.heap[b]?∧(∀o,S'.cell b o=S.cell b o)∧S'.mapo b=S.mapo b):mB S' μ' H' w' id o:=mB.evolve0 E.weak h hm hw
def upd {α:Type}(f:Nat→Option α) (k:Nat) (x:Option α):Nat→Option α:=fun i=>if Nat.beq i k then x else f i
theorem aN {α:Type}(f:Nat→Option α) (k:Nat) (x:Option α):upd f k x k=x:=by simp[upd]
theorem bJ {α:Type}(f:Nat→Option α) (k:Nat) (x:Option α) {i:Nat}(h:i≠k):upd f k x i=f i:=by
 have:Nat.beq i k=false:=by
  cases hb:Nat.beq i k with
  | false=>rfl
  | true=>exact absurd (τ hb) h
 simp[upd,this]
structure WChg (w w':World) (b:Nat) (o:Obj):Prop where
 os:w'.os=w.os
 tape:w'.tape=w.tape
 output:w'.output=w.output
 size:w.heap.size≤w'.heap.size
 new:w'.heap[b]?=some o
 old:∀k,k<w.heap.size→k≠b→w'.heap[k]?=w.heap[k]?
theorem WChg.alloc (w:World) (o:Obj):WChg w (w.alloc o) w.heap.size o:=
 ⟨rfl,rfl,rfl,by simp,B2 w o,fun k q _=>RowKit.Below.heap_alloc w o k q⟩
theorem WChg.alloc_drew (w:World) (o:Obj):WChg w (w.drew.alloc o) w.heap.size o:=
 ⟨rfl,rfl,rfl,by simp,B2 w.drew o,fun k q _=>RowKit.Below.heap_alloc w.drew o k q⟩
theorem WChg.setRow (w:World) (g:Nat) (cur cs:Array Value) (t:TypeId) (q:Nat×Nat) (u:w.heap[g]?=some (.cells cur t q)):WChg w (w.setRow g cs) g (.cells cs t q):=
 ⟨rfl,rfl,rfl,by simp,setRow_heap w g cur cs t q u,fun k _ y=>setRow_other w g k cs y⟩
theorem cA {w:World}{b:Nat}{x:Obj}(e:w.heap[b]?=some x):b<w.heap.size:=(Cp.1 e).1
theorem Inv.chg {G:Ctx}{S:Sto}{μ:Mu}{H:cF}{w w':World}{id b:Nat}{cap:Nat×Nat}{U:Obj}{ao:AObj}(h:Inv G S μ H w) (hw:WChg w w' b U)
  (hb:w.heap.size≤b∨(∃o c,H id=some o∧μ id=some (b,c)))
  (Y:Evolve S μ H S (upd μ id (some (b,cap))) (upd H id (some ao)))
  (hO:mB S (upd μ id (some (b,cap))) (upd H id (some ao)) w' id ao)
  (hS:∀o v,S.cell b o=some v→∃vs t O,U=.cells vs t O∧vs[o]?=some v) (aa:∀m,S.mapo b=some m→w.heap.size≤b):
  Inv G S (upd μ id (some (b,cap))) (upd H id (some ao)) w':=by
 have I:∀j o,H j=some o→j≠id→∀q c',μ j=some (q,c')→q≠b:=by
  intro j o hj ab q c' hm e;subst e;rcases hb with hb | ⟨o',c,h1,h2⟩
  ·have:=(h.obj j o hj).lt hm;omega
  ·exact ab (h.inj j id o o' q c' c hj h1 hm h2)
 refine⟨⟨?_,?_⟩,?_,?_,?_,?_,h.sle,h.sto,h.evo.trans Y,h.fre⟩
 ·intro q o v e;obtain⟨vs,t,O,h1,h2⟩:=h.holds.1 q o v e;by_cases B:q=b
  ·subst B;obtain⟨vs',t',ac,M,h4⟩:=hS o v e;exact⟨vs',t',ac,by rw[hw.new,M],h4⟩
  ·exact⟨vs,t,O,by rw[hw.old q (cA h1) B,h1],h2⟩
 ·intro q m e;have h1:=h.holds.2 q m e;obtain⟨_,h2⟩:=MK.holds_some h1;by_cases B:q=b
  ·subst B;have:=aa _ e;have:=cA h2;omega
  ·rw[hw.old q (cA h2) B];exact h1
 ·intro j o hj;by_cases J:j=id
  ·subst J;rw[aN] at hj;cases hj;exact hO
  ·rw[bJ _ _ _ J] at hj;refine(h.obj j o hj).evolve Y (bJ _ _ _ J) fun q c' hm=>⟨?_,fun _=>rfl,rfl⟩
   exact hw.old q ((h.obj j o hj).lt hm) (I j o hj J q c' hm)
 ·intro i j o o' q c c' hi hj y A;by_cases u:i=id<;>by_cases E:j=id
  ·rw[u,E]
  ·subst u;rw[aN] at y;cases y;rw[bJ _ _ _ E] at hj A;exact absurd rfl (I j o' hj E _ _ A)
  ·subst E;rw[aN] at A;cases A;rw[bJ _ _ _ u] at hi y;exact absurd rfl (I i o hi u _ _ y)
  ·rw[bJ _ _ _ u] at hi y;rw[bJ _ _ _ E] at hj A;exact h.inj i j o o' q c c' hi hj y A
 ·intro i o q c hi hm;by_cases u:i=id
  ·subst u;rw[aN] at hm;cases hm;rcases hb with hb | ⟨o',c',h1,h2⟩
   ·exact .inl (le_trans h.frame.size hb)
   ·exact h.own _ _ _ _ h1 h2
  ·rw[bJ _ _ _ u] at hi hm;exact h.own _ _ _ _ hi hm
 ·refine⟨hw.os.trans h.frame.os,hw.tape.trans h.frame.tape,hw.output.trans h.frame.output,le_trans h.frame.size hw.size,fun k hk hF=>?_,h.frame.tab⟩;rw[hw.old k (A8 hk h.frame.size) ?_,h.frame.block k hk hF];rintro rfl;rcases hb with hb | ⟨o',c',h1,h2⟩
  ·have:=h.frame.size;omega
  ·rcases h.own _ _ _ _ h1 h2 with M | M
   ·omega
   ·exact hF M
theorem Inv.same {G:Ctx}{S:Sto}{μ:Mu}{H:cF}{w w':World}(h:Inv G S μ H w) (hh:w'.heap=w.heap) (ho:w'.os=w.os) (ht:w'.tape=w.tape) (hu:w'.output=w.output):Inv G S μ H w':=by
 obtain⟨h1,h2,u,y,q,A,B,E,I⟩:=h;refine⟨⟨fun b o v e=>by rw[hh];exact h1.1 b o v e,fun b m e=>by rw[hh];exact h1.2 b m e⟩,fun id o e=>(h2 id o e).evolve (Evolve.refl _ _ _) rfl fun b c hm=>⟨by rw[hh],fun _=>rfl,rfl⟩,u,y,?_,A,B,E,I⟩;exact⟨ho.trans q.os,ht.trans q.tape,hu.trans q.output,by rw[hh];exact q.size,fun k J M=>by rw[hh];exact q.block k J M,q.tab⟩
theorem Holds.cell {S:Sto}{w:World}(h:Holds S w) {b o:Nat}{v:Value}(e:S.cell b o=some v):w.cell? ⟨b,o,none⟩=some v:=by
 obtain⟨vs,t,q,h1,h2⟩:=h.1 b o v e;simp[World.cell?,h1,h2]
structure St where
 e:Nat→Option V
 h:cF
 d:List Nat
def Marks (lo:Nat) (μ:Mu) (H:cF):List Nat→List Deferred→Prop
 | [],ds=>ds=[]
 | id::ids,ds=>∃b c ds',ds={ target:=.collected b,args:= #[] }::ds'∧μ id=some (b,c)∧H id=some .dfr∧lo≤b∧id∉ids∧Marks lo μ H ids ds'
theorem Marks.ren {lo:Nat}{μ μ':Mu}{H H':cF}(σ:Nat→Nat):∀{ids:List Nat}{q:List Deferred},Marks lo μ H (ids.map σ) q→(∀id∈ids,H (σ id)=some .dfr→μ' id=μ (σ id)∧H' id=some .dfr)→Marks lo μ' H' ids q
 | [],_,h,_=>h
 | id::ids,_,⟨b,c,u,h1,h2,y,A,B,E⟩,k=>by
  obtain⟨I,J⟩:=k id (by simp) y;exact⟨b,c,u,h1,by rw[I,h2],J,A,fun h=>B (C7.2 ⟨_,h,rfl⟩),Marks.ren σ E fun i hi=>k i (by simp[hi])⟩
theorem Marks.go {lo:Nat}{μ μ':Mu}{H H':cF}{ids:List Nat}{q:List Deferred}(h:Marks lo μ H ids q) (k:∀id∈ids,H id=some .dfr→μ' id=μ id∧H' id=some .dfr):Marks lo μ' H' ids q:=
 Marks.ren (fun i=>i) (by simpa using h) fun id hid=>k id hid
theorem Marks.evolve {lo:Nat}{S S':Sto}{μ μ':Mu}{H H':cF}(E:Evolve S μ H S' μ' H') {ids:List Nat}{q:List Deferred}(h:Marks lo μ H ids q):Marks lo μ' H' ids q:=
 h.go fun id _ u=>by
  obtain⟨o',h1,h2⟩:=E.obj id _ u;cases o' with
  | dfr=>exact⟨h2,h1⟩
  | _=>simp only[AObj.succ] at h2
structure Sim (G:Ctx) (n:Nat) (S:Sto) (μ:Mu) (st:St) (a:Act) (w:World):Prop where
 inv:Inv G S μ st.h w
 size:a.tmps.size=n
 defers:Marks G.w0.heap.size μ st.h st.d a.defers
 env:∀t v,st.e t=some v→aS S μ st.h v (a.tmps.getD t undef)
theorem aE8 (ts:Array Value) (d t:Nat) (v:Value) (q:d<ts.size):(ts.setIfInBounds d v).getD t undef=if t=d then v else ts.getD t undef:=by
 simp only[Ag,Ba];by_cases h:d=t
 ·subst h;simp[q]
 ·have:¬t=d:=fun e=>h e.symm
  simp[h,this]
theorem Sim.put {G:Ctx}{n:Nat}{S S':Sto}{μ μ':Mu}{st:St}{H':cF}{a:Act}{w w':World}(h:Sim G n S μ st a w) (hi:Inv G S' μ' H' w') (q:Evolve S μ st.h S' μ' H') {d:Nat}(u:d<n) {v:Value}{x:Option V}
  (hv:∀y,x=some y→aS S' μ' H' y v):Sim G n S' μ' ⟨upd st.e d x,H',st.d⟩ (a.put (some d) v) w':=by
 refine⟨hi,by simp[Act.put,h.size],h.defers.evolve q,fun t y e=>?_⟩;show aS S' μ' H' y ((a.tmps.setIfInBounds d v).getD t undef);rw[aE8 _ _ _ _ (by rw[h.size];exact u)];by_cases ht:t=d
 ·subst ht;rw[ζ rfl];exact hv y (by simpa [aN] using e)
 ·rw[η ht];have e':st.e t=some y:=by simpa [bJ _ _ _ ht] using e
  exact aS.evolve q y _ (h.env t y e')
theorem Sim.put_none {G:Ctx}{n:Nat}{S S':Sto}{μ μ':Mu}{st:St}{H':cF}{a:Act}{w w':World}(h:Sim G n S μ st a w) (hi:Inv G S' μ' H' w') (q:Evolve S μ st.h S' μ' H') (v:Value):
  Sim G n S' μ' ⟨st.e,H',st.d⟩ (a.put none v) w':=
 ⟨hi,h.size,h.defers.evolve q,fun t y e=>aS.evolve q y _ (h.env t y e)⟩
structure Rd where
 e:List Nat
 h:List Nat
structure Eff where
 d:Option (Nat×Option V)
 h:List (Nat×Option AObj)
def look {α:Type}:List (Nat×α)→Nat→Option α
 | [],_=>none
 | (k,x)::l,i=>if Nat.beq i k then some x else look l i
def jT (f:cF) (l:List (Nat×Option AObj)):cF:=fun i=>match look l i with | some o=>o | none=>f i
theorem aDx (f:cF):jT f []=f:=rfl
theorem cE (f:cF) (id:Nat) (x:Option AObj):jT f [(id,x)]=upd f id x:=by
 funext i;simp only[look,upd,jT];cases Nat.beq i id<;>rfl
def Eff.apply (f:Eff) (st:St):St:=
 {
   e:=match f.d with | some (t,v)=>upd st.e t v | none=>st.e
   h:=jT st.h f.h
   d:=st.d }
def Eff.we (f:Eff):List Nat:=(f.d.map (·.1)).toList
def Eff.wh (f:Eff):List Nat:=f.h.map (·.1)
def gS (rd:Rd) (st st':St):Prop:=(∀t∈rd.e,st'.e t=st.e t)∧(∀i∈rd.h,st'.h i=st.h i)
theorem gS.refl (rd:Rd) (st:St):gS rd st st:=⟨fun _ _=>rfl,fun _ _=>rfl⟩
def Wd (ro:Option Nat):Fence:={ fn:=fun _=>True,depth:=none,alive:=false,round:=ro }
theorem Wd.fenced (P:Program) (ro:Option Nat) (m:Machine):m.fenced P (Wd ro):=fenced_wide P m
theorem Wd.room (ro:Option Nat) (k:Nat):(Wd ro).room k:=fun _ h=>by simp[Wd] at h
theorem Wd.steps {ro:Option Nat}{P:Program}{m q:Machine}:StepsIn (Machine.fenced P (Wd ro)) P m q↔Steps P m q:=
 ⟨StepsIn.steps,fun h=>(StepsIn.of_steps h).mono fun m _=>Wd.fenced P ro m⟩
theorem Wd.comes {ro:Option Nat}{P:Program}{m q:Machine}{e:Ending}:ComesIn (Machine.fenced P (Wd ro)) P m q e↔Comes P m q e:=by
 cases e with
 | returned v=>exact Wd.steps
 | panicked chain=>exact Wd.steps
 | outgrown=>exact Iff.rfl
theorem Wd.calls {ro:Option Nat}{n:Nat}{P:Program}{f:FuncId}{args:Array Value}{w:World}{R:Ending→World→Prop}:CallsIn (Wd ro) n P f args w R↔Calls P f args w R:=
  ⟨fun h cs=>let ⟨e,w',q,r,s,x⟩:=h.2 cs (Wd.room _ _);⟨e,w',q,r,Wd.comes.1 s,x⟩,
   fun h=>⟨trivial,fun cs _=>let ⟨e,w',q,r,s,x⟩:=h cs;⟨e,w',q,r,Wd.comes.2 s,x⟩⟩⟩
theorem oF {P:Program}{o:Oper}{ro:Option Nat}{ρ:Operand→Value}{w w':World}{r:Next}(h:(execOp ρ o).run P w=.ok r w') (q:∀d,r≠ .defer d):(o.semAt ro ρ).run P w=.ok r w':=by
 rw[Oper.semAt_eq]
 ·exact h
 ·intro c hc;rw[execOp,hc] at h;simp only[Aa] at h;cases hq:(resolve ρ c o.type).run P w with
  | ok d u=>
   rw[hq] at h;simp only[Result.andThen,Ad] at h;cases h;exact q _ rfl
  | halt x u=>rw[hq] at h;simp[Result.andThen] at h
section
variable {P:Program}{o:Oper}{ro:Option Nat}{a:Act}{w w':World}{K:Act→World→Prop}{Q:Exit→Act→World→Prop}
theorem fS {v:Value}(q:(execOp a.eval o).run P w=.ok (.value v) w') (h:K (a.put o.dst v) w'):o.wpIn (Wd ro) 0 P a w K Q:=by
 refine⟨fun _ _=>trivial,?_⟩;rw[oF q (by simp),Oper.uponIn_value];exact h
theorem yS (q:(execOp a.eval o).run P w=.ok .skip w') (h:K (a.put o.dst undef) w'):o.wpIn (Wd ro) 0 P a w K Q:=by
 refine⟨fun _ _=>trivial,?_⟩;rw[oF q (by simp),Oper.uponIn_skip];exact h
theorem lB {f:FuncId}{args:Array Value}(u:(execOp a.eval o).run P w=.ok (.enter f args) w')
  (h:Calls P f args w' fun
   | .returned v,q=>K (a.put o.dst v) q
   | .panicked chain,q=>Q (.panic chain) a q
   | .outgrown,_=>LetsOut Q):o.wpIn (Wd ro) 0 P a w K Q:=by
 refine⟨fun _ _=>trivial,?_⟩;rw[oF u (by simp),Oper.uponIn_enter];exact⟨fun h=>by simp[Wd] at h,Wd.calls.2 h⟩
end
def Step (P:Program) (n:Nat) (o:Oper) (st:St) (rd:Rd) (f:Eff):Prop:=
 ∀st',gS rd st st'→∀G S μ a w (K:Act→World→Prop) (Q:Exit→Act→World→Prop),Sim G n S μ st' a w→
  (∀S' μ' a' w',Sim G n S' μ' (f.apply st') a' w'→K a' w')→∀ro,o.wpIn (Wd ro) 0 P a w K Q
def GStep (P:Program) (n:Nat) (ops:Array Oper) (i:Nat) (st:St) (rd:Rd) (f:Eff):Prop:=
 ∀st',gS rd st st'→∀G S μ a w (K:Act→World→Prop) (Q:Exit→Act→World→Prop),Sim G n S μ st' a w→
  (∀S' μ' a' w',Sim G n S' μ' (f.apply st') a' w'→K a' w')→∀ro,wpOpIn (Wd ro) 0 P ops Q i K a w
theorem GStep.plain {P:Program}{n:Nat}{ops:Array Oper}{i:Nat}{o:Oper}{st:St}{rd:Rd}{f:Eff}(ho:ops[i]?=some o) (q:o.guard=none) (h:Step P n o st rd f):GStep P n ops i st rd f:=by
 intro st' ha G S μ a w K Q hs u ro;unfold wpOpIn;simp only[ho];rw[ζ (by simp[Region.wanted,q])];exact h st' ha G S μ a w K Q hs u ro
theorem getElem?_of_getD {ts:Array Value}{t:Nat}{b:Bool}(h:ts.getD t undef=.bool b):ts[t]?=some (.bool b):=by
 rw[Ag] at h;cases hq:ts[t]? with
 | none=>simp[hq,undef] at h
 | some v=>simp[hq] at h;rw[h]
theorem GStep.yes {P:Program}{n:Nat}{ops:Array Oper}{i j t:Nat}{want b:Bool}{o:Oper}{st:St}{rd:Rd}{f:Eff}(ho:ops[i]?=some o) (y:o.guard=some (j,want)) (hj:(ops[j]?).bind (·.dst)=some t)
  (hb:st.e t=some (.one (.c (.bool b)))) (hw:b=want) (h:Step P n o st rd f):GStep P n ops i st ⟨t::rd.e,rd.h⟩ f:=by
 intro st' ha G S μ a w K Q hs A ro;have q:st'.e t=some (.one (.c (.bool b))):=by rw[ha.1 t (by simp),hb]
 have hv:=hs.env t _ q;simp only[aS,aZ,Rep] at hv;have u:=getElem?_of_getD hv;unfold wpOpIn;simp only[ho];rw[ζ (by simp[Region.wanted,y,yielded,hj,u,hw])];exact h st' ⟨fun t ht=>ha.1 t (by simp[ht]),ha.2⟩ G S μ a w K Q hs A ro
theorem GStep.no {P:Program}{n:Nat}{ops:Array Oper}{i j t d:Nat}{want b:Bool}{o:Oper}{st:St}(ho:ops[i]?=some o) (I:o.guard=some (j,want)) (J:o.dst=some d) (q:d<n) (hj:(ops[j]?).bind (·.dst)=some t)
  {u:Bool} (hb:st.e t=some (.one (.c (.bool b)))) (A:b=u) (hn:u= !want):GStep P n ops i st ⟨[t],[]⟩ ⟨some (d,some (.tup [])),[]⟩:=by
 have hw:b= !want:=A.trans hn;intro st' ha G S μ a w K Q hs M ro;have B:st'.e t=some (.one (.c (.bool b))):=by rw[ha.1 t (by simp),hb]
 have hv:=hs.env t _ B;simp only[aS,aZ,Rep] at hv;have E:=getElem?_of_getD hv;unfold wpOpIn;simp only[ho];rw[η (by simp[Region.wanted,I,yielded,hj,E,hw])];rw[J];refine⟨fun _ _=>trivial,M S μ _ _ ?_⟩;exact hs.put hs.inv (Evolve.refl _ _ _) q (fun y hy=>by cases hy;simp only[aS];exact⟨[],rfl,by simp[b7]⟩)
theorem GStep.un {P:Program}{n:Nat}{ops:Array Oper}{i j t d:Nat}{want:Bool}{o:Oper}{st:St}(ho:ops[i]?=some o) (E:o.guard=some (j,want)) (I:o.dst=some d) (u:d<n) (hj:(ops[j]?).bind (·.dst)=some t)
  (hb:st.e t=some (.tup [])):GStep P n ops i st ⟨[t],[]⟩ ⟨some (d,some (.tup [])),[]⟩:=by
 intro st' ha G S μ a w K Q hs J ro;have A:st'.e t=some (.tup []):=by rw[ha.1 t (by simp),hb]
 have hv:=hs.env t _ A;simp only[aS] at hv;obtain⟨vs,hv,q⟩:=hv;simp only[b7] at q;subst q;have B:yielded ops a.tmps j=none:=by
  unfold yielded;rw[hj];simp only[Ck];rw[Ag] at hv;cases hq:a.tmps[t]? with
  | none=>rfl
  | some v=>rw[hq] at hv;simp at hv;subst hv;rfl
 unfold wpOpIn;simp only[ho];rw[η (by simp[Region.wanted,E,B])];rw[I];refine⟨fun _ _=>trivial,J S μ _ _ ?_⟩;exact hs.put hs.inv (Evolve.refl _ _ _) u (fun y hy=>by cases hy;simp only[aS];exact⟨[],rfl,by simp[b7]⟩)
abbrev REs:=List (Rd×Eff)
def cH (L:Nat→Bool):Nat→REs→St→St
 | _,[],st=>st
 | k,x::xs,st=>cH L (k+1) xs (bif L k then x.2.apply st else st)
inductive Run (P:Program) (n:Nat) (ops:Array Oper):Nat→St→REs→St→Prop
 | nil {k st}:Run P n ops k st [] st
 | cons {k st rd f xs st'}:GStep P n ops k st rd f→Run P n ops (k+1) (f.apply st) xs st'→Run P n ops k st ((rd,f)::xs) st'
theorem Run.final {P:Program}{n:Nat}{ops:Array Oper}{k:Nat}{st st':St}{xs:REs}(h:Run P n ops k st xs st'):∀L:Nat→Bool,(∀j,k≤j→L j=true)→cH L k xs st=st':=by
 induction h with
 | nil=>intro L _;rfl
 | cons _ _ u=>
  intro L q;simp only[cH,q _ (le_refl _),B1];exact u L fun j hj=>q j (by omega)
theorem Run.at {P:Program}{n:Nat}{ops:Array Oper}{k:Nat}{st st':St}{xs:REs}(h:Run P n ops k st xs st'):∀(i:Nat) (x:Rd×Eff),xs[i]?=some x→
  GStep P n ops (k+i) (cH (fun j=>decide (j<k+i)) k xs st) x.1 x.2:=by
 induction h with
 | nil=>intro i x hx;simp at hx
 | @cons k st rd f xs st' B I u=>
  intro i x hx;cases i with
  | zero=>
   simp at hx;subst hx;have E:∀(q:REs) (m:Nat) (s:St),k<m→cH (fun j=>decide (j<k+0)) m q s=s:=by
    intro q
    induction q with
    | nil=>intro m s _;rfl
    | cons y q u=>
     intro m s hm;simp only[cH];have:decide (m<k+0)=false:=by simp;omega
     rw[this,Bq];exact u (m+1) _ (by omega)
   simp only[cH];have:decide (k<k+0)=false:=by simp
   rw[this,Bq];rw[E xs (k+1) st (by omega)];exact B
  | succ i=>
   simp at hx;have:=u i x hx;simp only[cH];have A:decide (k<k+(i+1))=true:=by simp
   rw[A,B1];rw[show k+(i+1)=k+1+i by omega];exact this
theorem xN (L:Nat→Bool):∀(xs:REs) (k:Nat) (st:St),(cH L k xs st).d=st.d
 | [],_,_=>rfl
 | x::xs,k,st=>by
  rw[cH,xN L xs];cases L k<;>rfl
theorem fN (f:Eff) (st:St) {t:Nat}(h:t∉f.we):(f.apply st).e t=st.e t:=by
 unfold Eff.apply Eff.we at *;cases q:f.d with
 | none=>rfl
 | some p=>
  obtain⟨k,v⟩:=p;simp only[q] at h ⊢;exact bJ _ _ _ (by simpa using h)
theorem aAf {α:Type}:∀{l:List (Nat×α)}{i:Nat},i∉l.map (·.1)→look l i=none
 | [],_,_=>rfl
 | (k,x)::l,i,h=>by
  simp at h;have hb:Nat.beq i k=false:=by
   cases hb:Nat.beq i k with
   | false=>rfl
   | true=>exact absurd (τ hb) h.1
  simp only[look,hb,Ax,Bw];exact aAf (by simpa using h.2)
theorem cW {α:Type}:∀{l:List (Nat×α)}{i:Nat},i∈l.map (·.1)→∃x,look l i=some x
 | [],_,h=>by simp at h
 | (k,x)::l,i,h=>by
  by_cases hb:Nat.beq i k=true
  ·exact⟨x,by simp[look,hb]⟩
  ·have q:i≠k:=fun e=>hb (by subst e;simp)
   simp at hb;simp only[look];obtain⟨y,hy⟩:=cW (l:=l) (i:=i) (by simpa [q] using h);exact⟨y,by simp[hb,hy]⟩
theorem fM (f:Eff) (st:St) {i:Nat}(h:i∉f.wh):(f.apply st).h i=st.h i:=by
 unfold Eff.apply Eff.wh at *;simp only[jT,aAf h]
theorem r9 (f:Eff) (st st':St) {t:Nat}(h:t∈f.we):(f.apply st).e t=(f.apply st').e t:=by
 unfold Eff.apply Eff.we at *;cases q:f.d with
 | none=>simp[q] at h
 | some p=>
  obtain⟨k,v⟩:=p;simp only[q] at h ⊢;simp at h;subst h;simp[aN]
theorem r8 (f:Eff) (st st':St) {i:Nat}(h:i∈f.wh):(f.apply st).h i=(f.apply st').h i:=by
 unfold Eff.apply Eff.wh at *;obtain⟨x,hx⟩:=cW h;simp only[jT,hx]
theorem qW (t:Nat):∀(xs:REs) (k:Nat) (L L':Nat→Bool) (st st':St),st.e t=st'.e t→(∀i x,xs[i]?=some x→L (k+i)≠L' (k+i)→t∉x.2.we)→(cH L k xs st).e t=(cH L' k xs st').e t:=by
 intro xs
 induction xs with
 | nil=>intro k L L' st st' h _;exact h
 | cons x xs u=>
  intro k L L' st st' h hx;simp only[cH];refine u (k+1) L L' _ _ ?_ fun i y hy A=>hx (i+1) y (by simpa using hy) (by rwa [show k+(i+1)=k+1+i by omega])
  have h0:=hx 0 x rfl;simp only[Ct] at h0;by_cases q:L k=L' k
  ·rw[q];cases L' k
   ·exact h
   ·by_cases hw:t∈x.2.we
    ·exact r9 _ _ _ hw
    ·simp only[B1];rw[fN _ _ hw,fN _ _ hw,h]
  ·have hw:=h0 q;cases L k<;>cases L' k<;>simp only[B1,Bq,fN _ _ hw,h]
theorem qV (t:Nat):∀(xs:REs) (k:Nat) (L L':Nat→Bool) (st st':St),st.h t=st'.h t→(∀i x,xs[i]?=some x→L (k+i)≠L' (k+i)→t∉x.2.wh)→(cH L k xs st).h t=(cH L' k xs st').h t:=by
 intro xs
 induction xs with
 | nil=>intro k L L' st st' h _;exact h
 | cons x xs u=>
  intro k L L' st st' h hx;simp only[cH];refine u (k+1) L L' _ _ ?_ fun i y hy A=>hx (i+1) y (by simpa using hy) (by rwa [show k+(i+1)=k+1+i by omega])
  have h0:=hx 0 x rfl;simp only[Ct] at h0;by_cases q:L k=L' k
  ·rw[q];cases L' k
   ·exact h
   ·by_cases hw:t∈x.2.wh
    ·exact r8 _ _ _ hw
    ·simp only[B1];rw[fM _ _ hw,fM _ _ hw,h]
  ·have hw:=h0 q;cases L k<;>cases L' k<;>simp only[B1,Bq,fM _ _ hw,h]
theorem aAr (L:Nat→Bool) (m:Nat) (f:Eff):∀(xs:REs) (k:Nat) (rd:Rd) (st:St),k≤m→xs[m-k]?=some (rd,f)→L m=false→
  (∀i x,xs[i]?=some x→L (k+i)=true→m<k+i→(∀t∈f.we,t∉x.2.we)∧(∀t∈f.wh,t∉x.2.wh))→
  cH (fun j=>L j || Nat.beq j m) k xs st=f.apply (cH L k xs st):=by
 have tail:∀(xs:REs) (k:Nat) (st:St),m<k→(∀i x,xs[i]?=some x→L (k+i)=true→(∀t∈f.we,t∉x.2.we)∧(∀t∈f.wh,t∉x.2.wh))→
   cH (fun j=>L j || Nat.beq j m) k xs (f.apply st)=f.apply (cH L k xs st):=by
  intro xs
  induction xs with
  | nil=>intro k st _ _;rfl
  | cons x xs B=>
   intro k st J hx;simp only[cH];have hb:Nat.beq k m=false:=by
    cases hb:Nat.beq k m with
    | false=>rfl
    | true=>have:=τ hb;omega
   rw[hb,Bool.or_false];have h0:=hx 0 x rfl;simp only[Ct] at h0;have u:∀i y,xs[i]?=some y→L (k+1+i)=true→(∀t∈f.we,t∉y.2.we)∧(∀t∈f.wh,t∉y.2.wh):=fun i y hy hl=>hx (i+1) y (by simpa using hy) (by rwa [show k+(i+1)=k+1+i by omega])
   cases M:L k with
   | false=>simp only[Bq];exact B (k+1) st (by omega) u
   | true=>
    simp only[B1];obtain⟨h1,h2⟩:=h0 M;have hc:x.2.apply (f.apply st)=f.apply (x.2.apply st):=by
     have he:(x.2.apply (f.apply st)).e=(f.apply (x.2.apply st)).e:=funext fun t=>by
      by_cases ht:t∈f.we
      ·rw[fN _ _ (h1 t ht)];exact r9 _ _ _ ht
      ·rw[fN f _ ht];by_cases q:t∈x.2.we
       ·exact r9 _ _ _ q
       ·rw[fN _ _ q,fN _ _ q,fN _ _ ht]
     have hh:(x.2.apply (f.apply st)).h=(f.apply (x.2.apply st)).h:=funext fun t=>by
      by_cases ht:t∈f.wh
      ·rw[fM _ _ (h2 t ht)];exact r8 _ _ _ ht
      ·rw[fM f _ ht];by_cases q:t∈x.2.wh
       ·exact r8 _ _ _ q
       ·rw[fM _ _ q,fM _ _ q,fM _ _ ht]
     cases O:x.2.apply (f.apply st);cases hB:f.apply (x.2.apply st);have A:(x.2.apply (f.apply st)).d=(f.apply (x.2.apply st)).d:=rfl;simp only[O,hB] at he hh A;rw[he,hh,A]
    rw[hc];exact B (k+1) _ (by omega) u
 intro xs
 induction xs with
 | nil=>intro k rd st _ hx;simp at hx
 | cons x xs B=>
  intro k rd st J hx hm A;simp only[cH];by_cases E:k=m
  ·subst E;simp at hx;subst hx;have hb:Nat.beq k k=true:=by simp
   rw[hb,hm,Bool.or_true];simp only[B1,Bq];exact tail xs (k+1) st (by omega) fun i y hy hl=>A (i+1) y (by simpa using hy) (by rwa [show k+(i+1)=k+1+i by omega]) (by omega)
  ·have hb:Nat.beq k m=false:=by
    cases hb:Nat.beq k m with
    | false=>rfl
    | true=>exact absurd (τ hb) E
   rw[hb,Bool.or_false];have I:xs[m-(k+1)]?=some (rd,f):=by
    rw[show m-k=(m-(k+1))+1 by omega] at hx;simpa using hx
   exact B (k+1) rd _ (by omega) I hm fun i y hy hl U=>A (i+1) y (by simpa using hy) (by rwa [show k+(i+1)=k+1+i by omega]) (by omega)
def aZh:List Nat→List Nat→List Nat
 | [],acc=>acc
 | x::l,acc=>if acc.any (Nat.beq x) then aZh l acc else aZh l (x::acc)
def dd (l:List Nat):List Nat:=aZh l []
theorem xW:∀(l acc:List Nat) (x:Nat),x∈aZh l acc→x∈l∨x∈acc
 | [],_,_,h=>.inr h
 | y::l,acc,x,h=>by
  simp only[aZh] at h;split at h
  ·rcases xW l acc x h with h | h
   ·exact .inl (by simp[h])
   ·exact .inr h
  ·rcases xW l (y::acc) x h with h | h
   ·exact .inl (by simp[h])
   ·rcases Aq.1 h with rfl | h
    ·exact .inl (by simp)
    ·exact .inr h
theorem aZg {l:List Nat}{x:Nat}(h:x∈dd l):x∈l:=(xW l [] x h).resolve_right (by simp)
def aCl:List Oper→List (List Nat)→List (List Nat)
 | [],acc=>acc
 | o::os,acc=>aCl os (acc++[dd (o.after.toList.flatMap fun e=>if Region.binds .any e then e.on::(acc.getD e.on []) else [])])
def preds (ops:Array Oper):List (List Nat):=aCl ops.toList []
def aZb (a b:List Nat):Bool:=a.all fun x=>!(b.contains x)
def indep (x y:Rd×Eff):Bool:=aZb x.2.we (y.1.e++y.2.we)&&aZb x.2.wh (y.1.h++y.2.wh)&&aZb y.2.we x.1.e&&aZb y.2.wh x.1.h
def sR (ps:List Nat) (y:Rd×Eff):Nat→REs→Bool
 | _,[]=>true
 | i,x::xs=>(ps.contains i || indep x y)&&sR ps y (i+1) xs
def dA:List (List Nat)→REs→REs→Bool
 | p::ps,y::ys,done=>sR p y 0 done&&dA ps ys (done++[y])
 | _,[],_=>true
 | [],_::_,_=>false
def eJ (ops:Array Oper):Bool:=ops.toList.zipIdx.all fun(o,i)=>o.after.toList.all fun e=>!Region.binds .any e || decide (e.on<i)
theorem dW {a b:List Nat}(h:aZb a b=true):∀t∈a,t∉b:=by
 intro t ht hb;have:=A5.1 h t ht;simp at this;exact this hb
theorem yG {ps:List Nat}{y:Rd×Eff}:∀(xs:REs) (k:Nat),sR ps y k xs=true→∀i x,xs[i]?=some x→k+i∈ps∨indep x y=true:=by
 intro xs
 induction xs with
 | nil=>intro k _ i x hx;simp at hx
 | cons z xs q=>
  intro k h i x hx;simp only[sR,π,Bool.or_eq_true] at h;cases i with
  | zero=>simp at hx;subst hx;simpa using h.1
  | succ i=>
   simp at hx;have:=q (k+1) h.2 i x hx;rwa [show k+(i+1)=k+1+i by omega]
theorem kF:∀(ps:List (List Nat)) (u done:REs),dA ps u done=true→∀j y,u[j]?=some y→∃p,ps[j]?=some p∧∀i x,i<done.length+j→(done++u)[i]?=some x→i∈p∨indep x y=true:=by
 intro ps
 induction ps with
 | nil=>
  intro u done h j y hy;cases u with
  | nil=>simp at hy
  | cons _ _=>simp[dA] at h
 | cons p ps E=>
  intro u done h j y hy;cases u with
  | nil=>simp at hy
  | cons z u=>
   simp only[dA,π] at h;cases j with
   | zero=>
    simp at hy;subst hy;refine⟨p,rfl,fun i x hi hx=>?_⟩;have B:i<done.length:=by omega
    rw[Bc B] at hx;simpa using yG done 0 h.1 i x hx
   | succ j=>
    simp at hy;obtain⟨q,hq,A⟩:=E u (done++[z]) h.2 j y hy;refine⟨q,by simpa using hq,fun i x hi hx=>A i x (by simp;omega) (by simpa using hx)⟩
theorem rC (L:Nat→Bool):∀(os:List Oper) (acc:List (List Nat)),(∀i p,acc[i]?=some p→L i=true→∀j∈p,L j=true)→
  (∀i o,os[i]?=some o→L (acc.length+i)=true→∀e∈o.after.toList,Region.binds .any e=true→L e.on=true)→
  ∀i p,(aCl os acc)[i]?=some p→L i=true→∀j∈p,L j=true:=by
 intro os
 induction os with
 | nil=>intro acc h _;exact h
 | cons o os I=>
  intro acc h ho;refine I _ ?_ ?_
  ·intro i p hp hl j hj;by_cases hi:i<acc.length
   ·rw[Bc hi] at hp;exact h i p hp hl j hj
   ·rw[Bg (by omega)] at hp;have A:i-acc.length=0:=by
     rcases Nat.eq_zero_or_pos (i-acc.length) with h0 | h0
     ·exact h0
     ·rw[List.getElem?_eq_none (by simp;omega)] at hp;cases hp
    have B:i=acc.length:=by omega
    rw[A] at hp;simp at hp;subst hp;have hj:=aZg hj;simp only[List.mem_flatMap] at hj;obtain⟨e,he,u⟩:=hj;split at u
    ·rename_i hb;have y:=ho 0 o rfl (by simpa [B] using hl) e he hb;simp only[Aq] at u;rcases u with rfl | u
     ·exact y
     ·cases hq:acc[e.on]? with
      | none=>simp[hq] at u
      | some q=>
       simp[hq] at u;exact h e.on q hq y j u
    ·simp at u
  ·intro i o' E hl;exact ho (i+1) o' (by simpa using E) (by simpa [add_assoc,Nat.add_comm 1 i] using hl)
def vX (ops:Array Oper) (listed:Array Bool):Prop:=∀(i:Nat) (o:Oper),ops[i]?=some o→listed.getD i false=true→∀e∈o.after.toList,Region.binds .any e=true→listed.getD e.on false=true
theorem jI {l:Array Bool}{i:Nat}(h:i<l.size):l.getD i true=l.getD i false:=by simp[h]
theorem qR {ops:Array Oper}{listed:Array Bool}(hl:listed.size=ops.size) {i:Nat}(h:i∈Region.ready .any ops listed):
  i<ops.size∧listed.getD i false=false∧∀o,ops[i]?=some o→∀e∈o.after.toList,Region.binds .any e=true→listed.getD e.on false=true:=by
 simp only[Region.ready,mem_filter,mem_range,π,Bn] at h;obtain⟨h1,h2,q⟩:=h;refine⟨h1,by rwa [←jI (by omega)],fun o ho e he hb=>?_⟩;simp only[ho,B9,Cm] at q;have:=(Array.all_eq_true_iff_forall_mem.1 q) e (by simpa using he);simpa [hb] using this
theorem aJf {P:Program}{n:Nat}{ops:Array Oper}{G:Ctx}{st st':St}{xs:REs}{Q:Exit→Act→World→Prop}(hr:Run P n ops 0 st xs st') (hlen:xs.length=ops.size)
  (hap:dA (preds ops) xs []=true) (hed:eJ ops=true)
  (hQ:∀S' μ' a' w',Sim G n S' μ' st' a' w'→Q .normal a' w'):
  ∀(fuel:Nat) (listed:Array Bool),listed.size=ops.size→((List.range ops.size).filter fun i=>!listed.getD i false).length=fuel→vX ops listed→
   ∀S μ a w,Sim G n S μ (cH (fun j=>listed.getD j false) 0 xs st) a w→∀ro,wpAnyIn (Wd ro) 0 P .any ops Q fuel listed a w:=by
 have aa:∀(listed:Array Bool),listed.size=ops.size→Region.ready .any ops listed=[]→∀S μ a w,Sim G n S μ (cH (fun j=>listed.getD j false) 0 xs st) a w→Q .normal a w:=by
  intro listed hl E S μ a w hs;have hall:∀i,i<ops.size→listed.getD i false=true:=by
   intro i
   induction i using Nat.strongRecOn with
   | _ i ih=>
    intro hi;cases hc:listed.getD i false with
    | true=>rfl
    | false=>
     exfalso;have:i∈Region.ready .any ops listed:=by
      simp only[Region.ready,mem_filter,mem_range,π,Bn];refine⟨hi,by rw[jI (by omega)];exact hc,?_⟩;have ho:ops[i]?=some ops[i]:=by simp[hi]
      simp only[ho,B9,Cm];refine Array.all_eq_true_iff_forall_mem.2 fun e he=>?_
      have hlt:=(A5.1 hed) (ops[i],i) (by
       rw[List.mem_iff_getElem?]
       exact⟨i,by simp[hi]⟩)
      have u:=(A5.1 hlt) e (by simpa using he);simp only[Bool.or_eq_true,Bn,decide_eq_true_eq] at u ⊢;rcases u with u | u
      ·exact .inl u
      ·exact .inr (ih e.on u (by omega))
     rw[E] at this;simp at this
  have he:cH (fun j=>listed.getD j false) 0 xs st=st':=by
   rw[←hr.final (fun _=>true) (fun _ _=>rfl)];have key:∀i x,xs[i]?=some x→listed.getD (0+i) false≠true→False:=by
    intro i x hx q;have hi:i<xs.length:=(Ah.1 hx).1
    exact q (by rw[Bk];exact hall i (by omega))
   have e1:(cH (fun j=>listed.getD j false) 0 xs st).e=(cH (fun _=>true) 0 xs st).e:=funext fun t=>qW t xs 0 _ _ _ _ rfl fun i x hx q=>(key i x hx q).elim
   have e2:(cH (fun j=>listed.getD j false) 0 xs st).h=(cH (fun _=>true) 0 xs st).h:=funext fun t=>qV t xs 0 _ _ _ _ rfl fun i x hx q=>(key i x hx q).elim
   cases hA:cH (fun j=>listed.getD j false) 0 xs st;cases hB:cH (fun _=>true) 0 xs st;simp only[hA,hB] at e1 e2;have e3:(cH (fun j=>listed.getD j false) 0 xs st).d=(cH (fun _=>true) 0 xs st).d:=by rw[xN,xN]
   simp only[hA,hB] at e3;rw[e1,e2,e3]
  rw[he] at hs;exact hQ S μ a w hs
 intro fuel
 induction fuel with
 | zero=>
  intro listed hl hf _ S μ a w hs;have E:Region.ready .any ops listed=[]:=by
   rw[List.eq_nil_iff_forall_not_mem];intro i hi;obtain⟨h1,h2,_⟩:=qR hl hi;have:i∈(List.range ops.size).filter fun i=>!listed.getD i false:=by simp only[mem_filter,mem_range,Bn];exact⟨h1,h2⟩
   rw[Aw hf] at this;simp at this
  exact fun _=>⟨E,aa listed hl E S μ a w hs⟩
 | succ fuel ih=>
  intro listed hl hf hcl S μ a w hs ro;refine⟨fun E=>aa listed hl E S μ a w hs,fun i hi=>?_⟩;obtain⟨h1,h2,h3⟩:=qR hl hi;have hx:xs[i]?=some xs[i]:=by simp[hlen,h1]
  have ho:ops[i]?=some ops[i]:=by simp[h1]
  have ab:vX ops (listed.setIfInBounds i true):=by
   intro j o hj A e he hb;simp only[Ag,Ba] at A ⊢;have ac:listed.getD e.on false=true→(if i=e.on then if i<listed.size then some true else none else listed[e.on]?).getD false=true:=by
    intro hh;split
    ·simp[hl,h1]
    ·rwa [Ag] at hh
   by_cases U:i=j
   ·subst U;exact ac (h3 o hj e he hb)
   ·rw[η U] at A;exact ac (hcl j o hj (by rwa [Ag]) e he hb)
  have hpd:∀(L:Array Bool),vX ops L→∀k p,(preds ops)[k]?=some p→L.getD k false=true→∀j∈p,L.getD j false=true:=by
   intro L hL k p hp B;refine rC (fun j=>L.getD j false) ops.toList [] (by simp) ?_ k p hp B;intro k' o ho' hl' e he hb;exact hL k' o (by simpa using ho') (by simpa using hl') e he hb
  have J:(listed.setIfInBounds i true).getD i false=true:=by simp[hl,h1]
  have hold:∀j,j≠i→(listed.setIfInBounds i true).getD j false=listed.getD j false:=by
   intro j hj;simp only[Ag,Ba];rw[η (fun e=>hj e.symm)]
  have hdis1:∀j y,xs[j]?=some y→j<i→listed.getD j false=false→indep y xs[i]=true:=by
   intro j y hy hji A;obtain⟨p,hp,M⟩:=kF _ _ _ hap i _ hx;rcases M j y (by simpa using hji) (by simpa using hy) with hm | hm
   ·have:=hpd _ ab i p hp J j hm;rw[hold j (by omega)] at this;rw[this] at A;cases A
   ·exact hm
  have Y:∀j y,xs[j]?=some y→i<j→listed.getD j false=true→indep xs[i] y=true:=by
   intro j y hy U A;obtain⟨p,hp,M⟩:=kF _ _ _ hap j _ hy;rcases M i xs[i] (by simpa using U) (by simp) with hm | hm
   ·have:=hpd _ hcl j p hp A i hm;rw[this] at h2;cases h2
   ·exact hm
  have hg:=hr.at i _ hx;simp only[Bk] at hg;have hag:gS xs[i].1 (cH (fun j=>decide (j<i)) 0 xs st) (cH (fun j=>listed.getD j false) 0 xs st):=by
   have key:∀k x,xs[k]?=some x→listed.getD (0+k) false≠decide (0+k<i)→(∀t∈xs[i].1.e,t∉x.2.we)∧(∀t∈xs[i].1.h,t∉x.2.wh):=by
    intro k x B q;rw[Bk] at q;by_cases ad:k<i
    ·have I:listed.getD k false=false:=by
      cases hc:listed.getD k false with
      | false=>rfl
      | true=>simp[hc,ad] at q
     have O:=hdis1 k x B ad I;simp only[indep,π] at O;obtain⟨⟨⟨d1,d2⟩,d3⟩,d4⟩:=O;exact⟨fun t ht hw=>dW d1 t hw (by simp[ht]),fun t ht hw=>dW d2 t hw (by simp[ht])⟩
    ·by_cases hke:k=i
     ·subst hke;rw[h2] at q;simp at q
     ·have I:listed.getD k false=true:=by
       cases hc:listed.getD k false with
       | true=>rfl
       | false=>simp[hc,ad] at q
      have O:=Y k x B (by omega) I;simp only[indep,π] at O;obtain⟨⟨⟨d1,d2⟩,d3⟩,d4⟩:=O;exact⟨fun t ht hw=>dW d3 t hw ht,fun t ht hw=>dW d4 t hw ht⟩
   exact⟨fun t ht=>qW t xs 0 _ _ _ _ rfl fun k x B q=>(key k x B q).1 t ht,fun t ht=>qV t xs 0 _ _ _ _ rfl fun k x B q=>(key k x B q).2 t ht⟩
  refine hg _ hag G S μ a w _ Q hs (fun S' μ' a' w' hs'=>?_) ro;refine ih (listed.setIfInBounds i true) (by simp[hl]) ?_ ab S' μ' a' w' ?_ ro
  ·--one fewer is left
   have:∀(l:List Nat),l.Nodup→i∈l→((l.filter fun j=>!listed.getD j false).length=((l.filter fun j=>!(listed.setIfInBounds i true).getD j false).length)+1):=by
    intro l
    induction l with
    | nil=>intro _ h;simp at h
    | cons b l ihl=>
     intro hnd hmem;have ae:=(nodup_cons.1 hnd)
     by_cases hb:b=i
     ·subst hb;have hno:∀j∈l,(!(listed.setIfInBounds b true).getD j false)=(!listed.getD j false):=fun j hj=>by rw[hold j (fun e=>ae.1 (e▸hj))]
      rw[Ce,Ce,h2,J];simp only[Bool.not_false,Cu,Bool.not_true,Ax,Bw,ω];rw[List.filter_congr hno]
     ·have hm':i∈l:=(Aq.1 hmem).resolve_left fun e=>hb e.symm
      have:=ihl ae.2 hm';rw[Ce,Ce,hold b hb];split
      ·simp only[ω];omega
      ·exact this
   have:=this (List.range ops.size) List.nodup_range (by simpa using h1);omega
  ·have hadd:=aAr (fun j=>listed.getD j false) i xs[i].2 xs 0 xs[i].1 st (Ab _) (by rw[sub_zero,hx]) h2 (by
    intro k x B I hik;rw[Bk] at I hik;have O:=Y k x B hik I;simp only[indep,π] at O;obtain⟨⟨⟨d1,d2⟩,d3⟩,d4⟩:=O
    exact⟨fun t ht hw=>dW d1 t ht (by simp[hw]),fun t ht hw=>dW d2 t ht (by simp[hw])⟩)
   rw[←hadd] at hs';have hfe:(fun j=>(listed.setIfInBounds i true).getD j false)=fun j=>listed.getD j false || Nat.beq j i:=funext fun j=>by
    by_cases hj:j=i
    ·subst hj;rw[J];simp
    ·rw[hold j hj];have hb:Nat.beq j i=false:=by
      cases hb:Nat.beq j i with
      | false=>rfl
      | true=>exact absurd (τ hb) hj
     rw[hb,Bool.or_false]
   rw[hfe];exact hs'
def aLo:Value→Option C
 | .int k n=>some (.int k n)
 | .bool b=>some (.bool b)
 | .string ⟨⟨l⟩⟩=>some (.str l)
 | .slice none 0 0=>some .nl
 | .pointer none=>some .np
 | .map none=>some (.zv 0)
 | .nilFunc=>some (.zv 1)
 | .nilIface=>some (.zv 2)
 | _=>none
def aA6:List Value→Option (List C)
 | []=>some []
 | v::vs=>(aLo v).bind fun c=>(aA6 vs).bind fun cs=>some (c::cs)
def aLn:Value→Option V
 | .int k n=>some (.one (.c (.int k n)))
 | .bool b=>some (.one (.c (.bool b)))
 | .string s=>some (.one (.c (.str s.data.toList)))
 | .slice none 0 0=>some (.one (.c .nl))
 | .pointer none=>some (.one (.c .np))
 | .map none=>some (.one (.c (.zv 0)))
 | .nilFunc=>some (.one (.c (.zv 1)))
 | .nilIface=>some (.one (.c (.zv 2)))
 | .agg vs=>(aA6 vs.toList).bind fun cs=>some (.pa cs)
 | _=>none
def opv (st:St):Operand→Option V
 | .tmp t=>st.e t
 | .const v=>aLn v
 | .func f=>some (.one (.clo f []))
 | .global _=>none
def opr:Operand→List Nat
 | .tmp t=>[t]
 | _=>[]
theorem aHx {S:Sto}{v:Value}{c:C}(h:aLo v=some c):Rep S c v:=by
 unfold aLo at h;split at h<;>first | (cases h;simp[Rep,aWi];done) | cases h
theorem vN {S:Sto}:∀{vs:List Value}{cs:List C},aA6 vs=some cs→bZ S cs vs
 | [],cs,h=>by cases h;rw[bZ]
 | v::vs,cs,h=>by
  rw[aA6] at h;obtain⟨c,h1,h⟩:=Ae.1 h;obtain⟨cs',h2,h⟩:=Ae.1 h;cases h;rw[bZ];exact⟨v,vs,rfl,aHx h1,vN h2⟩
theorem aHw {S:Sto}{μ:Mu}{H:cF}{v:Value}{x:V}(h:aLn v=some x):aS S μ H x v:=by
 unfold aLn at h;split at h<;>first | (cases h;simp[aS,aZ,Rep,aWi];done) | cases h | skip
 obtain⟨cs,h1,h⟩:=Ae.1 h;cases h;have:=vN (S:=S) h1;rw[aS];exact⟨_,rfl,this⟩
theorem aO {G:Ctx}{n:Nat}{S:Sto}{μ:Mu}{st st':St}{a:Act}{w:World}{x:Operand}{v:V}(hs:Sim G n S μ st' a w) (h:opv st x=some v) (ha:∀t∈opr x,st'.e t=st.e t):aS S μ st'.h v (a.eval x):=by
 cases x with
 | tmp t=>exact hs.env t v (by rw[ha t (by simp[opr])];exact h)
 | const u=>exact aHw h
 | func f=>simp[opv] at h;subst h;simp[aS,aZ,aT,Act.eval]
 | global g=>simp[opv] at h
section
variable {P:Program}{n:Nat}{o:Oper}{st:St}{d:Nat}
theorem Step.value {rd:Rd}{y:V}(u:o.dst=some d) (q:d<n)
  (h:∀st',gS rd st st'→∀G S μ a w,Sim G n S μ st' a w→∃v,(execOp a.eval o).run P w=.ok (.value v) w∧aS S μ st'.h y v):Step P n o st rd ⟨some (d,some y),[]⟩:=by
 intro st' ha G S μ a w K Q hs A;obtain⟨v,B,hv⟩:=h st' ha G S μ a w hs;refine fun ro=>fS B ?_
 rw[u];exact A S μ _ _ (hs.put hs.inv (Evolve.refl _ _ _) q fun z E=>by cases E;exact hv)
theorem aJn {x:Operand}{y:V}(ho:o.op=.move x) (u:o.dst=some d) (q:d<n) (hx:opv st x=some y):Step P n o st ⟨opr x,[]⟩ ⟨some (d,some y),[]⟩:=
 Step.value u q fun _ ha _ _ _ a _ hs=>⟨a.eval x,by simp[execOp,ho],aO hs hx ha.1⟩
theorem aOs {x:Operand}{y:V}(ho:o.op=.assign x) (u:o.dst=some d) (q:d<n) (hx:opv st x=some y):Step P n o st ⟨opr x,[]⟩ ⟨some (d,some y),[]⟩:=
 Step.value u q fun _ ha _ _ _ a _ hs=>⟨a.eval x,by simp[execOp,ho],aO hs hx ha.1⟩
theorem eG {S:Sto}{μ:Mu}{H:cF}{k:IntKind}{m:Int}{v:Value}(h:aS S μ H (.one (.c (.int k m))) v):v=.int k m:=by simpa [aS,aZ,Rep] using h
theorem kA {S:Sto}{μ:Mu}{H:cF}{b:Bool}{v:Value}(h:aS S μ H (.one (.c (.bool b))) v):v=.bool b:=by simpa [aS,aZ,Rep] using h
theorem mS {S:Sto}{μ:Mu}{H:cF}{b:List UInt8}{v:Value}(h:aS S μ H (.one (.c (.str b))) v):v=.string ⟨⟨b⟩⟩:=by simpa [aS,aZ,Rep] using h
abbrev I (k:IntKind) (m:Int):V:=.one (.c (.int k m))
abbrev B (b:Bool):V:=.one (.c (.bool b))
abbrev T (s:List UInt8):V:=.one (.c (.str s))
theorem dB {x y:Operand}{st':St}(ha:gS ⟨opr x++opr y,[]⟩ st st'):(∀t∈opr x,st'.e t=st.e t)∧(∀t∈opr y,st'.e t=st.e t):=
 ⟨fun t h=>ha.1 t (by simp[h]),fun t h=>ha.1 t (by simp[h])⟩
theorem eE {op:BinOp}{q ty:TypeId}{x y:Operand}{k:IntKind}{a b:Int}{z:V}(ho:o.op=.binOp op q x y ty) (A:o.dst=some d) (u:d<n) (hx:opv st x=some (I k a)) (hy:opv st y=some (I k b))
  (B:∀w:World,∃v,(binOp op q (.int k a) (.int k b)).run P w=.ok v w∧∀S μ H,aS S μ H z v):Step P n o st ⟨opr x++opr y,[]⟩ ⟨some (d,some z),[]⟩:=by
 refine Step.value A u fun _ ha _ _ _ ac w hs=>?_
 have h1:=eG (aO hs hx (dB ha).1);have h2:=eG (aO hs hy (dB ha).2);obtain⟨v,E,J⟩:=B w;refine⟨v,?_,J _ _ _⟩;simp only[execOp,ho,h1,h2,Aa];have:(eqGuard op q x y (.int k a) (.int k b)).run P w=.ok () w:=by
  unfold eqGuard;split<;>rfl
 rw[this];simp only[δ,E,Ad]
theorem aTi {u ty:TypeId}{x y:Operand}{k:IntKind}{a b r:Int}(ho:o.op=.binOp .add u x y ty) (A:o.dst=some d) (q:d<n) (hx:opv st x=some (I k a)) (hy:opv st y=some (I k b)) (B:k.wrap (a+b)=r):
  Step P n o st ⟨opr x++opr y,[]⟩ ⟨some (d,some (I k r)),[]⟩:=
 eE ho A q hx hy fun w=>⟨.int k r,by simp[binOp,Op.intArith,B],fun _ _ _=>by simp[aS,aZ,Rep]⟩
theorem aS6 {u ty:TypeId}{x y:Operand}{k:IntKind}{a b r:Int}(ho:o.op=.binOp .sub u x y ty) (A:o.dst=some d) (q:d<n) (hx:opv st x=some (I k a)) (hy:opv st y=some (I k b)) (B:k.wrap (a-b)=r):
  Step P n o st ⟨opr x++opr y,[]⟩ ⟨some (d,some (I k r)),[]⟩:=
 eE ho A q hx hy fun w=>⟨.int k r,by simp[binOp,Op.intArith,B],fun _ _ _=>by simp[aS,aZ,Rep]⟩
theorem aTb {u ty:TypeId}{x y:Operand}{k:IntKind}{a b r:Int}(ho:o.op=.binOp .mul u x y ty) (A:o.dst=some d) (q:d<n) (hx:opv st x=some (I k a)) (hy:opv st y=some (I k b)) (B:k.wrap (a*b)=r):
  Step P n o st ⟨opr x++opr y,[]⟩ ⟨some (d,some (I k r)),[]⟩:=
 eE ho A q hx hy fun w=>⟨.int k r,by simp[binOp,Op.intArith,B],fun _ _ _=>by simp[aS,aZ,Rep]⟩
theorem a1v {u ty:TypeId}{x y:Operand}{k:IntKind}{a b r:Int}(ho:o.op=.binOp .quo u x y ty) (A:o.dst=some d) (q:d<n) (hx:opv st x=some (I k a)) (hy:opv st y=some (I k b)) (hb:b≠0) (B:k.wrap (a.tdiv b)=r):
  Step P n o st ⟨opr x++opr y,[]⟩ ⟨some (d,some (I k r)),[]⟩:=
 eE ho A q hx hy fun w=>⟨.int k r,by simp[binOp,Op.intDiv,hb,B],fun _ _ _=>by simp[aS,aZ,Rep]⟩
theorem a1u {u ty:TypeId}{x y:Operand}{k:IntKind}{a b r:Int}(ho:o.op=.binOp .rem u x y ty) (A:o.dst=some d) (q:d<n) (hx:opv st x=some (I k a)) (hy:opv st y=some (I k b)) (hb:b≠0) (B:a.tmod b=r):
  Step P n o st ⟨opr x++opr y,[]⟩ ⟨some (d,some (I k r)),[]⟩:=
 eE ho A q hx hy fun w=>⟨.int k r,by simp[binOp,Op.intDiv,hb,B],fun _ _ _=>by simp[aS,aZ,Rep]⟩
theorem a10 {u ty:TypeId}{x y:Operand}{k:IntKind}{a b:Int}(ho:o.op=.binOp .lss u x y ty) (A:o.dst=some d) (q:d<n) (hx:opv st x=some (I k a)) (hy:opv st y=some (I k b)):
  Step P n o st ⟨opr x++opr y,[]⟩ ⟨some (d,some (B (decide (a<b)))),[]⟩:=
 eE ho A q hx hy fun w=>⟨.bool (decide (a<b)),by simp[binOp,Op.intCmp],fun _ _ _=>by simp[aS,aZ,Rep]⟩
theorem a11 {u ty:TypeId}{x y:Operand}{k:IntKind}{a b:Int}(ho:o.op=.binOp .leq u x y ty) (A:o.dst=some d) (q:d<n) (hx:opv st x=some (I k a)) (hy:opv st y=some (I k b)):
  Step P n o st ⟨opr x++opr y,[]⟩ ⟨some (d,some (B (decide (a≤b)))),[]⟩:=
 eE ho A q hx hy fun w=>⟨.bool (decide (a≤b)),by simp[binOp,Op.intCmp],fun _ _ _=>by simp[aS,aZ,Rep]⟩
theorem a13 {u ty:TypeId}{x y:Operand}{k:IntKind}{a b:Int}(ho:o.op=.binOp .gtr u x y ty) (A:o.dst=some d) (q:d<n) (hx:opv st x=some (I k a)) (hy:opv st y=some (I k b)):
  Step P n o st ⟨opr x++opr y,[]⟩ ⟨some (d,some (B (decide (b<a)))),[]⟩:=
 eE ho A q hx hy fun w=>⟨.bool (decide (b<a)),by simp[binOp,Op.intCmp],fun _ _ _=>by simp[aS,aZ,Rep]⟩
theorem a14 {u ty:TypeId}{x y:Operand}{k:IntKind}{a b:Int}(ho:o.op=.binOp .geq u x y ty) (A:o.dst=some d) (q:d<n) (hx:opv st x=some (I k a)) (hy:opv st y=some (I k b)):
  Step P n o st ⟨opr x++opr y,[]⟩ ⟨some (d,some (B (decide (b≤a)))),[]⟩:=
 eE ho A q hx hy fun w=>⟨.bool (decide (b≤a)),by simp[binOp,Op.intCmp],fun _ _ _=>by simp[aS,aZ,Rep]⟩
theorem a15 {u ty:TypeId}{x y:Operand}{k:IntKind}{a b:Int}(ho:o.op=.binOp .eql u x y ty) (A:o.dst=some d) (q:d<n) (hx:opv st x=some (I k a)) (hy:opv st y=some (I k b)):
  Step P n o st ⟨opr x++opr y,[]⟩ ⟨some (d,some (B (decide (a=b)))),[]⟩:=
 eE ho A q hx hy fun w=>⟨.bool (decide (a=b)),by simp[binOp,Op.intCmp];rfl,fun _ _ _=>by simp[aS,aZ,Rep]⟩
theorem a1x {u ty:TypeId}{x y:Operand}{k:IntKind}{a b:Int}(ho:o.op=.binOp .neq u x y ty) (A:o.dst=some d) (q:d<n) (hx:opv st x=some (I k a)) (hy:opv st y=some (I k b)):
  Step P n o st ⟨opr x++opr y,[]⟩ ⟨some (d,some (B (!decide (a=b)))),[]⟩:=
 eE ho A q hx hy fun w=>⟨.bool (!decide (a=b)),by simp[binOp,Op.intCmp];rfl,fun _ _ _=>by simp[aS,aZ,Rep]⟩
theorem p9 {op:BinOp}{q ty:TypeId}{x y:Operand}{a b:List UInt8}{z:V}(ho:o.op=.binOp op q x y ty) (B:o.dst=some d) (u:d<n) (hx:opv st x=some (T a)) (hy:opv st y=some (T b))
  (E:∀w:World,∃v,(Op.stringOp op ⟨⟨a⟩⟩ ⟨⟨b⟩⟩).run P w=.ok v w∧∀S μ H,aS S μ H z v) (A:∀w:World,(binOp op q (.string ⟨⟨a⟩⟩) (.string ⟨⟨b⟩⟩)).run P w=(Op.stringOp op ⟨⟨a⟩⟩ ⟨⟨b⟩⟩).run P w):Step P n o st ⟨opr x++opr y,[]⟩ ⟨some (d,some z),[]⟩:=by
 refine Step.value B u fun _ ha _ _ _ ac w hs=>?_
 have h1:=mS (aO hs hx (dB ha).1);have h2:=mS (aO hs hy (dB ha).2);obtain⟨v,I,J⟩:=E w;refine⟨v,?_,J _ _ _⟩;simp only[execOp,ho,h1,h2,Aa];have:(eqGuard op q x y (.string ⟨⟨a⟩⟩) (.string ⟨⟨b⟩⟩)).run P w=.ok () w:=by
  unfold eqGuard;split<;>rfl
 rw[this];simp only[δ,A,I,Ad]
theorem jF (a:List UInt8):(ByteArray.mk ⟨a⟩).toList=a:=by rw[ByteArray.toList_eq]
theorem aXp {u ty:TypeId}{x y:Operand}{a b:List UInt8}(ho:o.op=.binOp .eql u x y ty) (A:o.dst=some d) (q:d<n) (hx:opv st x=some (T a)) (hy:opv st y=some (T b)):
  Step P n o st ⟨opr x++opr y,[]⟩ ⟨some (d,some (B (decide (a=b)))),[]⟩:=
 p9 ho A q hx hy (fun w=>⟨.bool (decide (a=b)),by simp only[Op.stringOp,jF,Ad];congr 2;exact(Bool.beq_eq_decide_eq a b),fun _ _ _=>by simp[aS,aZ,Rep]⟩) fun _=>rfl
theorem aXn {u ty:TypeId}{x y:Operand}{a b:List UInt8}(ho:o.op=.binOp .neq u x y ty) (A:o.dst=some d) (q:d<n) (hx:opv st x=some (T a)) (hy:opv st y=some (T b)):
  Step P n o st ⟨opr x++opr y,[]⟩ ⟨some (d,some (B (!decide (a=b)))),[]⟩:=
 p9 ho A q hx hy (fun w=>⟨.bool (!decide (a=b)),by simp only[Op.stringOp,jF,Ad];rw[Bool.beq_eq_decide_eq a b],fun _ _ _=>by simp[aS,aZ,Rep]⟩) fun _=>rfl
theorem aXr {u ty:TypeId}{x y:Operand}{a b:List UInt8}(ho:o.op=.binOp .add u x y ty) (A:o.dst=some d) (q:d<n) (hx:opv st x=some (T a)) (hy:opv st y=some (T b)) (hl:a.length+b.length≤maxLen):
  Step P n o st ⟨opr x++opr y,[]⟩ ⟨some (d,some (T (a++b))),[]⟩:=
 p9 ho A q hx hy (fun w=>⟨.string ⟨⟨a++b⟩⟩,by
  have h1:(ByteArray.mk ⟨a⟩).size=a.length:=rfl;have h2:(ByteArray.mk ⟨b⟩).size=b.length:=rfl;have B:¬(((ByteArray.mk ⟨a⟩).size+(ByteArray.mk ⟨b⟩).size:Nat):Int)>IntKind.i64.max:=by
   rw[h1,h2];simp only[IntKind.max,IntKind.signed];unfold maxLen at hl;simp[IntKind.bits];omega
  have E:(ByteArray.mk ⟨a⟩)++(ByteArray.mk ⟨b⟩)=(⟨⟨a++b⟩⟩:ByteArray):=by
   apply ByteArray.ext;simp
  simp only[Op.stringOp];rw[η B,E]
  rfl,fun _ _ _=>by simp[aS,aZ,Rep]⟩) fun _=>rfl
theorem aXo {u ty:TypeId}{x y:Operand}{a b:List UInt8}(ho:o.op=.binOp .lss u x y ty) (A:o.dst=some d) (q:d<n) (hx:opv st x=some (T a)) (hy:opv st y=some (T b)):
  Step P n o st ⟨opr x++opr y,[]⟩ ⟨some (d,some (B (Op.bytesLess a b))),[]⟩:=
 p9 ho A q hx hy (fun w=>⟨.bool (Op.bytesLess a b),by simp only[Op.stringOp,jF,Ad],fun _ _ _=>by simp[aS,aZ,Rep]⟩) fun _=>rfl
theorem a1w {t:TypeId}{x:Operand}{b:Bool}(ho:o.op=.unOp .not t x) (u:o.dst=some d) (q:d<n) (hx:opv st x=some (B b)):Step P n o st ⟨opr x,[]⟩ ⟨some (d,some (B (!b))),[]⟩:=by
 refine Step.value u q fun _ ha _ _ _ ac w hs=>?_
 have h1:=kA (aO hs hx ha.1);exact⟨.bool (!b),by simp[execOp,ho,h1,Op.unary],by simp[aS,aZ,Rep]⟩
theorem a1y {t:TypeId}{x:Operand}{k:IntKind}{a r:Int}(ho:o.op=.unOp .neg t x) (y:o.dst=some d) (q:d<n) (hx:opv st x=some (I k a)) (u:k.wrap (0-a)=r):Step P n o st ⟨opr x,[]⟩ ⟨some (d,some (I k r)),[]⟩:=by
 refine Step.value y q fun _ ha _ _ _ ac w hs=>?_
 have h1:=eG (aO hs hx ha.1);refine⟨.int k r,?_,by simp[aS,aZ,Rep]⟩;simp only[Int.zero_sub] at u;simp[execOp,ho,h1,Op.unary,Op.intArith,u]
theorem aOk {c x y:Operand}{b:Bool}{z:V}(ho:o.op=.pick c x y) (u:o.dst=some d) (q:d<n) (hc:opv st c=some (B b)) (hb:b=true) (hx:opv st x=some z):Step P n o st ⟨opr c++opr x,[]⟩ ⟨some (d,some z),[]⟩:=by
 refine Step.value u q fun _ ha _ _ _ ac w hs=>?_
 have h1:=kA (aO hs hc (dB ha).1);subst hb;exact⟨ac.eval x,by simp[execOp,ho,h1,asBool],aO hs hx (dB ha).2⟩
theorem aOl {c x y:Operand}{b:Bool}{z:V}(ho:o.op=.pick c x y) (u:o.dst=some d) (q:d<n) (hc:opv st c=some (B b)) (hb:b=false) (hy:opv st y=some z):Step P n o st ⟨opr c++opr y,[]⟩ ⟨some (d,some z),[]⟩:=by
 refine Step.value u q fun _ ha _ _ _ ac w hs=>?_
 have h1:=kA (aO hs hc (dB ha).1);subst hb;exact⟨ac.eval y,by simp[execOp,ho,h1,asBool],aO hs hy (dB ha).2⟩
theorem aJw {x:Operand}{i:Nat}{l:List V}{z:V}(ho:o.op=.extract x i) (u:o.dst=some d) (q:d<n) (hx:opv st x=some (.tup l)) (hi:l[i]?=some z):Step P n o st ⟨opr x,[]⟩ ⟨some (d,some z),[]⟩:=by
 refine Step.value u q fun st' ha _ S μ ac w hs=>?_
 have h1:=aO hs hx ha.1;simp only[aS] at h1;obtain⟨vs,h1,h2⟩:=h1;have:∀(l:List V) (vs:List Value) (i:Nat),b7 S μ st'.h l vs→l[i]?=some z→∃v,vs[i]?=some v∧aS S μ st'.h z v:=by
  intro l
  induction l with
  | nil=>intro vs i _ h;simp at h
  | cons r rs y=>
   intro vs i h hi;simp only[b7] at h;obtain⟨v,vs',rfl,h1,h2⟩:=h;cases i with
   | zero=>simp at hi;subst hi;exact⟨v,rfl,h1⟩
   | succ i=>simp at hi;simpa using y vs' i h2 hi
 obtain⟨v,A,B⟩:=this l vs i h2 hi;refine⟨v,?_,B⟩;simp[execOp,ho,h1,Instr.extract,A]
end
inductive TK where
 | bool | int (k:IntKind) | str | pt (e:TypeId) | sl (e:TypeId) | mp (k e:TypeId) | fn
 | st (fs:List (Nat×TypeId)) | ar (m:Nat) (e:TypeId)
 deriving DecidableEq,Inhabited
structure TI where
 k:TK
 size:Nat
 bytes:Nat
 zero:List C
 deriving Inhabited
abbrev TT:=List (Option TI)
def aLu:C→Value→Bool
 | .int k n,.int k' n'=>k==k'&&n==n'
 | .bool b,.bool b'=>b==b'
 | .str s,.string t=>s==t.data.toList
 | .nl,.slice none 0 0=>true
 | .np,.pointer none=>true
 | .zv 0,.map none=>true
 | .zv 1,.nilFunc=>true
 | .zv 2,.nilIface=>true
 | _,_=>false
def u4:List C→List Value→Bool
 | [],[]=>true
 | c::cs,v::vs=>aLu c v&&u4 cs vs
 | _,_=>false
def TK.fits:TK→TypeDesc→Bool
 | .bool,.bool=>true
 | .int k,.int k'=>k==k'
 | .str,.string=>true
 | .pt e,.pointer e'=>e==e'
 | .sl e,.slice e'=>e==e'
 | .mp k e,.map k' e'=>k==k'&&e==e'
 | .fn,.func _ _ _=>true
 | .st fs,.struct fields=>fs==fields.toList.map fun f=>(f.offset,f.type)
 | .ar m e,.array m' e'=>m==m'&&e==e'
 | _,_=>false
def TK.agg:TK→Bool
 | .st _=>true
 | .ar _ _=>true
 | _=>false
def TI.check (P:Program) (t:TypeId) (i:TI):Bool:=
 match P.info? t,P.underlying t with
 | some inf,some d=>(inf.size==i.size&&(i.zero.length==i.size&&(i.k.agg || i.size==1)))&&inf.bytes==i.bytes&&i.k.fits d&&
   (match inf.zero with | some z=>u4 i.zero z.cells.toList&&(match i.k.agg,z with | true,.agg _=>true | true,_=>false | false,.agg _=>false | false,_=>true) | none=>false)
 | _,_=>false
def TT.check (P:Program) (T:TT):Bool:=T.zipIdx.all fun(i,t)=>match i with | some i=>i.check P t | none=>true
theorem aHy {S:Sto}{c:C}{v:Value}(h:aLu c v=true):Rep S c v:=by
 unfold aLu at h;split at h<;>simp_all [Rep,aWi]
theorem iY {S:Sto}:∀{c:List C}{v:List Value},u4 c v=true→bZ S c v
 | [],[],_=>by simp[bZ]
 | c::cs,v::vs,h=>by
  simp only[u4,π] at h;simp only[bZ];exact⟨v,vs,rfl,aHy h.1,iY h.2⟩
 | [],_::_,h=>by simp[u4] at h
 | _::_,[],h=>by simp[u4] at h
def Tok (P:Program) (T:TT):Prop:=TT.check P T=true
structure TIok (P:Program) (t:TypeId) (i:TI):Prop where
 ex:∃inf d z,P.info? t=some inf∧P.underlying t=some d∧inf.size=i.size∧inf.bytes=i.bytes∧i.k.fits d=true∧inf.zero=some z∧u4 i.zero z.cells.toList=true∧(z=if i.k.agg then .agg z.cells else z)∧(i.k.agg=false→∃u,z.cells= #[u]∧z=u)
 len:i.zero.length=i.size
 one:i.k.agg=false→i.size=1
theorem Tok.get {P:Program}{T:TT}(h:Tok P T) {t:TypeId}{i:TI}(hi:T[t]?=some (some i)):TIok P t i:=by
 unfold Tok TT.check at h
 have:=(A5.1 h) (some i,t) (by
  rw[List.mem_iff_getElem?]
  exact⟨t,by simp[List.getElem?_zipIdx,hi]⟩)
 simp only[TI.check] at this;split at this
 ·rename_i inf d h1 h2;simp only[π,beq_iff_eq] at this;obtain⟨⟨⟨⟨y,hl,ho⟩,A⟩,B⟩,q⟩:=this;split at q
  ·rename_i z E;simp only[π] at q;obtain⟨q,I⟩:=q;refine⟨⟨inf,d,z,h1,h2,y,A,B,E,q,?_,?_⟩,hl,fun u=>by simpa [u] using ho⟩
   ·cases u:i.k.agg with
    | false=>simp
    | true=>
     cases z<;>simp_all [Value.cells]
   ·intro u;cases z<;>simp_all [Value.cells]
  ·cases q
 ·cases this
theorem TIok.size_run {P:Program}{t:TypeId}{i:TI}(h:TIok P t i) (w:World):(sizeOf t).run P w=.ok i.size w:=by
 obtain⟨inf,d,z,h1,h2,q,u,y,A,B,E⟩:=h.ex;simp[sizeOf,typeInfo,h1,q]
theorem TIok.zero_run {P:Program}{t:TypeId}{i:TI}(h:TIok P t i):∃z,(∀w:World,(zeroValue t).run P w=.ok z w)∧(∀S,bZ S i.zero z.cells.toList)∧(z=if i.k.agg then .agg z.cells else z)∧(i.k.agg=false→∃u,z.cells= #[u]∧z=u):=by
 obtain⟨inf,d,z,h1,h2,B,E,I,q,y,A⟩:=h.ex;exact⟨z,fun w=>by simp[zeroValue,typeInfo,h1,q],fun S=>iY y,A⟩
theorem TIok.agg_run {P:Program}{t:TypeId}{i:TI}(h:TIok P t i) (w:World):(isAgg t).run P w=.ok i.k.agg w:=by
 obtain⟨inf,d,z,h1,h2,y,A,q,B,E,I⟩:=h.ex;unfold isAgg;rw[Aa,Ak h2 w];simp only[δ];cases u:i.k<;>rw[u] at q<;>cases d<;>simp[TK.fits] at q<;>rfl
theorem TIok.slice {P:Program}{t e:TypeId}{i:TI}(h:TIok P t i) (u:i.k=.sl e):P.underlying t=some (.slice e):=by
 obtain⟨inf,d,z,h1,h2,y,A,q,B,E,I⟩:=h.ex;rw[u] at q;cases d<;>simp[TK.fits] at q;rw[h2,q]
theorem TIok.array {P:Program}{t e:TypeId}{m:Nat}{i:TI}(h:TIok P t i) (u:i.k=.ar m e):P.underlying t=some (.array m e):=by
 obtain⟨inf,d,z,h1,h2,y,A,q,B,E,I⟩:=h.ex;rw[u] at q;cases d<;>simp[TK.fits] at q;rw[h2,q.1,q.2]
theorem TIok.str {P:Program}{t:TypeId}{i:TI}(h:TIok P t i) (u:i.k=.str):P.underlying t=some .string:=by
 obtain⟨inf,d,z,h1,h2,y,A,q,B,E,I⟩:=h.ex;rw[u] at q;cases d<;>simp[TK.fits] at q;rw[h2]
theorem TIok.int {P:Program}{t:TypeId}{k:IntKind}{i:TI}(h:TIok P t i) (u:i.k=.int k):P.underlying t=some (.int k):=by
 obtain⟨inf,d,z,h1,h2,y,A,q,B,E,I⟩:=h.ex;rw[u] at q;cases d<;>simp[TK.fits] at q;rw[h2,q]
theorem TIok.bool {P:Program}{t:TypeId}{i:TI}(h:TIok P t i) (u:i.k=.bool):P.underlying t=some .bool:=by
 obtain⟨inf,d,z,h1,h2,y,A,q,B,E,I⟩:=h.ex;rw[u] at q;cases d<;>simp[TK.fits] at q;rw[h2]
theorem TIok.ptr {P:Program}{t e:TypeId}{i:TI}(h:TIok P t i) (u:i.k=.pt e):P.underlying t=some (.pointer e):=by
 obtain⟨inf,d,z,h1,h2,y,A,q,B,E,I⟩:=h.ex;rw[u] at q;cases d<;>simp[TK.fits] at q;rw[h2,q]
theorem TIok.map {P:Program}{t k e:TypeId}{i:TI}(h:TIok P t i) (u:i.k=.mp k e):P.underlying t=some (.map k e):=by
 obtain⟨inf,d,z,h1,h2,y,A,q,B,E,I⟩:=h.ex;rw[u] at q;cases d<;>simp[TK.fits] at q;rw[h2,q.1,q.2]
theorem TIok.struct {P:Program}{t:TypeId}{fs:List (Nat×TypeId)}{i:TI}(h:TIok P t i) (u:i.k=.st fs):∃fields,P.underlying t=some (.struct fields)∧fs=fields.toList.map fun f=>(f.offset,f.type):=by
 obtain⟨inf,d,z,h1,h2,y,A,q,B,E,I⟩:=h.ex;rw[u] at q;cases d<;>simp[TK.fits] at q;exact⟨_,h2,q⟩
theorem TIok.info {P:Program}{t:TypeId}{i:TI}(h:TIok P t i):(P.info? t).map (·.size)=some i.size:=by
 obtain⟨inf,d,z,h1,h2,q,u,y,A,B,E⟩:=h.ex;simp[h1,q]
theorem aT.length {S:Sto}{μ:Mu}{H:cF}:∀{c:List R}{v:List Value},aT S μ H c v→v.length=c.length
 | [],_,k=>by simp only[aT] at k;subst k;rfl
 | _::cs,_,k=>by
  simp only[aT] at k;obtain⟨v,vs',rfl,_,h⟩:=k;simp[aT.length h]
theorem aT.get {S:Sto}{μ:Mu}{H:cF}:∀{c:List R}{v:List Value},aT S μ H c v→∀(i:Nat) (x:R),c[i]?=some x→∃u,v[i]?=some u∧aZ S μ H x u
 | [],_,_,i,x,h=>by simp at h
 | c::cs,_,k,i,x,h=>by
  simp only[aT] at k;obtain⟨v,vs',rfl,h1,h2⟩:=k;cases i with
  | zero=>simp at h;subst h;exact⟨v,rfl,h1⟩
  | succ i=>simp at h;simpa using h2.get i x h
theorem aT.append {S:Sto}{μ:Mu}{H:cF}:∀{a:List R}{x:List Value}{b:List R}{y:List Value},aT S μ H a x→aT S μ H b y→aT S μ H (a++b) (x++y)
 | [],_,_,_,h,k=>by simp only[aT] at h;subst h;simpa using k
 | _::_,_,_,_,h,k=>by
  simp only[aT,As] at h ⊢;obtain⟨v,vs',rfl,h1,h2⟩:=h;exact⟨v,vs'++_,rfl,h1,h2.append k⟩
theorem aT.take {S:Sto}{μ:Mu}{H:cF}:∀{a:List R}{x:List Value}(n:Nat),aT S μ H a x→aT S μ H (a.take n) (x.take n)
 | _,_,0,_=>by simp[aT]
 | [],_,n+1,h=>by simp only[aT] at h;subst h;simp[aT]
 | _::_,_,n+1,h=>by
  simp only[aT,A3] at h ⊢;obtain⟨v,vs',rfl,h1,h2⟩:=h;exact⟨v,vs'.take n,by simp,h1,h2.take n⟩
theorem aT.drop {S:Sto}{μ:Mu}{H:cF}:∀{a:List R}{x:List Value}(n:Nat),aT S μ H a x→aT S μ H (a.drop n) (x.drop n)
 | _,_,0,h=>by simpa using h
 | [],_,n+1,h=>by simp only[aT] at h;subst h;simp[aT]
 | _::_,_,n+1,h=>by
  simp only[aT,Cw] at h ⊢;obtain⟨v,vs',rfl,h1,h2⟩:=h;simpa using h2.drop n
theorem bZ.toR {S:Sto}{μ:Mu}{H:cF}:∀{c:List C}{v:List Value},bZ S c v→aT S μ H (c.map R.c) v
 | [],_,k=>by simp only[bZ] at k;subst k;simp[aT]
 | c::cs,_,k=>by
  simp only[bZ] at k;obtain⟨v,vs',rfl,h1,h2⟩:=k;simp only[Ar,aT];exact⟨v,vs',rfl,by simpa [aZ] using h1,h2.toR⟩
def jU:List R→Option (List C)
 | []=>some []
 | .c x::l=>match jU l with | some l'=>some (x::l') | none=>none
 | _::_=>none
theorem pA:∀{rs:List R}{l:List C},jU rs=some l→rs=l.map R.c
 | [],l,h=>by simp[jU] at h;subst h;rfl
 | .c x::rs,l,h=>by
  simp only[jU] at h;split at h
  ·rename_i q hl;cases h;simp[pA hl]
  ·cases h
 | .hs ..::_,_,h=>by simp[jU] at h
 | .tl ..::_,_,h=>by simp[jU] at h
 | .vp ..::_,_,h=>by simp[jU] at h
 | .ep ..::_,_,h=>by simp[jU] at h
 | .mr ..::_,_,h=>by simp[jU] at h
 | .clo ..::_,_,h=>by simp[jU] at h
 | .mth ..::_,_,h=>by simp[jU] at h
 | .yl ..::_,_,h=>by simp[jU] at h
 | .ra ..::_,_,h=>by simp[jU] at h
 | .rp ..::_,_,h=>by simp[jU] at h
 | .ras ..::_,_,h=>by simp[jU] at h
 | .pas ..::_,_,h=>by simp[jU] at h
theorem aT.pure {S:Sto}{μ:Mu}{H:cF}:∀{l:List C}{v:List Value},aT S μ H (l.map R.c) v→bZ S l v
 | [],_,k=>by simp only[Ca,aT] at k;subst k;simp[bZ]
 | c::cs,_,k=>by
  simp only[Ar,aT] at k;obtain⟨v,vs',rfl,h1,h2⟩:=k;simp only[bZ];exact⟨v,vs',rfl,by simpa [aZ] using h1,h2.pure⟩
def aW1 (rs:List R):V:=match jU rs with | some l=>.pa l | none=>.ma rs
theorem aGq {S:Sto}{μ:Mu}{H:cF}{rs:List R}{vs:List Value}(h:aT S μ H rs vs):aS S μ H (aW1 rs) (.agg ⟨vs⟩):=by
 unfold aW1;split
 ·rename_i l hl;rw[pA hl] at h;simp only[aS];exact⟨vs,rfl,h.pure⟩
 ·simp only[aS];exact⟨vs,rfl,h⟩
def iK:V→Option (List R)
 | .one r=>some [r]
 | .pa l=>some (l.map R.c)
 | .ma l=>some l
 | .tup _=>none
theorem Rep.one {S:Sto}:∀{c:C}{v:Value},Rep S c v→v.cells= #[v]∧v.oneCell'=true:=by
 intro c v h;cases c<;>simp only[Rep] at h
 case zv k=>subst h;unfold aWi;split<;>exact⟨rfl,rfl⟩
 case sl=>obtain⟨a,len,cap,rfl,_⟩:=h;exact⟨rfl,rfl⟩
 case sg=>obtain⟨a,len,cap,rfl,_⟩:=h;exact⟨rfl,rfl⟩
 case sn=>obtain⟨b,o,sp,len,cap,rfl,_⟩:=h;exact⟨rfl,rfl⟩
 case pt=>obtain⟨b,o,rfl,_⟩:=h;exact⟨rfl,rfl⟩
 case mp=>obtain⟨b,es,clk,rfl,_⟩:=h;exact⟨rfl,rfl⟩
 case clo=>obtain⟨vs,rfl,_⟩:=h;exact⟨rfl,rfl⟩
 case any=>exact h
 all_goals (subst h;exact⟨rfl,rfl⟩)
theorem aZ.one {S:Sto}{μ:Mu}{H:cF}:∀{r:R}{v:Value},aZ S μ H r v→v.cells= #[v]∧v.oneCell'=true:=by
 intro r v h;cases r<;>simp only[aZ] at h
 case c x=>exact h.one
 case hs=>obtain⟨⟨a,l,c,rfl⟩,_⟩:=h;exact⟨rfl,rfl⟩
 case tl=>obtain⟨⟨a,l,c,rfl⟩,_⟩:=h;exact⟨rfl,rfl⟩
 case vp=>obtain⟨t,cells,b,c,_,_,rfl⟩:=h;exact⟨rfl,rfl⟩
 case ep=>obtain⟨⟨a,rfl⟩,_⟩:=h;exact⟨rfl,rfl⟩
 case mr=>obtain⟨agg,ents,b,c,_,_,rfl⟩:=h;exact⟨rfl,rfl⟩
 case clo=>obtain⟨vs,rfl,_⟩:=h;exact⟨rfl,rfl⟩
 case mth=>obtain⟨u,rfl,_⟩:=h;exact⟨rfl,rfl⟩
 case yl=>obtain⟨st,j,i,e,b,c,_,_,rfl⟩:=h;exact⟨rfl,rfl⟩
 case ra=>obtain⟨⟨a,l,c,rfl⟩,_⟩:=h;exact⟨rfl,rfl⟩
 case rp=>obtain⟨⟨a,rfl⟩,_⟩:=h;exact⟨rfl,rfl⟩
 case ras=>obtain⟨a,cap,rfl,_⟩:=h;exact⟨rfl,rfl⟩
 case pas=>obtain⟨b,o,rfl,_⟩:=h;exact⟨rfl,rfl⟩
theorem aT.one {S:Sto}{μ:Mu}{H:cF}:∀{rs:List R}{vs:List Value},aT S μ H rs vs→∀v∈vs,v.oneCell'=true
 | [],_,h=>by simp only[aT] at h;subst h;simp
 | _::_,_,h=>by
  simp only[aT] at h;obtain⟨v,vs',rfl,h1,h2⟩:=h;intro u hu;rcases Aq.1 hu with rfl | hu
  ·exact h1.one.2
  ·exact h2.one u hu
theorem dZ {S:Sto}{μ:Mu}{H:cF}{x:V}{v:Value}{rs:List R}(h:aS S μ H x v) (hc:iK x=some rs):aT S μ H rs v.cells.toList:=by
 cases x<;>simp only[iK] at hc
 case one r=>
  cases hc;simp only[aS] at h;rw[h.one.1];simp only[aT];exact⟨v,[],rfl,h,rfl⟩
 case pa l=>
  cases hc;simp only[aS] at h;obtain⟨vs,rfl,h⟩:=h;exact h.toR
 case ma l=>
  cases hc;simp only[aS] at h;obtain⟨vs,rfl,h⟩:=h;exact h
 case tup=>cases hc
end Go.AM
