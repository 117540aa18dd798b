/-
  Texts Am0 to Am5 in one.
-/
import Derived.Lib.ItoaNum
import Derived.WalkKit
import Derived.Below
import Derived.OrdersIn
namespace Go.AM
open Go
theorem ψ:∀{p:Prop} [Decidable p],¬p→Decidable.decide p=Bool.false:=@decide_eq_false
theorem φ:∀{p:Prop} [Decidable p],p→Decidable.decide p=Bool.true:=@decide_eq_true
theorem θ.{u}:∀{c:Prop}{_:Decidable c},c→∀{α:Sort u}{t e:α},(if c then t else e)=t:=@if_pos
theorem ξ.{u}:∀{c:Prop}{_:Decidable c},¬c→∀{α:Sort u}{t e:α},(if c then t else e)=e:=@if_neg
theorem ζ:∀{α β:Type}(a:α) (w:Go.World) (f:α→Go.World→Go.Result β),(Go.Result.ok a w).andThen f=f a w:=@Go.Result.andThen_ok
theorem η.{u}:∀{α:Type u}{as g:List α},(as++g).length=as.length+g.length:=@List.length_append
theorem κ:∀{p:Prop} [Decidable p],Decidable.decide p=Bool.true→p:=@of_decide_eq_true
theorem χ.{g,q}:∀{α:Type g}{β:Type q}{as:List α}(f:α→β),(List.map f as).length=as.length:=@List.length_map
theorem ω:Bool.false≠Bool.true:=@Bool.false_ne_true
theorem δ:∀{n m:Nat},n.beq m=Bool.true→n=m:=@Nat.eq_of_beq_eq_true
theorem ε:∀(a b:Bool),((a&&b)=Bool.true)=(a=Bool.true∧b=Bool.true):=@Bool.and_eq_true
theorem π:∀{α β:Type}(P:Go.Program) (w:Go.World) (x:Go.Sem α) (f:α→Go.Sem β),Go.Sem.run P (x>>=f) w=(Go.Sem.run P x w).andThen fun a w'=>Go.Sem.run P (f a) w':=@Go.Sem.run_bind
theorem τ:∀{α:Type}(P:Go.Program) (w:Go.World) (a:α),Go.Sem.run P (Pure.pure a) w=Go.Result.ok a w:=@Go.Sem.run_pure
theorem Aa.{u}:∀{α:Type u}{a:α}{as:List α},(a::as).length=as.length+1:=@List.length_cons
theorem Ab.{q,u}:∀{α:Type q}{b:α}{g:Type u}{x:Option g}{f:g→Option α},x.bind f=Option.some b↔∃a,x=Option.some a∧f a=Option.some b:=@Option.bind_eq_some_iff
theorem Ac.{g}:∀{α:Type g}{xs:Array α}{i:Nat}{d:α},xs.getD i d=xs[i]?.getD d:=@Array.getD_eq_getD_getElem?
theorem Ad:∀(n:Nat),0≤n:=@Nat.zero_le
theorem Ae:∀{p:Prop} [Decidable p],Decidable.decide p=Bool.false→¬p:=@of_decide_eq_false
theorem Af.{g}:∀{α:Type g}{i:Nat}{a:α}{l:List α},l[i]?=Option.some a↔∃h,l[i]=a:=@List.getElem?_eq_some_iff
theorem Ag.{g}:∀{α:Type g}{l:List α}{i:Nat}{a:α},l[i]?=Option.some a→a∈l:=@List.mem_of_getElem?
theorem Ah:∀{P:Go.Program}{t:Go.TypeId}{d:Go.TypeDesc},P.underlying t=Option.some d→∀(w:Go.World),Go.Sem.run P (Go.underlying t) w=Go.Result.ok d w:=@Go.run_underlying
theorem Ai.{g,q}:∀{α:Type g}{β:Type q}{f:α→β}{l₁ l₂:List α},List.map f (l₁++l₂)=List.map f l₁++List.map f l₂:=@List.map_append
theorem Aj.{g}:∀{α:Type g}{i:Nat}{l:List α},(List.take i l).length=Min.min i l.length:=@List.length_take
theorem Ak.{g}:∀{α:Type g}{l:List α}{i j:Nat},(List.take i l)[j]?=if j<i then l[j]? else Option.none:=@List.getElem?_take
theorem Al.{g}:∀{α:Type g}{xs:List α}{i j:Nat},(List.drop i xs)[j]?=xs[i+j]?:=@List.getElem?_drop
theorem Am:∀{n m:Nat},n.ble m=Bool.true→n≤m:=@Nat.le_of_ble_eq_true
theorem An.{u}:∀{α:Type u}(as g cs:List α),as++g++cs=as++(g++cs):=@List.append_assoc
theorem Ao.{g}:∀{α:Type g}{l:List α},List.take l.length l=l:=@List.take_length
theorem Ap.{g}:∀{α:Type g}{l:List α},l.length=0→l=[]:=@List.eq_nil_of_length_eq_zero
theorem Aq:(Bool.false=Bool.true)=False:=@Bool.false_eq_true
theorem Ar.{g}:∀{α:Type g}{a b:α},a∈[b]↔a=b:=@List.mem_singleton
theorem As:∀{p:Prop} [Decidable p],(Decidable.decide p=Bool.true)=p:=@decide_eq_true_eq
theorem Au.{g}:∀{α:Type g}{b:α}{l:List α}{a:α},a∈b::l↔a=b∨a∈l:=@List.mem_cons
theorem Av:∀{n m:Nat}(k:Nat),n≤m→n*k≤m*k:=@Nat.mul_le_mul_right
theorem Aw.{g}:∀{α:Type g}{i:Nat}{l:List α},l.length≤i→List.take i l=l:=@List.take_of_length_le
theorem Ax.{g}:∀{α:Type g}{xs:Array α},xs.toList.length=xs.size:=@Array.length_toList
theorem Ay.{g}:∀{α:Type g}{a:α}{s t:List α},a∈s++t↔a∈s∨a∈t:=@List.mem_append
theorem Az.{u}:∀{α:Type u}{a:α}{as:List α}{i:Nat},List.take (i+1) (a::as)=a::List.take i as:=@List.take_succ_cons
theorem A0.{u}:∀{α:Type u}(as:List α),as++[]=as:=@List.append_nil
theorem A1.{g}:∀{α:Type g}{n:Nat}{v:α}{i:Nat},(Array.replicate n v)[i]?=if i<n then Option.some v else Option.none:=@Array.getElem?_replicate
theorem A2.{u}:∀{α:Type u}(as:List α),[]++as=as:=@List.nil_append
theorem A3.{g}:∀{α:Type g}{xs:Array α}{i j:Nat}{a:α},(xs.setIfInBounds i a)[j]?=if i=j then if i<xs.size then Option.some a else Option.none else xs[j]?:=@Array.getElem?_setIfInBounds
theorem A4.{u}:∀{α:Type u}{a:α}{as g:List α},a::as++g=a::(as++g):=@List.cons_append
theorem A5.{g}:∀{α:Type g}{l₁ l₂:List α}{i:Nat},i<l₁.length→(l₁++l₂)[i]?=l₁[i]?:=@List.getElem?_append_left
theorem A6:∀(n m k:Nat),(n+m)*k=n*k+m*k:=@Nat.add_mul
theorem A7.{g}:∀{α:Type g}{i:Nat}{l:List α}(h:i<l.length),List.drop i l=l[i]::List.drop (i+1) l:=@List.drop_eq_getElem_cons
theorem A8:∀{n m k:Nat},n<m→m≤k→n<k:=@Nat.lt_of_lt_of_le
theorem A9.{g}:∀{α:Type g}{l₁ l₂:List α}{i:Nat},l₁.length≤i→(l₁++l₂)[i]?=l₂[i-l₁.length]?:=@List.getElem?_append_right
theorem Ba:∀(n:Nat),0+n=n:=@Nat.zero_add
theorem Bb.{g}:∀{α:Type g}{l:List α}{L:List (List α)},(l::L).flatten=l++L.flatten:=@List.flatten_cons
theorem Bc.{g}:∀{α:Type g}{p:α→Bool}{l:List α},l.all p=Bool.true↔∀(x:α),x∈l→p x=Bool.true:=@List.all_eq_true
theorem Be.{u,v}:∀{α:Type u}{β:Type v}{f:α→β}{a:α}{l:List α},List.map f (a::l)=f a::List.map f l:=@List.map_cons
theorem Bf.{g}:∀{α:Type g}{i:Nat}{l:List α},(List.drop i l).length=l.length-i:=@List.length_drop
theorem Bg.{g}:∀{α:Type g}{l:List α}{i:Nat},List.take (i+1) l=List.take i l++l[i]?.toList:=@List.take_add_one
theorem Bh.{g}:∀{α:Type g}(y:α) {a:α}{l:List α},a∈l→a∈y::l:=@List.mem_cons_of_mem
theorem Bi.{g}:∀{α:Sort g}(a b:α),(bif Bool.false then a else b)=b:=@cond_false
theorem Bj.{u}:∀{α:Type u}{a:α},[a].length=1:=@List.length_singleton
theorem Bk.{g}:∀{α:Sort g}(a b:α),(bif Bool.true then a else b)=a:=@cond_true
theorem Bl.{u}:∀{α:Type u}{xs:Array α}(v:α),(xs.push v).size=xs.size+1:=@Array.size_push
theorem Bm:∀(b:Bool),((!b)=Bool.true)=(b=Bool.false):=@Bool.not_eq_true'
theorem Bn.{g}:∀{α:Type g}{p:α→Bool}{a:α}{l:List α},¬p a=Bool.true→List.filter p (a::l)=List.filter p l:=@List.filter_cons_of_neg
theorem Bo.{g}:∀{α:Type g}{p:α→Bool}{a:α}{l:List α},p a=Bool.true→List.filter p (a::l)=a::List.filter p l:=@List.filter_cons_of_pos
theorem Bp.{u}:∀{α:Type u}{a:α}{as:List α},(a::as).length=as.length+1:=@List.length_cons
theorem Bq.{g}:∀{α:Sort g}{_:Decidable False}(t e:α),(if False then t else e)=e:=@if_false
theorem Br:∀{F:Go.Fence}{n:Nat}{P:Go.Program}{ops:Array Go.Oper}{Q:Go.Exit→Go.Act→Go.World→Prop}(i:Nat) (rest:List Nat) (a:Go.Act) (w:Go.World),Go.wpOpsIn F n P ops Q (i::rest) a w=Go.wpOpIn F n P ops Q i (Go.wpOpsIn F n P ops Q rest) a w:=@Go.wpOpsIn_cons
theorem Bt:∀{a b:Bool},a=b↔(a=Bool.true↔b=Bool.true):=@Bool.eq_iff_iff
theorem Bu.{g}:∀{α:Type g}{a:α}{l:List α},a∈a::l:=@List.mem_cons_self
theorem Bv.{g}:∀{α:Type g}{p:α→Bool}(l₁ l₂:List α),List.filter p (l₁++l₂)=List.filter p l₁++List.filter p l₂:=@List.filter_append
theorem Bw.{g}:∀{α:Type g}{i:Nat}{b:α}{xs:Array α},xs[i]?=Option.some b↔∃h,xs[i]=b:=@Array.getElem?_eq_some_iff
theorem Bx:∀(w:Go.World) (o:Go.Obj),(w.alloc o).heap[w.heap.size]?=Option.some o:=@Go.heap_alloc_new
theorem By:∀{n m k:Nat},n≤m→m<k→n<k:=@Nat.lt_of_le_of_lt
theorem Bz:∀(n:Int),-9223372036854775808≤n∧n≤9223372036854775807→Go.IntKind.i64.wrap n=n:=@Go.IntWalk.i64_in
theorem B0.{u}:∀{α:Type u}{l:List α},List.drop 0 l=l:=@List.drop_zero
theorem B1.{g,q}:∀{α:Type g}{β:Type q}(a:α) (f:α→β),Option.map f (Option.some a)=Option.some (f a):=@Option.map_some
theorem B2.{g}:∀{α:Type g}{l₁ l₂:List α}{i:Nat},i≤l₁.length→List.take i (l₁++l₂)=List.take i l₁:=@List.take_append_of_le_length
theorem B3.{g}:∀{α:Type g}{l₁ l₂:List α}{i:Nat},i≤l₁.length→List.drop i (l₁++l₂)=List.drop i l₁++l₂:=@List.drop_append_of_le_length
theorem B4:∀(b:Bool),(Bool.false || b)=b:=@Bool.false_or
theorem B5:∀(n:Nat),n<n.succ:=@Nat.lt_succ_self
theorem B6.{g}:∀{α:Type g}{l₁ l₂:List α}{i:Nat},(l₁++l₂)[i]?=if i<l₁.length then l₁[i]? else l₂[i-l₁.length]?:=@List.getElem?_append
theorem B7.{g}:∀{α:Type g}{x:α}{xs:List α}{p:α→Bool},List.dropWhile p (x::xs)=if p x=Bool.true then List.dropWhile p xs else x::xs:=@List.dropWhile_cons
theorem B9.{g}:∀{α:Type g}{i:Nat}{a:α}{l:List α},a∈List.take i l→a∈l:=@List.mem_of_mem_take
theorem Cb:∀(n:Nat),n-n=0:=@Nat.sub_self
theorem Cc.{g}:∀{α:Type g}{xs q:Array α}{i:Nat},i<xs.size→(xs++q)[i]?=xs[i]?:=@Array.getElem?_append_left
theorem Cd.{u}:∀{α:Type u}{xs:List α}{i:Nat},xs.toArray[i]?=xs[i]?:=@List.getElem?_toArray
theorem Ce.{g}:∀{α:Type g}{l:List α}{i:Nat}{a:α},l.set i a=if i<l.length then List.take i l++a::List.drop (i+1) l else l:=@List.set_eq_take_append_cons_drop
theorem Cf.{g}:∀{α:Type g}{x:α}{xs:List α}{p:α→Bool},List.filter p (x::xs)=if p x=Bool.true then x::List.filter p xs else List.filter p xs:=@List.filter_cons
theorem Cg.{g}:∀{α:Sort g}{_:Decidable True}(t e:α),(if True then t else e)=t:=@if_true
theorem Ch.{g}:∀{α:Type g}{l₁ l₂:List α},(∀(i:Nat),l₁[i]?=l₂[i]?)→l₁=l₂:=@List.ext_getElem?
theorem Ci.{u}:∀{α:Type u}{p:α→Bool},List.filter p []=[]:=@List.filter_nil
theorem Cj.{u}:∀{α:Type u}{a:α}{l:List α}{i:Nat},List.drop (i+1) (a::l)=List.drop i l:=@List.drop_succ_cons
theorem Ck:∀(n:Nat),n+0=n:=@Nat.add_zero
theorem Cm:∀(n:Nat),¬n<n:=@Nat.lt_irrefl
theorem Co.{g}:∀{α:Type g}{i j:Nat}{l:List α},List.drop i (List.drop j l)=List.drop (j+i) l:=@List.drop_drop
theorem Cp.{g}:∀{α:Type g}{L₁ L₂:List (List α)},(L₁++L₂).flatten=L₁.flatten++L₂.flatten:=@List.flatten_append
theorem Cq:∀(b:Bool),(¬b=Bool.true)=(b=Bool.false):=@Bool.not_eq_true
theorem Cr.{u}:∀{α:Type u}{n:Nat}{a:α},(List.replicate n a).length=n:=@List.length_replicate
theorem Cs:∀(b:Bool),(Bool.false&&b)=Bool.false:=@Bool.false_and
theorem Ct.{g}:∀{α:Type g}{l:List α},List.drop l.length l=[]:=@List.drop_length
theorem Cu:∀(b:Bool),(Bool.true&&b)=b:=@Bool.true_and
theorem Cv:∀{a b:Nat},a≤b→Min.min a b=a:=@Nat.min_eq_left
theorem Cw.{u,v}:∀{α:Type u}{β:Type v}{a:α}{l:List α}{f:β→α→β}{b:β},List.foldl f b (a::l)=List.foldl f (f b a) l:=@List.foldl_cons
theorem Cx:∀{F:Go.Fence}{n:Nat}{P:Go.Program}{Q:Go.Exit→Go.Act→Go.World→Prop}{a:Go.Act}{w:Go.World}{x y:Go.Code},Go.Code.wpIn F n P x (Go.Exit.then (Go.Code.wpIn F n P y Q) Q) a w→Go.Code.wpIn F n P (x.seq y) Q a w:=@Go.wpIn_seq
theorem Cy:∀{n m:Nat},n<m→n≤m:=@Nat.le_of_lt
theorem Cz.{u}:∀{α:Type u}{l:List α},List.take 0 l=[]:=@List.take_zero
end Go.AM
open List (all_eq_true cons_append drop_succ_cons eq_nil_of_length_eq_zero filter_cons flatten_cons length_cons length_nil map_cons map_nil mem_cons mem_filter mem_map mem_range nodup_cons take_left' take_succ_cons)
open Nat (add_assoc add_mul add_zero eq_of_beq_eq_true le_refl le_trans lt_of_lt_of_le sub_zero zero_add zero_le)
namespace Go.AM
open Go
def aRq:Option Nat:=none
def aVa:Array Value:=(Lib.pow10Tab.map fun z=>Value.int .u64 z).toArray
def aQz (w:World):Prop:=∀g,aRq=some g→g<w.heap.size∧∃t fr,w.heap[g]?=some (.cells aVa t fr)
def aW5 (w:World) (F:Nat→Prop):Prop:=aQz w∧∀g,aRq=some g→¬F g
inductive C where
 | int (k:IntKind) (n:Int)
 | bool (b:Bool)
 | str (s:List UInt8)
 | nl
 | sl (es:Nat) (l:List (List C))
 | sn (es:Nat) (l:List (List C))
 | np
 | pt (l:List C)
 | mp (agg:Bool) (l:List (List C))
 | zv (k:Nat)
 | any
 | fn (f:FuncId)
 | clo (f:FuncId) (l:List C)
 | sg (te es:Nat) (l:List (List C))
 deriving Inhabited
inductive MK where
 | all (es:Array MapEntry) (clk:Nat)
 | part (ks:List UInt8→Prop)
 | top (te lo hi:Nat)
def aO6 (k:List UInt8) (es:Array MapEntry):Prop:=∃e∈es.toList,e.key=.string ⟨⟨k⟩⟩
def MK.has:MK→List UInt8→Prop
 | .all es _,k=>aO6 k es
 | .part ks,k=>ks k
 | .top _ _ _,_=>False
def MK.le:MK→MK→Prop
 | .all es clk,m=>m=.all es clk
 | .part ks,m=>∀k,ks k→m.has k
 | .top te lo hi,m=>m=.top te lo hi
theorem MK.le_refl (m:MK):m.le m:=by cases m<;>simp[MK.le,MK.has]
theorem MK.le_has {m g:MK}(h:m.le g) {k:List UInt8}(e:m.has k):g.has k:=by
 cases m with
 | all es clk=>simp only[MK.le] at h;subst h;exact e
 | part ks=>exact h k e
 | top te lo hi=>cases e
theorem MK.le_trans {m q g:MK}(h:m.le q) (k:q.le g):m.le g:=by
 cases m with
 | all es clk=>simp only[MK.le] at h;subst h;exact k
 | part ks=>exact fun s e=>MK.le_has k (h s e)
 | top te lo hi=>simp only[MK.le] at h;subst h;exact k
def MK.holds:MK→Option Obj→Prop
 | .all es clk,o=>o=some (.map es clk)
 | .part ks,o=>∃es clk,o=some (.map es clk)∧∀k,ks k→aO6 k es
 | .top te _ hi,o=>∃vs,o=some (.cells ⟨vs⟩ te (0,0))∧hi≤vs.length
theorem MK.holds_some {m:MK}{o:Option Obj}(h:m.holds o):∃x,o=some x:=by
 cases m with
 | all es clk=>exact⟨_,h⟩
 | part ks=>obtain⟨es,clk,h1,_⟩:=h;exact⟨_,h1⟩
 | top te lo hi=>obtain⟨vs,h1,_⟩:=h;exact⟨_,h1⟩
structure Sto where
 cell:Nat→Nat→Option Value
 mapo:Nat→Option MK
def Sto.le (S S':Sto):Prop:=(∀b o v,S.cell b o=some v→S'.cell b o=some v)∧(∀b m,S.mapo b=some m→∃m',S'.mapo b=some m'∧m.le m')
theorem Sto.le_refl (S:Sto):S.le S:=⟨fun _ _ _ h=>h,fun _ m h=>⟨m,h,m.le_refl⟩⟩
theorem Sto.le_trans {S S' S'':Sto}(h:S.le S') (k:S'.le S''):S.le S'':=⟨fun b o v e=>k.1 b o v (h.1 b o v e),fun b m e=>by
 obtain⟨q,h1,h2⟩:=h.2 b m e;obtain⟨g,u,y⟩:=k.2 b q h1
 exact⟨g,u,MK.le_trans h2 y⟩⟩
theorem Sto.le_all {S S':Sto}(h:S.le S') {b:Nat}{es:Array MapEntry}{clk:Nat}(e:S.mapo b=some (.all es clk)):S'.mapo b=some (.all es clk):=by
 obtain⟨g,h1,h2⟩:=h.2 b _ e;simp only[MK.le] at h2;rw[h1,h2]
theorem Sto.le_top {S S':Sto}(h:S.le S') {b te lo hi:Nat}(e:S.mapo b=some (.top te lo hi)):S'.mapo b=some (.top te lo hi):=by
 obtain⟨g,h1,h2⟩:=h.2 b _ e;simp only[MK.le] at h2;rw[h1,h2]
def Sto.free (S:Sto):Prop:=∀b te lo hi,S.mapo b=some (.top te lo hi)→∀o,lo≤o→S.cell b o=none
def Sto.noTop (S:Sto):Prop:=∀b m,S.mapo b=some m→∃es clk,m=.all es clk
def aQ5:Nat→Value
 | 0=>.map none
 | 1=>.nilFunc
 | _=>.nilIface
def dX (S:Sto) (b o:Nat) (vs:List Value):Prop:=∀i v,vs[i]?=some v→S.cell b (o+i)=some v
theorem dX.mono {S S':Sto}(h:S.le S') {b o:Nat}{vs:List Value}(k:dX S b o vs):dX S' b o vs:=fun i v e=>h.1 _ _ _ (k i v e)
mutual
def Rep (S:Sto):C→Value→Prop
 | .int k n,v=>v=.int k n
 | .bool b,v=>v=.bool b
 | .str s,v=>v=.string ⟨⟨s⟩⟩
 | .nl,v=>v=.slice none 0 0
 | .sl es l,v=>∃a len cap,v=.slice a len cap∧len=l.length∧len≤cap∧cap≤maxLen∧(a=none→len=0∧cap=0)∧
   (∀ad,a=some ad→cap≠0→ad.spot=none)∧∃b o,(∀ad,a=some ad→ad.block=b∧ad.off=o)∧bG S es b l o
 | .sn es l,v=>∃b o sp len cap,v=.slice (some ⟨b,o,sp⟩) len cap∧len=l.length∧len≤cap∧cap≤maxLen∧(cap≠0→sp=none)∧bG S es b l o
 | .np,v=>v=.pointer none
 | .pt l,v=>∃b o,v=.pointer (some ⟨b,o,none⟩)∧∃vs,bS S l vs∧dX S b o vs
 | .mp agg l,v=>∃b es clk,v=.map (some b)∧S.mapo b=some (.all es clk)∧(bD S agg l es.toList∨aIs S agg l es)
 | .zv k,v=>v=aQ5 k
 | .any,v=>v.cells= #[v]∧v.oneCell'=true
 | .fn f,v=>v=.func (.func f) #[] ⟨[]⟩
 | .clo f l,v=>∃vs,v=.func (.func f) #[] ⟨vs⟩∧bS S l vs
 | .sg te es l,v=>∃a len cap,v=.slice a len cap∧len=l.length∧len≤cap∧cap≤maxLen∧((a=none∧len=0∧cap=0)∨∃b o,a=some ⟨b,o,none⟩∧bG S es b l o∧S.mapo b=some (.top te (o+l.length*es) (o+cap*es)))
def bS (S:Sto):List C→List Value→Prop
 | [],vs=>vs=[]
 | c::cs,vs=>∃v vs',vs=v::vs'∧Rep S c v∧bS S cs vs'
def bG (S:Sto) (es b:Nat):List (List C)→Nat→Prop
 | [],_=>True
 | r::rs,o=>r.length=es∧(∃vs,bS S r vs∧dX S b o vs)∧bG S es b rs (o+es)
def bD (S:Sto) (agg:Bool):List (List C)→List MapEntry→Prop
 | [],es=>es=[]
 | r::rs,es=>∃e es',es=e::es'∧(∃vs,bS S r (e.key::vs)∧(e.val=if agg then .agg ⟨vs⟩ else vs.headD undef)∧(agg=false→vs.length=1))∧bD S agg rs es'
def kI (S:Sto) (agg:Bool):List (List C)→MapEntry→Prop
 | [],_=>False
 | r::rs,e=>(∃vs,bS S r (e.key::vs)∧(e.val=if agg then .agg ⟨vs⟩ else vs.headD undef)∧(agg=false→vs.length=1))∨kI S agg rs e
def aIs (S:Sto) (agg:Bool):List (List C)→Array MapEntry→Prop
 | [],_=>False
 | r::rs,es=>r=[]∧(∀e∈es.toList,kI S agg rs e)∧∀k cs,(.str k::cs)∈rs→aO6 k es
end
mutual
theorem Rep.mono {S S':Sto}(h:S.le S'):∀(c:C) (v:Value),Rep S c v→Rep S' c v
 | .int _ _,_,k=>by simpa [Rep] using k
 | .bool _,_,k=>by simpa [Rep] using k
 | .str _,_,k=>by simpa [Rep] using k
 | .nl,_,k=>by simpa [Rep] using k
 | .np,_,k=>by simpa [Rep] using k
 | .zv _,_,k=>by simpa [Rep] using k
 | .any,_,k=>by simp only[Rep] at k ⊢;exact k
 | .fn _,_,k=>by simpa [Rep] using k
 | .clo _ l,v,k=>by
  simp only[Rep] at k ⊢;obtain⟨vs,h1,h2⟩:=k;exact⟨vs,h1,bS.mono h l vs h2⟩
 | .sg te es l,v,k=>by
  simp only[Rep] at k ⊢;obtain⟨a,len,cap,h1,h2,g,q,u⟩:=k;refine⟨a,len,cap,h1,h2,g,q,u.imp id fun⟨b,o,y,B,E⟩=>⟨b,o,y,bG.mono h es b l o B,Sto.le_top h E⟩⟩
 | .sl es l,v,k=>by
  simp only[Rep] at k ⊢;obtain⟨a,len,cap,h1,h2,g,q,u,y,b,o,B,E⟩:=k;exact⟨a,len,cap,h1,h2,g,q,u,y,b,o,B,bG.mono h es b l o E⟩
 | .sn es l,v,k=>by
  simp only[Rep] at k ⊢;obtain⟨b,o,sp,len,cap,h1,h2,g,q,u,y⟩:=k;exact⟨b,o,sp,len,cap,h1,h2,g,q,u,bG.mono h es b l o y⟩
 | .pt l,v,k=>by
  simp only[Rep] at k ⊢;obtain⟨b,o,h1,vs,h2,g⟩:=k;exact⟨b,o,h1,vs,bS.mono h l vs h2,g.mono h⟩
 | .mp agg l,v,k=>by
  simp only[Rep] at k ⊢;obtain⟨b,es,clk,h1,h2,g⟩:=k;exact⟨b,es,clk,h1,Sto.le_all h h2,g.elim (fun g=>.inl (bD.mono h agg l es.toList g)) fun g=>.inr (aIs.mono h agg l es g)⟩
theorem bS.mono {S S':Sto}(h:S.le S'):∀(c:List C) (v:List Value),bS S c v→bS S' c v
 | [],_,k=>by simpa [bS] using k
 | c::cs,vs,k=>by
  simp only[bS] at k ⊢;obtain⟨v,vs',h1,h2,g⟩:=k;exact⟨v,vs',h1,Rep.mono h c v h2,bS.mono h cs vs' g⟩
theorem bG.mono {S S':Sto}(h:S.le S') (es b:Nat):∀(l:List (List C)) (o:Nat),bG S es b l o→bG S' es b l o
 | [],_,_=>by simp[bG]
 | r::rs,o,k=>by
  simp only[bG] at k ⊢;obtain⟨h1,⟨vs,h2,g⟩,q⟩:=k;exact⟨h1,⟨vs,bS.mono h r vs h2,g.mono h⟩,bG.mono h es b rs (o+es) q⟩
theorem bD.mono {S S':Sto}(h:S.le S') (agg:Bool):∀(l:List (List C)) (es:List MapEntry),bD S agg l es→bD S' agg l es
 | [],_,k=>by simpa [bD] using k
 | r::rs,es,k=>by
  simp only[bD] at k ⊢;obtain⟨e,A,h1,⟨vs,h2,g⟩,q⟩:=k;exact⟨e,A,h1,⟨vs,bS.mono h r _ h2,g⟩,bD.mono h agg rs A q⟩
theorem kI.mono {S S':Sto}(h:S.le S') (agg:Bool):∀(l:List (List C)) (e:MapEntry),kI S agg l e→kI S' agg l e
 | [],_,k=>by simp only[kI] at k
 | r::rs,e,k=>by
  simp only[kI] at k ⊢;rcases k with⟨vs,h2,g⟩ | k
  ·exact .inl ⟨vs,bS.mono h r _ h2,g⟩
  ·exact .inr (kI.mono h agg rs e k)
theorem aIs.mono {S S':Sto}(h:S.le S') (agg:Bool):∀(l:List (List C)) (es:Array MapEntry),aIs S agg l es→aIs S' agg l es
 | [],_,k=>by simp only[aIs] at k
 | r::rs,es,k=>by
  simp only[aIs] at k ⊢;exact⟨k.1,fun e he=>kI.mono h agg rs e (k.2.1 e he),k.2.2⟩
end
theorem bS.length {S:Sto}:∀{c:List C}{v:List Value},bS S c v→v.length=c.length
 | [],_,k=>by simp only[bS] at k;subst k;rfl
 | _::cs,_,k=>by
  simp only[bS] at k;obtain⟨v,vs',rfl,_,h⟩:=k;simp[bS.length h]
theorem bS.append {S:Sto}:∀{a:List C}{x:List Value}{b:List C}{y:List Value},bS S a x→bS S b y→bS S (a++b) (x++y)
 | [],_,_,_,h,k=>by simp only[bS] at h;subst h;simpa using k
 | _::_,_,_,_,h,k=>by
  simp only[bS,A4] at h ⊢;obtain⟨v,vs',rfl,h1,h2⟩:=h;exact⟨v,vs'++_,rfl,h1,h2.append k⟩
theorem bS.take {S:Sto}:∀{a:List C}{x:List Value}(n:Nat),bS S a x→bS S (a.take n) (x.take n)
 | _,_,0,_=>by simp[bS]
 | [],_,n+1,h=>by simp only[bS] at h;subst h;simp[bS]
 | _::_,_,n+1,h=>by
  simp only[bS,Az] at h ⊢;obtain⟨v,vs',rfl,h1,h2⟩:=h;exact⟨v,vs'.take n,by simp,h1,h2.take n⟩
theorem bS.drop {S:Sto}:∀{a:List C}{x:List Value}(n:Nat),bS S a x→bS S (a.drop n) (x.drop n)
 | _,_,0,h=>by simpa using h
 | [],_,n+1,h=>by simp only[bS] at h;subst h;simp[bS]
 | _::_,_,n+1,h=>by
  simp only[bS,Cj] at h ⊢;obtain⟨v,vs',rfl,h1,h2⟩:=h;simpa using h2.drop n
theorem bG.get {S:Sto}{es b:Nat}:∀{l:List (List C)}{o:Nat},bG S es b l o→∀(i:Nat) (r:List C),l[i]?=some r→r.length=es∧∃vs,bS S r vs∧dX S b (o+i*es) vs
 | [],_,_,i,r,h=>by simp at h
 | x::xs,o,k,i,r,h=>by
  simp only[bG] at k;obtain⟨h1,h2,g⟩:=k;cases i with
  | zero=>simp at h;subst h;simpa using ⟨h1,h2⟩
  | succ i=>
   simp at h;have:=g.get i r h;rw[show o+es+i*es=o+(i+1)*es by rw[A6];omega] at this;exact this
theorem bG.drop {S:Sto}{es b:Nat}:∀{l:List (List C)}{o:Nat}(n:Nat),bG S es b l o→bG S es b (l.drop n) (o+n*es)
 | _,_,0,h=>by simpa using h
 | [],_,n+1,_=>by simp[bG]
 | x::xs,o,n+1,h=>by
  simp only[bG,Cj] at h ⊢;have:=h.2.2.drop n;rw[show o+es+n*es=o+(n+1)*es by rw[A6];omega] at this;exact this
theorem bG.take {S:Sto}{es b:Nat}:∀{l:List (List C)}{o:Nat}(n:Nat),bG S es b l o→bG S es b (l.take n) o
 | _,_,0,_=>by simp[bG]
 | [],_,n+1,_=>by simp[bG]
 | x::xs,o,n+1,h=>by
  simp only[bG,Az] at h ⊢;exact⟨h.1,h.2.1,h.2.2.take n⟩
theorem bG.of_flat {S:Sto}{es b:Nat}:∀{l:List (List C)}{o:Nat}{vs:List Value},(∀r∈l,r.length=es)→bS S l.flatten vs→dX S b o vs→bG S es b l o
 | [],_,_,_,_,_=>by simp[bG]
 | r::rs,o,vs,hl,h,hc=>by
  have g:r.length=es:=hl r (by simp);simp only[bG,Bb] at h ⊢;have h1:=h.take r.length;have h2:=h.drop r.length;simp only[take_left',List.drop_left'] at h1 h2;refine⟨g,⟨_,h1,fun i v e=>?_⟩,bG.of_flat (fun x hx=>hl x (by simp[hx])) h2 fun i v e=>?_⟩
  ·rw[Ak] at e;split at e
   ·exact hc i v e
   ·cases e
  ·rw[Al,g] at e;have:=hc (es+i) v e;rwa [←add_assoc] at this
inductive R where
 | c (x:C)
 | hs (id off len sz:Nat)
 | tl (id off len sz:Nat)
 | vp (id off:Nat)
 | ep (id i fo sz:Nat)
 | mr (id:Nat)
 | clo (f:FuncId) (caps:List R)
 | mth (f:FuncId) (recv:R)
 | yl (id:Nat)
 | ra (id off len sz:Nat)
 | rp (id i fo sz:Nat)
 | ras (n es:Nat) (l:List R)
 | pas (l:List R)
 deriving Inhabited
inductive V where
 | one (r:R)
 | pa (l:List C)
 | ma (l:List R)
 | tup (l:List V)
 deriving Inhabited
structure LI where
 n:Nat
 params:Array Tmp
 asg:Code
 body:Code
 deriving Inhabited
inductive AObj where
 | var (t:TypeId) (cells:List R)
 | arr (te es:Nat) (elems:List (List C)) (fz:Nat)
 | map (agg:Bool) (ents:List (List C))
 | dead
 | lp (st:LoopState) (jump:Option Code) (i:LI) (e:List (Nat×V))
 | dfr
 | rarr (te es:Nat) (elems:List (List R))
 | tok (r:R) (k:List UInt8)
 deriving Inhabited
abbrev bX:=Nat→Option AObj
abbrev Mu:=Nat→Option (Nat×Nat×Nat)
mutual
def aY (S:Sto) (μ:Mu) (H:bX):R→Value→Prop
 | .c x,v=>Rep S x v
 | .hs id off len sz,v=>(∃a l c,v=.slice a l c)∧(H id=some .dead∨∃te es elems fz,H id=some (.arr te es elems fz)∧sz≤elems.length∧
   (sz=elems.length→off+len≤sz∧((μ id=none∧elems=[]∧v=.slice none 0 0)∨∃b base cap,μ id=some (b,base,cap)∧v=.slice (some ⟨b,base+off*es,none⟩) len (cap-off))))
 | .tl id off len sz,v=>(∃a l c,v=.slice a l c)∧(H id=some .dead∨∃te es elems fz,H id=some (.arr te es elems fz)∧sz≤elems.length∧
   (sz=elems.length→off+len=sz∧∃b base cap,μ id=some (b,base,cap)∧off≤cap∧v=.slice (some ⟨b,if cap=off then base else base+off*es,none⟩) len (cap-off)))
 | .vp id off,v=>∃t cells b c,H id=some (.var t cells)∧μ id=some (b,c)∧v=.pointer (some ⟨b,off,none⟩)
 | .ep id i fo sz,v=>(∃a,v=.pointer a)∧(H id=some .dead∨∃te es elems fz,H id=some (.arr te es elems fz)∧sz≤elems.length∧
   (sz=elems.length→i<sz∧∃b base cap,μ id=some (b,base,cap)∧v=.pointer (some ⟨b,base+i*es+fo,none⟩)))
 | .mr id,v=>∃agg ents b c,H id=some (.map agg ents)∧μ id=some (b,c)∧v=.map (some b)
 | .clo f caps,v=>∃vs,v=.func (.func f) #[] ⟨vs⟩∧aP S μ H caps vs
 | .mth f recv,v=>∃u,v=.func (.func f) #[u] #[]∧aY S μ H recv u
 | .yl id,v=>∃st j i e b c,H id=some (.lp st j i e)∧μ id=some (b,c)∧v=.func (.yield b) #[] #[]
 | .ra id off len sz,v=>(∃a l c,v=.slice a l c)∧(H id=some .dead∨∃te es elems,H id=some (.rarr te es elems)∧sz≤elems.length∧
   (sz=elems.length→off+len≤sz∧((μ id=none∧elems=[]∧v=.slice none 0 0)∨∃b base cap,μ id=some (b,base,cap)∧v=.slice (some ⟨b,base+off*es,none⟩) len (cap-off))))
 | .rp id i fo sz,v=>(∃a,v=.pointer a)∧(H id=some .dead∨∃te es elems,H id=some (.rarr te es elems)∧sz≤elems.length∧
   (sz=elems.length→i<sz∧∃b base cap,μ id=some (b,base,cap)∧v=.pointer (some ⟨b,base+i*es+fo,none⟩)))
 | .ras n es l,v=>∃a cap,v=.slice a n cap∧n*es=l.length∧n≤cap∧cap≤maxLen∧(a=none→n=0∧cap=0)∧(∀ad,a=some ad→ad.spot=none)∧∃b o,(∀ad,a=some ad→ad.block=b∧ad.off=o)∧
   ∃vs,aP S μ H l vs∧dX S b o vs
 | .pas l,v=>∃b o,v=.pointer (some ⟨b,o,none⟩)∧∃vs,aP S μ H l vs∧dX S b o vs
def aP (S:Sto) (μ:Mu) (H:bX):List R→List Value→Prop
 | [],vs=>vs=[]
 | r::rs,vs=>∃v vs',vs=v::vs'∧aY S μ H r v∧aP S μ H rs vs'
end
mutual
def aN (S:Sto) (μ:Mu) (H:bX):V→Value→Prop
 | .one r,v=>aY S μ H r v
 | .pa l,v=>∃vs,v=.agg ⟨vs⟩∧bS S l vs
 | .ma l,v=>∃vs,v=.agg ⟨vs⟩∧aP S μ H l vs
 | .tup l,v=>∃vs,v=.tuple ⟨vs⟩∧aT S μ H l vs
def aT (S:Sto) (μ:Mu) (H:bX):List V→List Value→Prop
 | [],vs=>vs=[]
 | r::rs,vs=>∃v vs',vs=v::vs'∧aN S μ H r v∧aT S μ H rs vs'
end
def jB:List (List C)→Prop
 | []=>True
 | (.str _::_)::r=>jB r
 | _::_=>False
def wX (S:Sto) (agg:Bool) (ents:List (List C)) (es:List MapEntry):Prop:=(ents=[[]]∧∃e',jB e'∧bD S agg e' es)∨bD S agg ents es∨∃T,ents=[]::T∧T≠[]∧∀e∈es,kI S agg T e
theorem wX.mono {S S':Sto}(h:S.le S') {agg:Bool}{ents:List (List C)}{es:List MapEntry}(k:wX S agg ents es):wX S' agg ents es:=
 k.imp (fun⟨h1,e',h2,g⟩=>⟨h1,e',h2,bD.mono h _ _ _ g⟩) fun k=>k.imp (bD.mono h _ _ _) fun⟨T,h1,h2,g⟩=>⟨T,h1,h2,fun e he=>kI.mono h _ _ _ (g e he)⟩
theorem wX.rep {S:Sto}{agg:Bool}{ents:List (List C)}{es:List MapEntry}(hm:jB ents) (k:wX S agg ents es):bD S agg ents es:=
 k.elim (fun h=>by rw[h.1] at hm;simp[jB] at hm) fun k=>k.elim id fun⟨T,h,_⟩=>by rw[h] at hm;simp[jB] at hm
def aDm (S:Sto) (b:Nat) (ents:List (List C)):Prop:=S.mapo b=none∨∃T ks,ents=[]::T∧T≠[]∧S.mapo b=some (.part ks)
theorem aDm.kn0 {S:Sto}{b:Nat}{ents:List (List C)}(h:aDm S b ents) (hm:jB ents):S.mapo b=none:=by
 rcases h with h | ⟨T,ks,h,_⟩
 ·exact h
 ·rw[h] at hm;simp[jB] at hm
theorem aDm.of_eq {S S':Sto}{b:Nat}{ents:List (List C)}(h:aDm S b ents) (e:S'.mapo b=S.mapo b):aDm S' b ents:=
 h.imp (fun h=>e.trans h) fun⟨T,ks,h1,h2,g⟩=>⟨T,ks,h1,h2,e.trans g⟩
def jF (S:Sto) (μ:Mu) (H:bX) (w:World) (id:Nat):AObj→Prop
 | .var t cells=>∃b vs,μ id=some (b,0,0)∧w.heap[b]?=some (.cells ⟨vs⟩ t (0,0))∧aP S μ H cells vs∧(∀o,S.cell b o=none)∧S.mapo b=none
 | .arr te es elems fz=>(∀r∈elems,r.length=es)∧((μ id=none∧elems=[])∨∃b base cap vs,μ id=some (b,base,cap)∧w.heap[b]?=some (.cells ⟨vs⟩ te (0,0))∧
   base+cap*es≤vs.length∧elems.length≤cap∧(cap≤maxLen∧S.mapo b=none)∧bS S elems.flatten ((vs.drop base).take (elems.length*es))∧
   (fz=0→∀o,base≤o→S.cell b o=none)∧(∀o,base+elems.length*es≤o→S.cell b o=none)∧(fz=2→dX S b base ((vs.drop base).take (elems.length*es))))
 | .map agg ents=>∃b es clk,μ id=some (b,0,0)∧w.heap[b]?=some (.map es clk)∧wX S agg ents es.toList∧aDm S b ents
 | .dead=>μ id=none
 | .lp st j i e=>∃b r fn tmps,μ id=some (b,0,0)∧w.heap[b]?=some (.loop { state:=st,pending:=j,fn:=fn,tmps:=tmps,params:=i.params,assign:=i.asg,body:=i.body,defers:=r })∧
   tmps.size=i.n∧(∀t v,(t,v)∈e→aN S μ H v (tmps.getD t undef))∧(∀o,S.cell b o=none)∧S.mapo b=none
 | .dfr=>∃b,μ id=some (b,0,0)∧w.heap[b]?=some (.deferred (some []))∧(∀o,S.cell b o=none)∧S.mapo b=none
 | .rarr te es elems=>(∀r∈elems,r.length=es)∧((μ id=none∧elems=[])∨∃b base cap vs,μ id=some (b,base,cap)∧w.heap[b]?=some (.cells ⟨vs⟩ te (0,0))∧
   base+cap*es≤vs.length∧elems.length≤cap∧(cap≤maxLen∧S.mapo b=none)∧aP S μ H elems.flatten ((vs.drop base).take (elems.length*es))∧(∀o,base≤o→S.cell b o=none))
 | .tok r k=>μ id=none∧∃b,aY S μ H r (.map (some b))∧∃m,S.mapo b=some m∧m.has k
def AObj.succ (same:Prop):AObj→AObj→Prop
 | .var _ _,.var _ _=>same
 | .arr _ es l _,.arr _ es' l' _=>es=es'∧l.length≤l'.length∧(l.length=l'.length→same)
 | .map _ _,.map _ _=>same
 | .arr _ _ _ _,.dead=>True
 | .dead,.dead=>True
 | .lp _ _ _ _,.lp _ _ _ _=>same
 | .dfr,.dfr=>same
 | .rarr _ es l,.rarr _ es' l'=>es=es'∧l.length≤l'.length∧(l.length=l'.length→same)
 | .rarr _ _ _,.dead=>True
 | .tok _ k,.tok _ k'=>k=k'
 | _,_=>False
structure Evolve (S:Sto) (μ:Mu) (H:bX) (S':Sto) (μ':Mu) (H':bX):Prop where
 le:S.le S'
 obj:∀id o,H id=some o→∃o',H' id=some o'∧o.succ (μ' id=μ id) o'
structure Evo0 (S:Sto) (μ:Mu) (H:bX) (S':Sto) (μ':Mu) (H':bX):Prop where
 le:S.le S'
 obj:∀id o,H id=some o→o≠ .dfr→∃o',H' id=some o'∧o.succ (μ' id=μ id) o'
theorem Evolve.weak {S:Sto}{μ:Mu}{H:bX}{S':Sto}{μ':Mu}{H':bX}(E:Evolve S μ H S' μ' H'):Evo0 S μ H S' μ' H':=⟨E.le,fun id o h _=>E.obj id o h⟩
theorem AObj.succ_refl (o:AObj) {p:Prop}(h:p):o.succ p o:=by cases o<;>simp[AObj.succ,h]
theorem AObj.succ_dead {o:AObj}{p:Prop}(h:AObj.dead.succ p o):o=.dead:=by cases o<;>simp only[AObj.succ] at h;rfl
theorem AObj.succ_trans {a b c:AObj}{p q r:Prop}(h:a.succ p b) (k:b.succ q c) (g:p→q→r):a.succ r c:=by
  cases a<;>cases b<;>simp only[AObj.succ] at h<;>cases c<;>simp only[AObj.succ] at k ⊢
  all_goals first
    | exact g h k
    | trivial
    | exact h.trans k
    | (obtain⟨h1,h2,u⟩:=h
       obtain⟨y,A,B⟩:=k
       exact⟨h1.trans y,le_trans h2 A,fun e=>g (u (by omega)) (B (by omega))⟩)
theorem Evolve.refl (S:Sto) (μ:Mu) (H:bX):Evolve S μ H S μ H:=⟨S.le_refl,fun _ o h=>⟨o,h,o.succ_refl rfl⟩⟩
theorem Evolve.trans {S S' S'':Sto}{μ μ' g:Mu}{H H' H'':bX}(h:Evolve S μ H S' μ' H') (k:Evolve S' μ' H' S'' g H''):Evolve S μ H S'' g H'':=
 ⟨Sto.le_trans h.le k.le,fun id o ho=>by
  obtain⟨o',h1,h2⟩:=h.obj id o ho;obtain⟨q,u,y⟩:=k.obj id o' h1
  exact⟨q,u,AObj.succ_trans h2 y fun e f=>f.trans e⟩⟩
section
variable {S S':Sto}{μ μ':Mu}{H H':bX}
mutual
theorem aY.evolve0 (E:Evo0 S μ H S' μ' H'):∀(r:R) (v:Value),aY S μ H r v→aY S' μ' H' r v
 | .c x,v,k=>by simp only[aY] at k ⊢;exact Rep.mono E.le x v k
 | .hs id off len sz,v,k=>by
  simp only[aY] at k ⊢;obtain⟨kk,k⟩:=k;refine⟨kk,?_⟩;rcases k with k | ⟨te,es,elems,fz,h1,h2,y⟩
  ·obtain⟨o',q,g⟩:=E.obj _ _ k (by simp);exact .inl (by rw[q,AObj.succ_dead g])
  obtain⟨o',q,g⟩:=E.obj _ _ h1 (by simp);cases o' with
  | arr A aa elems' U=>
   simp only[AObj.succ] at g;obtain⟨rfl,B,O⟩:=g;refine .inr ⟨A,es,elems',U,q,le_trans h2 B,fun e=>?_⟩;have e1:sz=elems.length:=by omega
   obtain⟨I,Y⟩:=y e1;have hm:=O (by omega);refine⟨I,?_⟩;rcases Y with⟨J,M,g3⟩ | ⟨b,base,cap,J,M⟩
   ·refine .inl ⟨by rw[hm,J],?_,g3⟩;subst M;simp only[length_nil] at e1 B;exact Ap (by omega)
   ·exact .inr ⟨b,base,cap,by rw[hm,J],M⟩
  | dead=>exact .inl q
  | _=>simp only[AObj.succ] at g
 | .tl id off len sz,v,k=>by
  simp only[aY] at k ⊢;obtain⟨kk,k⟩:=k;refine⟨kk,?_⟩;rcases k with k | ⟨te,es,elems,fz,h1,h2,y⟩
  ·obtain⟨o',q,g⟩:=E.obj _ _ k (by simp);exact .inl (by rw[q,AObj.succ_dead g])
  obtain⟨o',q,g⟩:=E.obj _ _ h1 (by simp);cases o' with
  | arr A aa elems' U=>
   simp only[AObj.succ] at g;obtain⟨rfl,B,O⟩:=g;refine .inr ⟨A,es,elems',U,q,le_trans h2 B,fun e=>?_⟩;obtain⟨I,b,base,cap,J,M⟩:=y (by omega);exact⟨I,b,base,cap,by rw[O (by omega),J],M⟩
  | dead=>exact .inl q
  | _=>simp only[AObj.succ] at g
 | .vp id off,v,k=>by
  simp only[aY] at k ⊢;obtain⟨t,cells,b,c,h1,h2,y⟩:=k;obtain⟨o',q,g⟩:=E.obj _ _ h1 (by simp);cases o' with
  | var t' cells'=>simp only[AObj.succ] at g;exact⟨t',cells',b,c,q,by rw[g,h2],y⟩
  | _=>simp only[AObj.succ] at g
 | .ep id i fo sz,v,k=>by
  simp only[aY] at k ⊢;obtain⟨kk,k⟩:=k;refine⟨kk,?_⟩;rcases k with k | ⟨te,es,elems,fz,h1,h2,y⟩
  ·obtain⟨o',q,g⟩:=E.obj _ _ k (by simp);exact .inl (by rw[q,AObj.succ_dead g])
  obtain⟨o',q,g⟩:=E.obj _ _ h1 (by simp);cases o' with
  | arr A aa elems' U=>
   simp only[AObj.succ] at g;obtain⟨rfl,B,O⟩:=g;refine .inr ⟨A,es,elems',U,q,le_trans h2 B,fun e=>?_⟩;obtain⟨I,b,base,cap,J,M⟩:=y (by omega);exact⟨I,b,base,cap,by rw[O (by omega),J],M⟩
  | dead=>exact .inl q
  | _=>simp only[AObj.succ] at g
 | .mr id,v,k=>by
  simp only[aY] at k ⊢;obtain⟨agg,ents,b,c,h1,h2,y⟩:=k;obtain⟨o',q,g⟩:=E.obj _ _ h1 (by simp);cases o' with
  | map agg' ents'=>simp only[AObj.succ] at g;exact⟨agg',ents',b,c,q,by rw[g,h2],y⟩
  | _=>simp only[AObj.succ] at g
 | .clo f caps,v,k=>by
  simp only[aY] at k ⊢;obtain⟨vs,h1,h2⟩:=k;exact⟨vs,h1,aP.evolve0 E caps vs h2⟩
 | .mth f recv,v,k=>by
  simp only[aY] at k ⊢;obtain⟨u,h1,h2⟩:=k;exact⟨u,h1,aY.evolve0 E recv u h2⟩
 | .rp id i fo sz,v,k=>by
  simp only[aY] at k ⊢;obtain⟨kk,k⟩:=k;refine⟨kk,?_⟩;rcases k with k | ⟨te,es,elems,h1,h2,y⟩
  ·obtain⟨o',q,g⟩:=E.obj _ _ k (by simp);exact .inl (by rw[q,AObj.succ_dead g])
  obtain⟨o',q,g⟩:=E.obj _ _ h1 (by simp);cases o' with
  | rarr A aa elems'=>
   simp only[AObj.succ] at g;obtain⟨rfl,B,O⟩:=g;refine .inr ⟨A,es,elems',q,le_trans h2 B,fun e=>?_⟩;obtain⟨I,b,base,cap,J,M⟩:=y (by omega);exact⟨I,b,base,cap,by rw[O (by omega),J],M⟩
  | dead=>exact .inl q
  | _=>simp only[AObj.succ] at g
 | .yl id,v,k=>by
  simp only[aY] at k ⊢;obtain⟨st,j,i,e,b,c,h1,h2,y⟩:=k;obtain⟨o',q,g⟩:=E.obj _ _ h1 (by simp);cases o' with
  | lp st' j' i' e'=>simp only[AObj.succ] at g;exact⟨st',j',i',e',b,c,q,by rw[g,h2],y⟩
  | _=>simp only[AObj.succ] at g
 | .ra id off len sz,v,k=>by
  simp only[aY] at k ⊢;obtain⟨kk,k⟩:=k;refine⟨kk,?_⟩;rcases k with k | ⟨te,es,elems,h1,h2,y⟩
  ·obtain⟨o',q,g⟩:=E.obj _ _ k (by simp);exact .inl (by rw[q,AObj.succ_dead g])
  obtain⟨o',q,g⟩:=E.obj _ _ h1 (by simp);cases o' with
  | rarr A aa elems'=>
   simp only[AObj.succ] at g;obtain⟨rfl,B,O⟩:=g;refine .inr ⟨A,es,elems',q,le_trans h2 B,fun e=>?_⟩;have e1:sz=elems.length:=by omega
   obtain⟨I,Y⟩:=y e1;have hm:=O (by omega);refine⟨I,?_⟩;rcases Y with⟨J,M,g3⟩ | ⟨b,base,cap,J,M⟩
   ·refine .inl ⟨by rw[hm,J],?_,g3⟩;subst M;simp only[length_nil] at e1 B;exact Ap (by omega)
   ·exact .inr ⟨b,base,cap,by rw[hm,J],M⟩
  | dead=>exact .inl q
  | _=>simp only[AObj.succ] at g
 | .ras n es l,v,k=>by
  simp only[aY] at k ⊢;obtain⟨a,cap,h1,h2,y,q,g,B,b,o,O,vs,I,Y⟩:=k;exact⟨a,cap,h1,h2,y,q,g,B,b,o,O,vs,aP.evolve0 E l vs I,Y.mono E.le⟩
 | .pas l,v,k=>by
  simp only[aY] at k ⊢;obtain⟨b,o,h1,vs,I,Y⟩:=k;exact⟨b,o,h1,vs,aP.evolve0 E l vs I,Y.mono E.le⟩
theorem aP.evolve0 (E:Evo0 S μ H S' μ' H'):∀(r:List R) (v:List Value),aP S μ H r v→aP S' μ' H' r v
 | [],_,k=>by simpa [aP] using k
 | r::rs,vs,k=>by
  simp only[aP] at k ⊢;obtain⟨v,vs',h1,h2,y⟩:=k;exact⟨v,vs',h1,aY.evolve0 E r v h2,aP.evolve0 E rs vs' y⟩
end
mutual
theorem aN.evolve0 (E:Evo0 S μ H S' μ' H'):∀(r:V) (v:Value),aN S μ H r v→aN S' μ' H' r v
 | .one r,v,k=>by simp only[aN] at k ⊢;exact aY.evolve0 E r v k
 | .pa l,v,k=>by
  simp only[aN] at k ⊢;obtain⟨vs,h1,h2⟩:=k;exact⟨vs,h1,bS.mono E.le l vs h2⟩
 | .ma l,v,k=>by
  simp only[aN] at k ⊢;obtain⟨vs,h1,h2⟩:=k;exact⟨vs,h1,aP.evolve0 E l vs h2⟩
 | .tup l,v,k=>by
  simp only[aN] at k ⊢;obtain⟨vs,h1,h2⟩:=k;exact⟨vs,h1,aT.evolve0 E l vs h2⟩
theorem aT.evolve0 (E:Evo0 S μ H S' μ' H'):∀(r:List V) (v:List Value),aT S μ H r v→aT S' μ' H' r v
 | [],_,k=>by simpa [aT] using k
 | r::rs,vs,k=>by
  simp only[aT] at k ⊢;obtain⟨v,vs',h1,h2,g⟩:=k;exact⟨v,vs',h1,aN.evolve0 E r v h2,aT.evolve0 E rs vs' g⟩
end
theorem aP.evolve (E:Evolve S μ H S' μ' H') (r:List R) (v:List Value) (k:aP S μ H r v):aP S' μ' H' r v:=aP.evolve0 E.weak r v k
theorem aN.evolve (E:Evolve S μ H S' μ' H') (r:V) (v:Value) (k:aN S μ H r v):aN S' μ' H' r v:=aN.evolve0 E.weak r v k
theorem aT.evolve (E:Evolve S μ H S' μ' H') (r:List V) (v:List Value) (k:aT S μ H r v):aT S' μ' H' r v:=aT.evolve0 E.weak r v k
end
structure Ctx where
 w0:World
 S0:Sto
 F:Nat→Prop
 μ0:Mu
 h0:bX
structure FrameW (w0:World) (F:Nat→Prop) (w:World):Prop where
 os:w.os=w0.os
 tape:w.tape=w0.tape
 output:w.output=w0.output
 size:w0.heap.size≤w.heap.size
 block:∀k,k<w0.heap.size→¬F k→w.heap[k]?=w0.heap[k]?
 tab:aW5 w0 F
def aDn (S:Sto) (w:World):Prop:=
 (∀b o v,S.cell b o=some v→∃vs t fr,w.heap[b]?=some (.cells vs t fr)∧vs[o]?=some v)∧(∀b m,S.mapo b=some m→m.holds w.heap[b]?)
structure Inv (G:Ctx) (S:Sto) (μ:Mu) (H:bX) (w:World):Prop where
 holds:aDn S w
 obj:∀id o,H id=some o→jF S μ H w id o
 inj:∀i j o o' b c c',H i=some o→H j=some o'→μ i=some (b,c)→μ j=some (b,c')→i=j
 own:∀i o b c,H i=some o→μ i=some (b,c)→G.w0.heap.size≤b∨G.F b
 frame:FrameW G.w0 G.F w
 sle:G.S0.le S
 sto:∀b,b<G.w0.heap.size→¬G.F b→(∀o,S.cell b o=G.S0.cell b o)∧S.mapo b=G.S0.mapo b
 evo:Evolve G.S0 G.μ0 G.h0 S μ H
 fre:S.free
theorem FrameW.refl (w:World) (F:Nat→Prop) (h:aW5 w F):FrameW w F w:=⟨rfl,rfl,rfl,le_refl _,fun _ _ _=>rfl,h⟩
theorem FrameW.tabAt {w0 w:World}{F:Nat→Prop}(h:FrameW w0 F w):aQz w:=fun g q=>by
 obtain⟨h1,t,u,h2⟩:=h.tab.1 g q;exact⟨A8 h1 h.size,t,u,by rw[h.block g h1 (h.tab.2 g q)];exact h2⟩
theorem jF.lt {S:Sto}{μ:Mu}{H:bX}{w:World}{id:Nat}{o:AObj}(h:jF S μ H w id o) {b:Nat}{c:Nat×Nat}(hm:μ id=some (b,c)):b<w.heap.size:=by
 have hl:∀{x:Obj},w.heap[b]?=some x→b<w.heap.size:=fun e=>(Bw.1 e).1
 cases o with
 | var t cells=>
  obtain⟨g,vs,h1,h2,_⟩:=h;rw[hm] at h1;cases h1;exact hl h2
 | arr te es elems fz=>
  obtain⟨_,⟨h1,_⟩ | ⟨g,base,cap,vs,h1,h2,_⟩⟩:=h
  ·rw[hm] at h1;cases h1
  ·rw[hm] at h1;cases h1;exact hl h2
 | map agg ents=>
  obtain⟨g,es,clk,h1,h2,_⟩:=h;rw[hm] at h1;cases h1;exact hl h2
 | dead=>rw[show μ id=none from h] at hm;cases hm
 | lp st j i e=>
  obtain⟨g,r,fn,tmps,h1,h2,_⟩:=h;rw[hm] at h1;cases h1;exact hl h2
 | dfr=>
  obtain⟨g,h1,h2,_⟩:=h;rw[hm] at h1;cases h1;exact hl h2
 | rarr te es elems=>
  obtain⟨_,⟨h1,_⟩ | ⟨g,base,cap,vs,h1,h2,_⟩⟩:=h
  ·rw[hm] at h1;cases h1
  ·rw[hm] at h1;cases h1;exact hl h2
 | tok r k=>rw[h.1] at hm;cases hm
theorem jF.evolve0 {S S':Sto}{μ μ':Mu}{H H':bX}{w w':World}{id:Nat}{o:AObj}(E:Evo0 S μ H S' μ' H') (h:jF S μ H w id o) (hm:μ' id=μ id)
  (hw:∀b c,μ id=some (b,c)→w'.heap[b]?=w.heap[b]?∧(∀o,S'.cell b o=S.cell b o)∧S'.mapo b=S.mapo b):jF S' μ' H' w' id o:=by
 cases o with
 | var t cells=>
  obtain⟨b,vs,h1,h2,q,g⟩:=h;obtain⟨u,y,A⟩:=hw _ _ h1;exact⟨b,vs,by rw[hm,h1],by rw[u,h2],aP.evolve0 E _ _ q,fun o=>by rw[y,g.1],by rw[A,g.2]⟩
 | arr te es elems fz=>
  obtain⟨h0,⟨h1,h2⟩ | ⟨b,base,cap,vs,h1,h2,q,g,B,I,J,M,O⟩⟩:=h
  ·exact⟨h0,.inl ⟨by rw[hm,h1],h2⟩⟩
  ·obtain⟨u,y,A⟩:=hw _ _ h1;exact⟨h0,.inr ⟨b,base,cap,vs,by rw[hm,h1],by rw[u,h2],q,g,⟨B.1,by rw[A,B.2]⟩,bS.mono E.le _ _ I,fun e o ho=>by rw[y,J e o ho],fun o e=>by rw[y,M o e],fun e=>(O e).mono E.le⟩⟩
 | map agg ents=>
  obtain⟨b,es,clk,h1,h2,q,g⟩:=h;obtain⟨u,y,A⟩:=hw _ _ h1;exact⟨b,es,clk,by rw[hm,h1],by rw[u,h2],wX.mono E.le q,g.of_eq A⟩
 | dead=>exact hm.trans h
 | lp st j i e=>
  obtain⟨b,r,fn,tmps,h1,h2,q,g,B,I⟩:=h;obtain⟨u,y,A⟩:=hw _ _ h1;exact⟨b,r,fn,tmps,by rw[hm,h1],by rw[u,h2],q,fun t v U=>aN.evolve0 E _ _ (g t v U),fun o=>by rw[y,B],by rw[A,I]⟩
 | dfr=>
  obtain⟨b,h1,h2,q,g⟩:=h;obtain⟨u,y,A⟩:=hw _ _ h1;exact⟨b,by rw[hm,h1],by rw[u,h2],fun o=>by rw[y,q],by rw[A,g]⟩
 | rarr te es elems=>
  obtain⟨h0,⟨h1,h2⟩ | ⟨b,base,cap,vs,h1,h2,q,g,B,I,J⟩⟩:=h
  ·exact⟨h0,.inl ⟨by rw[hm,h1],h2⟩⟩
  ·obtain⟨u,y,A⟩:=hw _ _ h1;exact⟨h0,.inr ⟨b,base,cap,vs,by rw[hm,h1],by rw[u,h2],q,g,⟨B.1,by rw[A,B.2]⟩,aP.evolve0 E _ _ I,fun o ho=>by rw[y,J o ho]⟩⟩
 | tok r k=>
  obtain⟨h1,b,h2,m,q,g⟩:=h;obtain⟨Y,B,I⟩:=E.le.2 b m q;exact⟨by rw[hm,h1],b,aY.evolve0 E _ _ h2,Y,B,MK.le_has I g⟩
theorem jF.evolve {S S':Sto}{μ μ':Mu}{H H':bX}{w w':World}{id:Nat}{o:AObj}(E:Evolve S μ H S' μ' H') (h:jF S μ H w id o) (hm:μ' id=μ id)
  (hw:∀b c,μ id=some (b,c)→w'.heap[b]?=w.heap[b]?∧(∀o,S'.cell b o=S.cell b o)∧S'.mapo b=S.mapo b):jF S' μ' H' w' id o:=jF.evolve0 E.weak h hm hw
def upd {α:Type}(f:Nat→Option α) (k:Nat) (x:Option α):Nat→Option α:=fun i=>if Nat.beq i k then x else f i
theorem aH {α:Type}(f:Nat→Option α) (k:Nat) (x:Option α):upd f k x k=x:=by simp[upd]
theorem aW {α:Type}(f:Nat→Option α) (k:Nat) (x:Option α) {i:Nat}(h:i≠k):upd f k x i=f i:=by
 have:Nat.beq i k=false:=by
  cases hb:Nat.beq i k with
  | false=>rfl
  | true=>exact absurd (δ hb) h
 simp[upd,this]
structure WChg (w w':World) (b:Nat) (o:Obj):Prop where
 os:w'.os=w.os
 tape:w'.tape=w.tape
 output:w'.output=w.output
 size:w.heap.size≤w'.heap.size
 new:w'.heap[b]?=some o
 old:∀k,k<w.heap.size→k≠b→w'.heap[k]?=w.heap[k]?
theorem WChg.alloc (w:World) (o:Obj):WChg w (w.alloc o) w.heap.size o:=
 ⟨rfl,rfl,rfl,by simp,Bx w o,fun k g _=>RowKit.Below.heap_alloc w o k g⟩
theorem WChg.alloc_drew (w:World) (o:Obj):WChg w (w.drew.alloc o) w.heap.size o:=
 ⟨rfl,rfl,rfl,by simp,Bx w.drew o,fun k g _=>RowKit.Below.heap_alloc w.drew o k g⟩
theorem WChg.setRow (w:World) (g:Nat) (cur cs:Array Value) (t:TypeId) (q:Nat×Nat) (u:w.heap[g]?=some (.cells cur t q)):WChg w (w.setRow g cs) g (.cells cs t q):=
 ⟨rfl,rfl,rfl,by simp,setRow_heap w g cur cs t q u,fun k _ y=>setRow_other w g k cs y⟩
theorem c9 {w:World}{b:Nat}{x:Obj}(e:w.heap[b]?=some x):b<w.heap.size:=(Bw.1 e).1
theorem Inv.chg {G:Ctx}{S:Sto}{μ:Mu}{H:bX}{w w':World}{id b:Nat}{cap:Nat×Nat}{U:Obj}{ao:AObj}(h:Inv G S μ H w) (hw:WChg w w' b U)
  (hb:w.heap.size≤b∨(∃o c,H id=some o∧μ id=some (b,c)))
  (Y:Evolve S μ H S (upd μ id (some (b,cap))) (upd H id (some ao)))
  (hO:jF S (upd μ id (some (b,cap))) (upd H id (some ao)) w' id ao)
  (hS:∀o v,S.cell b o=some v→∃vs t O,U=.cells vs t O∧vs[o]?=some v) (aa:∀m,S.mapo b=some m→w.heap.size≤b):
  Inv G S (upd μ id (some (b,cap))) (upd H id (some ao)) w':=by
 have I:∀j o,H j=some o→j≠id→∀g c',μ j=some (g,c')→g≠b:=by
  intro j o q ab g c' hm e;subst e;rcases hb with hb | ⟨o',c,h1,h2⟩
  ·have:=(h.obj j o q).lt hm;omega
  ·exact ab (h.inj j id o o' g c' c q h1 hm h2)
 refine⟨⟨?_,?_⟩,?_,?_,?_,?_,h.sle,h.sto,h.evo.trans Y,h.fre⟩
 ·intro g o v e;obtain⟨vs,t,O,h1,h2⟩:=h.holds.1 g o v e;by_cases B:g=b
  ·subst B;obtain⟨vs',t',ac,M,h4⟩:=hS o v e;exact⟨vs',t',ac,by rw[hw.new,M],h4⟩
  ·exact⟨vs,t,O,by rw[hw.old g (c9 h1) B,h1],h2⟩
 ·intro g m e;have h1:=h.holds.2 g m e;obtain⟨_,h2⟩:=MK.holds_some h1;by_cases B:g=b
  ·subst B;have:=aa _ e;have:=c9 h2;omega
  ·rw[hw.old g (c9 h2) B];exact h1
 ·intro j o q;by_cases J:j=id
  ·subst J;rw[aH] at q;cases q;exact hO
  ·rw[aW _ _ _ J] at q;refine(h.obj j o q).evolve Y (aW _ _ _ J) fun g c' hm=>⟨?_,fun _=>rfl,rfl⟩
   exact hw.old g ((h.obj j o q).lt hm) (I j o q J g c' hm)
 ·intro i j o o' g c c' hi q y A;by_cases u:i=id<;>by_cases E:j=id
  ·rw[u,E]
  ·subst u;rw[aH] at y;cases y;rw[aW _ _ _ E] at q A;exact absurd rfl (I j o' q E _ _ A)
  ·subst E;rw[aH] at A;cases A;rw[aW _ _ _ u] at hi y;exact absurd rfl (I i o hi u _ _ y)
  ·rw[aW _ _ _ u] at hi y;rw[aW _ _ _ E] at q A;exact h.inj i j o o' g c c' hi q y A
 ·intro i o g c hi hm;by_cases u:i=id
  ·subst u;rw[aH] at hm;cases hm;rcases hb with hb | ⟨o',c',h1,h2⟩
   ·exact .inl (le_trans h.frame.size hb)
   ·exact h.own _ _ _ _ h1 h2
  ·rw[aW _ _ _ u] at hi hm;exact h.own _ _ _ _ hi hm
 ·refine⟨hw.os.trans h.frame.os,hw.tape.trans h.frame.tape,hw.output.trans h.frame.output,le_trans h.frame.size hw.size,fun k hk hF=>?_,h.frame.tab⟩;rw[hw.old k (A8 hk h.frame.size) ?_,h.frame.block k hk hF];rintro rfl;rcases hb with hb | ⟨o',c',h1,h2⟩
  ·have:=h.frame.size;omega
  ·rcases h.own _ _ _ _ h1 h2 with M | M
   ·omega
   ·exact hF M
theorem Inv.same {G:Ctx}{S:Sto}{μ:Mu}{H:bX}{w w':World}(h:Inv G S μ H w) (hh:w'.heap=w.heap) (ho:w'.os=w.os) (q:w'.tape=w.tape) (hu:w'.output=w.output):Inv G S μ H w':=by
 obtain⟨h1,h2,u,y,g,A,B,E,I⟩:=h;refine⟨⟨fun b o v e=>by rw[hh];exact h1.1 b o v e,fun b m e=>by rw[hh];exact h1.2 b m e⟩,fun id o e=>(h2 id o e).evolve (Evolve.refl _ _ _) rfl fun b c hm=>⟨by rw[hh],fun _=>rfl,rfl⟩,u,y,?_,A,B,E,I⟩;exact⟨ho.trans g.os,q.trans g.tape,hu.trans g.output,by rw[hh];exact g.size,fun k J M=>by rw[hh];exact g.block k J M,g.tab⟩
theorem aDn.cell {S:Sto}{w:World}(h:aDn S w) {b o:Nat}{v:Value}(e:S.cell b o=some v):w.cell? ⟨b,o,none⟩=some v:=by
 obtain⟨vs,t,g,h1,h2⟩:=h.1 b o v e;simp[World.cell?,h1,h2]
structure St where
 e:Nat→Option V
 h:bX
 d:List Nat
def Marks (lo:Nat) (μ:Mu) (H:bX):List Nat→List Deferred→Prop
 | [],ds=>ds=[]
 | id::ids,ds=>∃b c ds',ds={ target:=.collected b,args:= #[] }::ds'∧μ id=some (b,c)∧H id=some .dfr∧lo≤b∧id∉ids∧Marks lo μ H ids ds'
theorem Marks.ren {lo:Nat}{μ μ':Mu}{H H':bX}(σ:Nat→Nat):∀{ids:List Nat}{g:List Deferred},Marks lo μ H (ids.map σ) g→(∀id∈ids,H (σ id)=some .dfr→μ' id=μ (σ id)∧H' id=some .dfr)→Marks lo μ' H' ids g
 | [],_,h,_=>h
 | id::ids,_,⟨b,c,q,h1,h2,u,y,A,B⟩,k=>by
  obtain⟨E,I⟩:=k id (by simp) u;exact⟨b,c,q,h1,by rw[E,h2],I,y,fun h=>A (mem_map.2 ⟨_,h,rfl⟩),Marks.ren σ B fun i hi=>k i (by simp[hi])⟩
theorem Marks.go {lo:Nat}{μ μ':Mu}{H H':bX}{ids:List Nat}{g:List Deferred}(h:Marks lo μ H ids g) (k:∀id∈ids,H id=some .dfr→μ' id=μ id∧H' id=some .dfr):Marks lo μ' H' ids g:=
 Marks.ren (fun i=>i) (by simpa using h) fun id q=>k id q
theorem Marks.evolve {lo:Nat}{S S':Sto}{μ μ':Mu}{H H':bX}(E:Evolve S μ H S' μ' H') {ids:List Nat}{g:List Deferred}(h:Marks lo μ H ids g):Marks lo μ' H' ids g:=
 h.go fun id _ q=>by
  obtain⟨o',h1,h2⟩:=E.obj id _ q;cases o' with
  | dfr=>exact⟨h2,h1⟩
  | _=>simp only[AObj.succ] at h2
structure Sim (G:Ctx) (n:Nat) (S:Sto) (μ:Mu) (st:St) (a:Act) (w:World):Prop where
 inv:Inv G S μ st.h w
 size:a.tmps.size=n
 defers:Marks G.w0.heap.size μ st.h st.d a.defers
 env:∀t v,st.e t=some v→aN S μ st.h v (a.tmps.getD t undef)
theorem aAp (ts:Array Value) (d t:Nat) (v:Value) (g:d<ts.size):(ts.setIfInBounds d v).getD t undef=if t=d then v else ts.getD t undef:=by
 simp only[Ac,A3];by_cases h:d=t
 ·subst h;simp[g]
 ·have:¬t=d:=fun e=>h e.symm
  simp[h,this]
theorem Sim.put {G:Ctx}{n:Nat}{S S':Sto}{μ μ':Mu}{st:St}{H':bX}{a:Act}{w w':World}(h:Sim G n S μ st a w) (hi:Inv G S' μ' H' w') (q:Evolve S μ st.h S' μ' H') {d:Nat}(u:d<n) {v:Value}{x:Option V}
  (A:∀y,x=some y→aN S' μ' H' y v):Sim G n S' μ' ⟨upd st.e d x,H',st.d⟩ (a.put (some d) v) w':=by
 refine⟨hi,by simp[Act.put,h.size],h.defers.evolve q,fun t y e=>?_⟩;show aN S' μ' H' y ((a.tmps.setIfInBounds d v).getD t undef);rw[aAp _ _ _ _ (by rw[h.size];exact u)];by_cases g:t=d
 ·subst g;rw[θ rfl];exact A y (by simpa [aH] using e)
 ·rw[ξ g];have e':st.e t=some y:=by simpa [aW _ _ _ g] using e
  exact aN.evolve q y _ (h.env t y e')
theorem Sim.put_none {G:Ctx}{n:Nat}{S S':Sto}{μ μ':Mu}{st:St}{H':bX}{a:Act}{w w':World}(h:Sim G n S μ st a w) (hi:Inv G S' μ' H' w') (g:Evolve S μ st.h S' μ' H') (v:Value):
  Sim G n S' μ' ⟨st.e,H',st.d⟩ (a.put none v) w':=
 ⟨hi,h.size,h.defers.evolve g,fun t y e=>aN.evolve g y _ (h.env t y e)⟩
structure Rd where
 e:List Nat
 h:List Nat
structure Eff where
 d:Option (Nat×Option V)
 h:List (Nat×Option AObj)
def look {α:Type}:List (Nat×α)→Nat→Option α
 | [],_=>none
 | (k,x)::l,i=>if Nat.beq i k then some x else look l i
def fC (f:bX) (l:List (Nat×Option AObj)):bX:=fun i=>match look l i with | some o=>o | none=>f i
theorem zA (f:bX):fC f []=f:=rfl
theorem bY (f:bX) (id:Nat) (x:Option AObj):fC f [(id,x)]=upd f id x:=by
 funext i;simp only[look,upd,fC];cases Nat.beq i id<;>rfl
def Eff.apply (f:Eff) (st:St):St:=
 {
   e:=match f.d with | some (t,v)=>upd st.e t v | none=>st.e
   h:=fC st.h f.h
   d:=st.d }
def Eff.we (f:Eff):List Nat:=(f.d.map (·.1)).toList
def Eff.wh (f:Eff):List Nat:=f.h.map (·.1)
def fA (rd:Rd) (st st':St):Prop:=(∀t∈rd.e,st'.e t=st.e t)∧(∀i∈rd.h,st'.h i=st.h i)
theorem fA.refl (rd:Rd) (st:St):fA rd st st:=⟨fun _ _=>rfl,fun _ _=>rfl⟩
def Wd (ro:Option Nat):Fence:={ fn:=fun _=>True,depth:=none,alive:=false,round:=ro }
theorem Wd.fenced (P:Program) (ro:Option Nat) (m:Machine):m.fenced P (Wd ro):=fenced_wide P m
theorem Wd.room (ro:Option Nat) (k:Nat):(Wd ro).room k:=fun _ h=>by simp[Wd] at h
theorem Wd.steps {ro:Option Nat}{P:Program}{m g:Machine}:StepsIn (Machine.fenced P (Wd ro)) P m g↔Steps P m g:=
 ⟨StepsIn.steps,fun h=>(StepsIn.of_steps h).mono fun m _=>Wd.fenced P ro m⟩
theorem Wd.comes {ro:Option Nat}{P:Program}{m g:Machine}{e:Ending}:ComesIn (Machine.fenced P (Wd ro)) P m g e↔Comes P m g e:=by
 cases e with
 | returned v=>exact Wd.steps
 | panicked chain=>exact Wd.steps
 | outgrown=>exact Iff.rfl
theorem Wd.calls {ro:Option Nat}{n:Nat}{P:Program}{f:FuncId}{args:Array Value}{w:World}{R:Ending→World→Prop}:CallsIn (Wd ro) n P f args w R↔Calls P f args w R:=
  ⟨fun h cs=>let ⟨e,w',g,r,s,x⟩:=h.2 cs (Wd.room _ _);⟨e,w',g,r,Wd.comes.1 s,x⟩,
   fun h=>⟨trivial,fun cs _=>let ⟨e,w',g,r,s,x⟩:=h cs;⟨e,w',g,r,Wd.comes.2 s,x⟩⟩⟩
theorem lF {P:Program}{o:Oper}{ro:Option Nat}{ρ:Operand→Value}{w w':World}{r:Next}(h:(execOp ρ o).run P w=.ok r w') (g:∀d,r≠ .defer d):(o.semAt ro ρ).run P w=.ok r w':=by
 rw[Oper.semAt_eq]
 ·exact h
 ·intro c hc;rw[execOp,hc] at h;simp only[π] at h;cases hq:(resolve ρ c o.type).run P w with
  | ok d q=>
   rw[hq] at h;simp only[Result.andThen,τ] at h;cases h;exact g _ rfl
  | halt x q=>rw[hq] at h;simp[Result.andThen] at h
section
variable {P:Program}{o:Oper}{ro:Option Nat}{a:Act}{w w':World}{K:Act→World→Prop}{Q:Exit→Act→World→Prop}
theorem eI {v:Value}(g:(execOp a.eval o).run P w=.ok (.value v) w') (h:K (a.put o.dst v) w'):o.wpIn (Wd ro) 0 P a w K Q:=by
 refine⟨fun _ _=>trivial,?_⟩;rw[lF g (by simp),Oper.uponIn_value];exact h
theorem tV (g:(execOp a.eval o).run P w=.ok .skip w') (h:K (a.put o.dst undef) w'):o.wpIn (Wd ro) 0 P a w K Q:=by
 refine⟨fun _ _=>trivial,?_⟩;rw[lF g (by simp),Oper.uponIn_skip];exact h
theorem iL {f:FuncId}{args:Array Value}(q:(execOp a.eval o).run P w=.ok (.enter f args) w')
  (h:Calls P f args w' fun
   | .returned v,g=>K (a.put o.dst v) g
   | .panicked chain,g=>Q (.panic chain) a g
   | .outgrown,_=>LetsOut Q):o.wpIn (Wd ro) 0 P a w K Q:=by
 refine⟨fun _ _=>trivial,?_⟩;rw[lF q (by simp),Oper.uponIn_enter];exact⟨fun h=>by simp[Wd] at h,Wd.calls.2 h⟩
end
def Step (P:Program) (n:Nat) (o:Oper) (st:St) (rd:Rd) (f:Eff):Prop:=
 ∀st',fA rd st st'→∀G S μ a w (K:Act→World→Prop) (Q:Exit→Act→World→Prop),Sim G n S μ st' a w→
  (∀S' μ' a' w',Sim G n S' μ' (f.apply st') a' w'→K a' w')→∀ro,o.wpIn (Wd ro) 0 P a w K Q
def GStep (P:Program) (n:Nat) (ops:Array Oper) (i:Nat) (st:St) (rd:Rd) (f:Eff):Prop:=
 ∀st',fA rd st st'→∀G S μ a w (K:Act→World→Prop) (Q:Exit→Act→World→Prop),Sim G n S μ st' a w→
  (∀S' μ' a' w',Sim G n S' μ' (f.apply st') a' w'→K a' w')→∀ro,wpOpIn (Wd ro) 0 P ops Q i K a w
theorem GStep.plain {P:Program}{n:Nat}{ops:Array Oper}{i:Nat}{o:Oper}{st:St}{rd:Rd}{f:Eff}(ho:ops[i]?=some o) (g:o.guard=none) (h:Step P n o st rd f):GStep P n ops i st rd f:=by
 intro st' ha G S μ a w K Q hs q ro;unfold wpOpIn;simp only[ho];rw[θ (by simp[Region.wanted,g])];exact h st' ha G S μ a w K Q hs q ro
theorem getElem?_of_getD {ts:Array Value}{t:Nat}{b:Bool}(h:ts.getD t undef=.bool b):ts[t]?=some (.bool b):=by
 rw[Ac] at h;cases hq:ts[t]? with
 | none=>simp[hq,undef] at h
 | some v=>simp[hq] at h;rw[h]
theorem GStep.yes {P:Program}{n:Nat}{ops:Array Oper}{i j t:Nat}{want b:Bool}{o:Oper}{st:St}{rd:Rd}{f:Eff}(ho:ops[i]?=some o) (y:o.guard=some (j,want)) (A:(ops[j]?).bind (·.dst)=some t)
  (hb:st.e t=some (.one (.c (.bool b)))) (hw:b=want) (h:Step P n o st rd f):GStep P n ops i st ⟨t::rd.e,rd.h⟩ f:=by
 intro st' ha G S μ a w K Q hs B ro;have g:st'.e t=some (.one (.c (.bool b))):=by rw[ha.1 t (by simp),hb]
 have q:=hs.env t _ g;simp only[aN,aY,Rep] at q;have u:=getElem?_of_getD q;unfold wpOpIn;simp only[ho];rw[θ (by simp[Region.wanted,y,yielded,A,u,hw])];exact h st' ⟨fun t E=>ha.1 t (by simp[E]),ha.2⟩ G S μ a w K Q hs B ro
theorem GStep.no {P:Program}{n:Nat}{ops:Array Oper}{i j t d:Nat}{want b:Bool}{o:Oper}{st:St}(ho:ops[i]?=some o) (I:o.guard=some (j,want)) (J:o.dst=some d) (g:d<n) (M:(ops[j]?).bind (·.dst)=some t)
  {q:Bool} (hb:st.e t=some (.one (.c (.bool b)))) (u:b=q) (hn:q= !want):GStep P n ops i st ⟨[t],[]⟩ ⟨some (d,some (.tup [])),[]⟩:=by
 have hw:b= !want:=u.trans hn;intro st' ha G S μ a w K Q hs O ro;have A:st'.e t=some (.one (.c (.bool b))):=by rw[ha.1 t (by simp),hb]
 have B:=hs.env t _ A;simp only[aN,aY,Rep] at B;have E:=getElem?_of_getD B;unfold wpOpIn;simp only[ho];rw[ξ (by simp[Region.wanted,I,yielded,M,E,hw])];rw[J];refine⟨fun _ _=>trivial,O S μ _ _ ?_⟩;exact hs.put hs.inv (Evolve.refl _ _ _) g (fun y hy=>by cases hy;simp only[aN];exact⟨[],rfl,by simp[aT]⟩)
theorem GStep.un {P:Program}{n:Nat}{ops:Array Oper}{i j t d:Nat}{want:Bool}{o:Oper}{st:St}(ho:ops[i]?=some o) (E:o.guard=some (j,want)) (I:o.dst=some d) (u:d<n) (J:(ops[j]?).bind (·.dst)=some t)
  (hb:st.e t=some (.tup [])):GStep P n ops i st ⟨[t],[]⟩ ⟨some (d,some (.tup [])),[]⟩:=by
 intro st' ha G S μ a w K Q hs M ro;have A:st'.e t=some (.tup []):=by rw[ha.1 t (by simp),hb]
 have g:=hs.env t _ A;simp only[aN] at g;obtain⟨vs,g,q⟩:=g;simp only[aT] at q;subst q;have B:yielded ops a.tmps j=none:=by
  unfold yielded;rw[J];simp only[Option.bind_some];rw[Ac] at g;cases hq:a.tmps[t]? with
  | none=>rfl
  | some v=>rw[hq] at g;simp at g;subst g;rfl
 unfold wpOpIn;simp only[ho];rw[ξ (by simp[Region.wanted,E,B])];rw[I];refine⟨fun _ _=>trivial,M S μ _ _ ?_⟩;exact hs.put hs.inv (Evolve.refl _ _ _) u (fun y hy=>by cases hy;simp only[aN];exact⟨[],rfl,by simp[aT]⟩)
abbrev REs:=List (Rd×Eff)
def c7 (L:Nat→Bool):Nat→REs→St→St
 | _,[],st=>st
 | k,x::xs,st=>c7 L (k+1) xs (bif L k then x.2.apply st else st)
inductive Run (P:Program) (n:Nat) (ops:Array Oper):Nat→St→REs→St→Prop
 | nil {k st}:Run P n ops k st [] st
 | cons {k st rd f xs st'}:GStep P n ops k st rd f→Run P n ops (k+1) (f.apply st) xs st'→Run P n ops k st ((rd,f)::xs) st'
theorem Run.final {P:Program}{n:Nat}{ops:Array Oper}{k:Nat}{st st':St}{xs:REs}(h:Run P n ops k st xs st'):∀L:Nat→Bool,(∀j,k≤j→L j=true)→c7 L k xs st=st':=by
 induction h with
 | nil=>intro L _;rfl
 | cons _ _ q=>
  intro L g;simp only[c7,g _ (le_refl _),Bk];exact q L fun j u=>g j (by omega)
theorem Run.at {P:Program}{n:Nat}{ops:Array Oper}{k:Nat}{st st':St}{xs:REs}(h:Run P n ops k st xs st'):∀(i:Nat) (x:Rd×Eff),xs[i]?=some x→
  GStep P n ops (k+i) (c7 (fun j=>decide (j<k+i)) k xs st) x.1 x.2:=by
 induction h with
 | nil=>intro i x hx;simp at hx
 | @cons k st rd f xs st' A E q=>
  intro i x hx;cases i with
  | zero=>
   simp at hx;subst hx;have B:∀(g:REs) (m:Nat) (s:St),k<m→c7 (fun j=>decide (j<k+0)) m g s=s:=by
    intro g
    induction g with
    | nil=>intro m s _;rfl
    | cons y g q=>
     intro m s hm;simp only[c7];have:decide (m<k+0)=false:=by simp;omega
     rw[this,Bi];exact q (m+1) _ (by omega)
   simp only[c7];have:decide (k<k+0)=false:=by simp
   rw[this,Bi];rw[B xs (k+1) st (by omega)];exact A
  | succ i=>
   simp at hx;have:=q i x hx;simp only[c7];have u:decide (k<k+(i+1))=true:=by simp
   rw[u,Bk];rw[show k+(i+1)=k+1+i by omega];exact this
theorem sN (L:Nat→Bool):∀(xs:REs) (k:Nat) (st:St),(c7 L k xs st).d=st.d
 | [],_,_=>rfl
 | x::xs,k,st=>by
  rw[c7,sN L xs];cases L k<;>rfl
theorem eE (f:Eff) (st:St) {t:Nat}(h:t∉f.we):(f.apply st).e t=st.e t:=by
 unfold Eff.apply Eff.we at *;cases g:f.d with
 | none=>rfl
 | some p=>
  obtain⟨k,v⟩:=p;simp only[g] at h ⊢;exact aW _ _ _ (by simpa using h)
theorem pF {α:Type}:∀{l:List (Nat×α)}{i:Nat},i∉l.map (·.1)→look l i=none
 | [],_,_=>rfl
 | (k,x)::l,i,h=>by
  simp at h;have hb:Nat.beq i k=false:=by
   cases hb:Nat.beq i k with
   | false=>rfl
   | true=>exact absurd (δ hb) h.1
  simp only[look,hb,Aq,Bq];exact pF (by simpa using h.2)
theorem bZ {α:Type}:∀{l:List (Nat×α)}{i:Nat},i∈l.map (·.1)→∃x,look l i=some x
 | [],_,h=>by simp at h
 | (k,x)::l,i,h=>by
  by_cases hb:Nat.beq i k=true
  ·exact⟨x,by simp[look,hb]⟩
  ·have g:i≠k:=fun e=>hb (by subst e;simp)
   simp at hb;simp only[look];obtain⟨y,hy⟩:=bZ (l:=l) (i:=i) (by simpa [g] using h);exact⟨y,by simp[hb,hy]⟩
theorem eD (f:Eff) (st:St) {i:Nat}(h:i∉f.wh):(f.apply st).h i=st.h i:=by
 unfold Eff.apply Eff.wh at *;simp only[fC,pF h]
theorem nL (f:Eff) (st st':St) {t:Nat}(h:t∈f.we):(f.apply st).e t=(f.apply st').e t:=by
 unfold Eff.apply Eff.we at *;cases g:f.d with
 | none=>simp[g] at h
 | some p=>
  obtain⟨k,v⟩:=p;simp only[g] at h ⊢;simp at h;subst h;simp[aH]
theorem nK (f:Eff) (st st':St) {i:Nat}(h:i∈f.wh):(f.apply st).h i=(f.apply st').h i:=by
 unfold Eff.apply Eff.wh at *;obtain⟨x,hx⟩:=bZ h;simp only[fC,hx]
theorem nD (t:Nat):∀(xs:REs) (k:Nat) (L L':Nat→Bool) (st st':St),st.e t=st'.e t→(∀i x,xs[i]?=some x→L (k+i)≠L' (k+i)→t∉x.2.we)→(c7 L k xs st).e t=(c7 L' k xs st').e t:=by
 intro xs
 induction xs with
 | nil=>intro k L L' st st' h _;exact h
 | cons x xs q=>
  intro k L L' st st' h hx;simp only[c7];refine q (k+1) L L' _ _ ?_ fun i y hy u=>hx (i+1) y (by simpa using hy) (by rwa [show k+(i+1)=k+1+i by omega])
  have h0:=hx 0 x rfl;simp only[Ck] at h0;by_cases g:L k=L' k
  ·rw[g];cases L' k
   ·exact h
   ·by_cases hw:t∈x.2.we
    ·exact nL _ _ _ hw
    ·simp only[Bk];rw[eE _ _ hw,eE _ _ hw,h]
  ·have hw:=h0 g;cases L k<;>cases L' k<;>simp only[Bk,Bi,eE _ _ hw,h]
theorem nC (t:Nat):∀(xs:REs) (k:Nat) (L L':Nat→Bool) (st st':St),st.h t=st'.h t→(∀i x,xs[i]?=some x→L (k+i)≠L' (k+i)→t∉x.2.wh)→(c7 L k xs st).h t=(c7 L' k xs st').h t:=by
 intro xs
 induction xs with
 | nil=>intro k L L' st st' h _;exact h
 | cons x xs q=>
  intro k L L' st st' h hx;simp only[c7];refine q (k+1) L L' _ _ ?_ fun i y hy u=>hx (i+1) y (by simpa using hy) (by rwa [show k+(i+1)=k+1+i by omega])
  have h0:=hx 0 x rfl;simp only[Ck] at h0;by_cases g:L k=L' k
  ·rw[g];cases L' k
   ·exact h
   ·by_cases hw:t∈x.2.wh
    ·exact nK _ _ _ hw
    ·simp only[Bk];rw[eD _ _ hw,eD _ _ hw,h]
  ·have hw:=h0 g;cases L k<;>cases L' k<;>simp only[Bk,Bi,eD _ _ hw,h]
theorem vF (L:Nat→Bool) (m:Nat) (f:Eff):∀(xs:REs) (k:Nat) (rd:Rd) (st:St),k≤m→xs[m-k]?=some (rd,f)→L m=false→
  (∀i x,xs[i]?=some x→L (k+i)=true→m<k+i→(∀t∈f.we,t∉x.2.we)∧(∀t∈f.wh,t∉x.2.wh))→
  c7 (fun j=>L j || Nat.beq j m) k xs st=f.apply (c7 L k xs st):=by
 have tail:∀(xs:REs) (k:Nat) (st:St),m<k→(∀i x,xs[i]?=some x→L (k+i)=true→(∀t∈f.we,t∉x.2.we)∧(∀t∈f.wh,t∉x.2.wh))→
   c7 (fun j=>L j || Nat.beq j m) k xs (f.apply st)=f.apply (c7 L k xs st):=by
  intro xs
  induction xs with
  | nil=>intro k st _ _;rfl
  | cons x xs B=>
   intro k st J hx;simp only[c7];have hb:Nat.beq k m=false:=by
    cases hb:Nat.beq k m with
    | false=>rfl
    | true=>have:=δ hb;omega
   rw[hb,Bool.or_false];have h0:=hx 0 x rfl;simp only[Ck] at h0;have u:∀i y,xs[i]?=some y→L (k+1+i)=true→(∀t∈f.we,t∉y.2.we)∧(∀t∈f.wh,t∉y.2.wh):=fun i y hy hl=>hx (i+1) y (by simpa using hy) (by rwa [show k+(i+1)=k+1+i by omega])
   cases M:L k with
   | false=>simp only[Bi];exact B (k+1) st (by omega) u
   | true=>
    simp only[Bk];obtain⟨h1,h2⟩:=h0 M;have hc:x.2.apply (f.apply st)=f.apply (x.2.apply st):=by
     have he:(x.2.apply (f.apply st)).e=(f.apply (x.2.apply st)).e:=funext fun t=>by
      by_cases q:t∈f.we
      ·rw[eE _ _ (h1 t q)];exact nL _ _ _ q
      ·rw[eE f _ q];by_cases g:t∈x.2.we
       ·exact nL _ _ _ g
       ·rw[eE _ _ g,eE _ _ g,eE _ _ q]
     have hh:(x.2.apply (f.apply st)).h=(f.apply (x.2.apply st)).h:=funext fun t=>by
      by_cases q:t∈f.wh
      ·rw[eD _ _ (h2 t q)];exact nK _ _ _ q
      ·rw[eD f _ q];by_cases g:t∈x.2.wh
       ·exact nK _ _ _ g
       ·rw[eD _ _ g,eD _ _ g,eD _ _ q]
     cases O:x.2.apply (f.apply st);cases hB:f.apply (x.2.apply st);have A:(x.2.apply (f.apply st)).d=(f.apply (x.2.apply st)).d:=rfl;simp only[O,hB] at he hh A;rw[he,hh,A]
    rw[hc];exact B (k+1) _ (by omega) u
 intro xs
 induction xs with
 | nil=>intro k rd st _ hx;simp at hx
 | cons x xs B=>
  intro k rd st J hx hm A;simp only[c7];by_cases E:k=m
  ·subst E;simp at hx;subst hx;have hb:Nat.beq k k=true:=by simp
   rw[hb,hm,Bool.or_true];simp only[Bk,Bi];exact tail xs (k+1) st (by omega) fun i y hy hl=>A (i+1) y (by simpa using hy) (by rwa [show k+(i+1)=k+1+i by omega]) (by omega)
  ·have hb:Nat.beq k m=false:=by
    cases hb:Nat.beq k m with
    | false=>rfl
    | true=>exact absurd (δ hb) E
   rw[hb,Bool.or_false];have I:xs[m-(k+1)]?=some (rd,f):=by
    rw[show m-k=(m-(k+1))+1 by omega] at hx;simpa using hx
   exact B (k+1) rd _ (by omega) I hm fun i y hy hl U=>A (i+1) y (by simpa using hy) (by rwa [show k+(i+1)=k+1+i by omega]) (by omega)
def aTb:List Nat→List Nat→List Nat
 | [],acc=>acc
 | x::l,acc=>if acc.any (Nat.beq x) then aTb l acc else aTb l (x::acc)
def dd (l:List Nat):List Nat:=aTb l []
theorem sU:∀(l acc:List Nat) (x:Nat),x∈aTb l acc→x∈l∨x∈acc
 | [],_,_,h=>.inr h
 | y::l,acc,x,h=>by
  simp only[aTb] at h;split at h
  ·rcases sU l acc x h with h | h
   ·exact .inl (by simp[h])
   ·exact .inr h
  ·rcases sU l (y::acc) x h with h | h
   ·exact .inl (by simp[h])
   ·rcases Au.1 h with rfl | h
    ·exact .inl (by simp)
    ·exact .inr h
theorem aGh {l:List Nat}{x:Nat}(h:x∈dd l):x∈l:=(sU l [] x h).resolve_right (by simp)
def xO:List Oper→List (List Nat)→List (List Nat)
 | [],acc=>acc
 | o::os,acc=>xO os (acc++[dd (o.after.toList.flatMap fun e=>if Region.binds .any e then e.on::(acc.getD e.on []) else [])])
def preds (ops:Array Oper):List (List Nat):=xO ops.toList []
def aTa (a b:List Nat):Bool:=a.all fun x=>!(b.contains x)
def indep (x y:Rd×Eff):Bool:=aTa x.2.we (y.1.e++y.2.we)&&aTa x.2.wh (y.1.h++y.2.wh)&&aTa y.2.we x.1.e&&aTa y.2.wh x.1.h
def oK (ps:List Nat) (y:Rd×Eff):Nat→REs→Bool
 | _,[]=>true
 | i,x::xs=>(ps.contains i || indep x y)&&oK ps y (i+1) xs
def cK:List (List Nat)→REs→REs→Bool
 | p::ps,y::ys,done=>oK p y 0 done&&cK ps ys (done++[y])
 | _,[],_=>true
 | [],_::_,_=>false
def dM (ops:Array Oper):Bool:=ops.toList.zipIdx.all fun(o,i)=>o.after.toList.all fun e=>!Region.binds .any e || decide (e.on<i)
theorem cY {a b:List Nat}(h:aTa a b=true):∀t∈a,t∉b:=by
 intro t g hb;have:=Bc.1 h t g;simp at this;exact this hb
theorem tN {ps:List Nat}{y:Rd×Eff}:∀(xs:REs) (k:Nat),oK ps y k xs=true→∀i x,xs[i]?=some x→k+i∈ps∨indep x y=true:=by
 intro xs
 induction xs with
 | nil=>intro k _ i x hx;simp at hx
 | cons z xs g=>
  intro k h i x hx;simp only[oK,ε,Bool.or_eq_true] at h;cases i with
  | zero=>simp at hx;subst hx;simpa using h.1
  | succ i=>
   simp at hx;have:=g (k+1) h.2 i x hx;rwa [show k+(i+1)=k+1+i by omega]
theorem hY:∀(ps:List (List Nat)) (g done:REs),cK ps g done=true→∀j y,g[j]?=some y→∃p,ps[j]?=some p∧∀i x,i<done.length+j→(done++g)[i]?=some x→i∈p∨indep x y=true:=by
 intro ps
 induction ps with
 | nil=>
  intro g done h j y hy;cases g with
  | nil=>simp at hy
  | cons _ _=>simp[cK] at h
 | cons p ps B=>
  intro g done h j y hy;cases g with
  | nil=>simp at hy
  | cons z g=>
   simp only[cK,ε] at h;cases j with
   | zero=>
    simp at hy;subst hy;refine⟨p,rfl,fun i x hi hx=>?_⟩;have A:i<done.length:=by omega
    rw[A5 A] at hx;simpa using tN done 0 h.1 i x hx
   | succ j=>
    simp at hy;obtain⟨q,hq,u⟩:=B g (done++[z]) h.2 j y hy;refine⟨q,by simpa using hq,fun i x hi hx=>u i x (by simp;omega) (by simpa using hx)⟩
theorem nO (L:Nat→Bool):∀(os:List Oper) (acc:List (List Nat)),(∀i p,acc[i]?=some p→L i=true→∀j∈p,L j=true)→
  (∀i o,os[i]?=some o→L (acc.length+i)=true→∀e∈o.after.toList,Region.binds .any e=true→L e.on=true)→
  ∀i p,(xO os acc)[i]?=some p→L i=true→∀j∈p,L j=true:=by
 intro os
 induction os with
 | nil=>intro acc h _;exact h
 | cons o os I=>
  intro acc h ho;refine I _ ?_ ?_
  ·intro i p hp hl j u;by_cases hi:i<acc.length
   ·rw[A5 hi] at hp;exact h i p hp hl j u
   ·rw[A9 (by omega)] at hp;have A:i-acc.length=0:=by
     rcases Nat.eq_zero_or_pos (i-acc.length) with h0 | h0
     ·exact h0
     ·rw[List.getElem?_eq_none (by simp;omega)] at hp;cases hp
    have B:i=acc.length:=by omega
    rw[A] at hp;simp at hp;subst hp;have u:=aGh u;simp only[List.mem_flatMap] at u;obtain⟨e,he,g⟩:=u;split at g
    ·rename_i hb;have y:=ho 0 o rfl (by simpa [B] using hl) e he hb;simp only[Au] at g;rcases g with rfl | g
     ·exact y
     ·cases hq:acc[e.on]? with
      | none=>simp[hq] at g
      | some q=>
       simp[hq] at g;exact h e.on q hq y j g
    ·simp at g
  ·intro i o' E hl;exact ho (i+1) o' (by simpa using E) (by simpa [add_assoc,Nat.add_comm 1 i] using hl)
def rJ (ops:Array Oper) (listed:Array Bool):Prop:=∀(i:Nat) (o:Oper),ops[i]?=some o→listed.getD i false=true→∀e∈o.after.toList,Region.binds .any e=true→listed.getD e.on false=true
theorem gJ {l:Array Bool}{i:Nat}(h:i<l.size):l.getD i true=l.getD i false:=by simp[h]
theorem n8 {ops:Array Oper}{g:Array Bool}(hl:g.size=ops.size) {i:Nat}(h:i∈Region.ready .any ops g):
  i<ops.size∧g.getD i false=false∧∀o,ops[i]?=some o→∀e∈o.after.toList,Region.binds .any e=true→g.getD e.on false=true:=by
 simp only[Region.ready,mem_filter,mem_range,ε,Bm] at h;obtain⟨h1,h2,q⟩:=h;refine⟨h1,by rwa [←gJ (by omega)],fun o ho e he hb=>?_⟩;simp only[ho,B1,Option.getD_some] at q;have:=(Array.all_eq_true_iff_forall_mem.1 q) e (by simpa using he);simpa [hb] using this
theorem aEl {P:Program}{n:Nat}{ops:Array Oper}{G:Ctx}{st st':St}{xs:REs}{Q:Exit→Act→World→Prop}(hr:Run P n ops 0 st xs st') (hlen:xs.length=ops.size)
  (hap:cK (preds ops) xs []=true) (hed:dM ops=true)
  (hQ:∀S' μ' a' w',Sim G n S' μ' st' a' w'→Q .normal a' w'):
  ∀(fuel:Nat) (listed:Array Bool),listed.size=ops.size→((List.range ops.size).filter fun i=>!listed.getD i false).length=fuel→rJ ops listed→
   ∀S μ a w,Sim G n S μ (c7 (fun j=>listed.getD j false) 0 xs st) a w→∀ro,wpAnyIn (Wd ro) 0 P .any ops Q fuel listed a w:=by
 have ab:∀(listed:Array Bool),listed.size=ops.size→Region.ready .any ops listed=[]→∀S μ a w,Sim G n S μ (c7 (fun j=>listed.getD j false) 0 xs st) a w→Q .normal a w:=by
  intro listed hl I S μ a w hs;have hall:∀i,i<ops.size→listed.getD i false=true:=by
   intro i
   induction i using Nat.strongRecOn with
   | _ i ih=>
    intro hi;cases hc:listed.getD i false with
    | true=>rfl
    | false=>
     exfalso;have:i∈Region.ready .any ops listed:=by
      simp only[Region.ready,mem_filter,mem_range,ε,Bm];refine⟨hi,by rw[gJ (by omega)];exact hc,?_⟩;have ho:ops[i]?=some ops[i]:=by simp[hi]
      simp only[ho,B1,Option.getD_some];refine Array.all_eq_true_iff_forall_mem.2 fun e he=>?_
      have hlt:=(Bc.1 hed) (ops[i],i) (by
       rw[List.mem_iff_getElem?]
       exact⟨i,by simp[hi]⟩)
      have u:=(Bc.1 hlt) e (by simpa using he);simp only[Bool.or_eq_true,Bm,As] at u ⊢;rcases u with u | u
      ·exact .inl u
      ·exact .inr (ih e.on u (by omega))
     rw[I] at this;simp at this
  have he:c7 (fun j=>listed.getD j false) 0 xs st=st':=by
   rw[←hr.final (fun _=>true) (fun _ _=>rfl)];have key:∀i x,xs[i]?=some x→listed.getD (0+i) false≠true→False:=by
    intro i x hx g;have hi:i<xs.length:=(Af.1 hx).1
    exact g (by rw[Ba];exact hall i (by omega))
   have e1:(c7 (fun j=>listed.getD j false) 0 xs st).e=(c7 (fun _=>true) 0 xs st).e:=funext fun t=>nD t xs 0 _ _ _ _ rfl fun i x hx g=>(key i x hx g).elim
   have e2:(c7 (fun j=>listed.getD j false) 0 xs st).h=(c7 (fun _=>true) 0 xs st).h:=funext fun t=>nC t xs 0 _ _ _ _ rfl fun i x hx g=>(key i x hx g).elim
   cases hA:c7 (fun j=>listed.getD j false) 0 xs st;cases hB:c7 (fun _=>true) 0 xs st;simp only[hA,hB] at e1 e2;have e3:(c7 (fun j=>listed.getD j false) 0 xs st).d=(c7 (fun _=>true) 0 xs st).d:=by rw[sN,sN]
   simp only[hA,hB] at e3;rw[e1,e2,e3]
  rw[he] at hs;exact hQ S μ a w hs
 intro fuel
 induction fuel with
 | zero=>
  intro listed hl hf _ S μ a w hs;have I:Region.ready .any ops listed=[]:=by
   rw[List.eq_nil_iff_forall_not_mem];intro i hi;obtain⟨h1,h2,_⟩:=n8 hl hi;have:i∈(List.range ops.size).filter fun i=>!listed.getD i false:=by simp only[mem_filter,mem_range,Bm];exact⟨h1,h2⟩
   rw[Ap hf] at this;simp at this
  exact fun _=>⟨I,ab listed hl I S μ a w hs⟩
 | succ fuel ih=>
  intro listed hl hf hcl S μ a w hs ro;refine⟨fun I=>ab listed hl I S μ a w hs,fun i hi=>?_⟩;obtain⟨h1,h2,h3⟩:=n8 hl hi;have hx:xs[i]?=some xs[i]:=by simp[hlen,h1]
  have ho:ops[i]?=some ops[i]:=by simp[h1]
  have ac:rJ ops (listed.setIfInBounds i true):=by
   intro j o B A e he hb;simp only[Ac,A3] at A ⊢;have ad:listed.getD e.on false=true→(if i=e.on then if i<listed.size then some true else none else listed[e.on]?).getD false=true:=by
    intro hh;split
    ·simp[hl,h1]
    ·rwa [Ac] at hh
   by_cases Y:i=j
   ·subst Y;exact ad (h3 o B e he hb)
   ·rw[ξ Y] at A;exact ad (hcl j o B (by rwa [Ac]) e he hb)
  have hpd:∀(L:Array Bool),rJ ops L→∀k p,(preds ops)[k]?=some p→L.getD k false=true→∀j∈p,L.getD j false=true:=by
   intro L hL k p hp E;refine nO (fun j=>L.getD j false) ops.toList [] (by simp) ?_ k p hp E;intro k' o ho' hl' e he hb;exact hL k' o (by simpa using ho') (by simpa using hl') e he hb
  have M:(listed.setIfInBounds i true).getD i false=true:=by simp[hl,h1]
  have hold:∀j,j≠i→(listed.setIfInBounds i true).getD j false=listed.getD j false:=by
   intro j B;simp only[Ac,A3];rw[ξ (fun e=>B e.symm)]
  have hdis1:∀j y,xs[j]?=some y→j<i→listed.getD j false=false→indep y xs[i]=true:=by
   intro j y hy hji A;obtain⟨p,hp,O⟩:=hY _ _ _ hap i _ hx;rcases O j y (by simpa using hji) (by simpa using hy) with hm | hm
   ·have:=hpd _ ac i p hp M j hm;rw[hold j (by omega)] at this;rw[this] at A;cases A
   ·exact hm
  have aa:∀j y,xs[j]?=some y→i<j→listed.getD j false=true→indep xs[i] y=true:=by
   intro j y hy Y A;obtain⟨p,hp,O⟩:=hY _ _ _ hap j _ hy;rcases O i xs[i] (by simpa using Y) (by simp) with hm | hm
   ·have:=hpd _ hcl j p hp A i hm;rw[this] at h2;cases h2
   ·exact hm
  have hg:=hr.at i _ hx;simp only[Ba] at hg;have hag:fA xs[i].1 (c7 (fun j=>decide (j<i)) 0 xs st) (c7 (fun j=>listed.getD j false) 0 xs st):=by
   have key:∀k x,xs[k]?=some x→listed.getD (0+k) false≠decide (0+k<i)→(∀t∈xs[i].1.e,t∉x.2.we)∧(∀t∈xs[i].1.h,t∉x.2.wh):=by
    intro k x E g;rw[Ba] at g;by_cases ae:k<i
    ·have J:listed.getD k false=false:=by
      cases hc:listed.getD k false with
      | false=>rfl
      | true=>simp[hc,ae] at g
     have U:=hdis1 k x E ae J;simp only[indep,ε] at U;obtain⟨⟨⟨d1,d2⟩,d3⟩,d4⟩:=U;exact⟨fun t q hw=>cY d1 t hw (by simp[q]),fun t q hw=>cY d2 t hw (by simp[q])⟩
    ·by_cases hke:k=i
     ·subst hke;rw[h2] at g;simp at g
     ·have J:listed.getD k false=true:=by
       cases hc:listed.getD k false with
       | true=>rfl
       | false=>simp[hc,ae] at g
      have U:=aa k x E (by omega) J;simp only[indep,ε] at U;obtain⟨⟨⟨d1,d2⟩,d3⟩,d4⟩:=U;exact⟨fun t q hw=>cY d3 t hw q,fun t q hw=>cY d4 t hw q⟩
   exact⟨fun t q=>nD t xs 0 _ _ _ _ rfl fun k x E g=>(key k x E g).1 t q,fun t q=>nC t xs 0 _ _ _ _ rfl fun k x E g=>(key k x E g).2 t q⟩
  refine hg _ hag G S μ a w _ Q hs (fun S' μ' a' w' hs'=>?_) ro;refine ih (listed.setIfInBounds i true) (by simp[hl]) ?_ ac S' μ' a' w' ?_ ro
  ·--one fewer is left
   have:∀(l:List Nat),l.Nodup→i∈l→((l.filter fun j=>!listed.getD j false).length=((l.filter fun j=>!(listed.setIfInBounds i true).getD j false).length)+1):=by
    intro l
    induction l with
    | nil=>intro _ h;simp at h
    | cons b l ihl=>
     intro hnd hmem;have af:=(nodup_cons.1 hnd)
     by_cases hb:b=i
     ·subst hb;have hno:∀j∈l,(!(listed.setIfInBounds b true).getD j false)=(!listed.getD j false):=fun j B=>by rw[hold j (fun e=>af.1 (e▸B))]
      rw[Cf,Cf,h2,M];simp only[Bool.not_false,Cg,Bool.not_true,Aq,Bq,Aa];rw[List.filter_congr hno]
     ·have hm':i∈l:=(Au.1 hmem).resolve_left fun e=>hb e.symm
      have:=ihl af.2 hm';rw[Cf,Cf,hold b hb];split
      ·simp only[Aa];omega
      ·exact this
   have:=this (List.range ops.size) List.nodup_range (by simpa using h1);omega
  ·have hadd:=vF (fun j=>listed.getD j false) i xs[i].2 xs 0 xs[i].1 st (Ad _) (by rw[sub_zero,hx]) h2 (by
    intro k x E J hik;rw[Ba] at J hik;have U:=aa k x E hik J;simp only[indep,ε] at U;obtain⟨⟨⟨d1,d2⟩,d3⟩,d4⟩:=U
    exact⟨fun t q hw=>cY d1 t q (by simp[hw]),fun t q hw=>cY d2 t q (by simp[hw])⟩)
   rw[←hadd] at hs';have hfe:(fun j=>(listed.setIfInBounds i true).getD j false)=fun j=>listed.getD j false || Nat.beq j i:=funext fun j=>by
    by_cases B:j=i
    ·subst B;rw[M];simp
    ·rw[hold j B];have hb:Nat.beq j i=false:=by
      cases hb:Nat.beq j i with
      | false=>rfl
      | true=>exact absurd (δ hb) B
     rw[hb,Bool.or_false]
   rw[hfe];exact hs'
def aGm:Value→Option C
 | .int k n=>some (.int k n)
 | .bool b=>some (.bool b)
 | .string ⟨⟨l⟩⟩=>some (.str l)
 | .slice none 0 0=>some .nl
 | .pointer none=>some .np
 | .map none=>some (.zv 0)
 | .nilFunc=>some (.zv 1)
 | .nilIface=>some (.zv 2)
 | _=>none
def vT:List Value→Option (List C)
 | []=>some []
 | v::vs=>(aGm v).bind fun c=>(vT vs).bind fun cs=>some (c::cs)
def aGl:Value→Option V
 | .int k n=>some (.one (.c (.int k n)))
 | .bool b=>some (.one (.c (.bool b)))
 | .string s=>some (.one (.c (.str s.data.toList)))
 | .slice none 0 0=>some (.one (.c .nl))
 | .pointer none=>some (.one (.c .np))
 | .map none=>some (.one (.c (.zv 0)))
 | .nilFunc=>some (.one (.c (.zv 1)))
 | .nilIface=>some (.one (.c (.zv 2)))
 | .agg vs=>(vT vs.toList).bind fun cs=>some (.pa cs)
 | _=>none
def opv (st:St):Operand→Option V
 | .tmp t=>st.e t
 | .const v=>aGl v
 | .func f=>some (.one (.clo f []))
 | .global _=>none
def opr:Operand→List Nat
 | .tmp t=>[t]
 | _=>[]
theorem aCz {S:Sto}{v:Value}{c:C}(h:aGm v=some c):Rep S c v:=by
 unfold aGm at h;split at h<;>first | (cases h;simp[Rep,aQ5];done) | cases h
theorem rA {S:Sto}:∀{vs:List Value}{cs:List C},vT vs=some cs→bS S cs vs
 | [],cs,h=>by cases h;rw[bS]
 | v::vs,cs,h=>by
  rw[vT] at h;obtain⟨c,h1,h⟩:=Ab.1 h;obtain⟨cs',h2,h⟩:=Ab.1 h;cases h;rw[bS];exact⟨v,vs,rfl,aCz h1,rA h2⟩
theorem aCy {S:Sto}{μ:Mu}{H:bX}{v:Value}{x:V}(h:aGl v=some x):aN S μ H x v:=by
 unfold aGl at h;split at h<;>first | (cases h;simp[aN,aY,Rep,aQ5];done) | cases h | skip
 obtain⟨cs,h1,h⟩:=Ab.1 h;cases h;have:=rA (S:=S) h1;rw[aN];exact⟨_,rfl,this⟩
theorem aK {G:Ctx}{n:Nat}{S:Sto}{μ:Mu}{st st':St}{a:Act}{w:World}{x:Operand}{v:V}(hs:Sim G n S μ st' a w) (h:opv st x=some v) (ha:∀t∈opr x,st'.e t=st.e t):aN S μ st'.h v (a.eval x):=by
 cases x with
 | tmp t=>exact hs.env t v (by rw[ha t (by simp[opr])];exact h)
 | const u=>exact aCy h
 | func f=>simp[opv] at h;subst h;simp[aN,aY,aP,Act.eval]
 | global g=>simp[opv] at h
section
variable {P:Program}{n:Nat}{o:Oper}{st:St}{d:Nat}
theorem Step.value {rd:Rd}{y:V}(q:o.dst=some d) (g:d<n)
  (h:∀st',fA rd st st'→∀G S μ a w,Sim G n S μ st' a w→∃v,(execOp a.eval o).run P w=.ok (.value v) w∧aN S μ st'.h y v):Step P n o st rd ⟨some (d,some y),[]⟩:=by
 intro st' ha G S μ a w K Q hs u;obtain⟨v,A,B⟩:=h st' ha G S μ a w hs;refine fun ro=>eI A ?_
 rw[q];exact u S μ _ _ (hs.put hs.inv (Evolve.refl _ _ _) g fun z E=>by cases E;exact B)
theorem aEs {x:Operand}{y:V}(ho:o.op=.move x) (q:o.dst=some d) (g:d<n) (hx:opv st x=some y):Step P n o st ⟨opr x,[]⟩ ⟨some (d,some y),[]⟩:=
 Step.value q g fun _ ha _ _ _ a _ hs=>⟨a.eval x,by simp[execOp,ho],aK hs hx ha.1⟩
theorem aJs {x:Operand}{y:V}(ho:o.op=.assign x) (q:o.dst=some d) (g:d<n) (hx:opv st x=some y):Step P n o st ⟨opr x,[]⟩ ⟨some (d,some y),[]⟩:=
 Step.value q g fun _ ha _ _ _ a _ hs=>⟨a.eval x,by simp[execOp,ho],aK hs hx ha.1⟩
theorem dL {S:Sto}{μ:Mu}{H:bX}{k:IntKind}{m:Int}{v:Value}(h:aN S μ H (.one (.c (.int k m))) v):v=.int k m:=by simpa [aN,aY,Rep] using h
theorem gY {S:Sto}{μ:Mu}{H:bX}{b:Bool}{v:Value}(h:aN S μ H (.one (.c (.bool b))) v):v=.bool b:=by simpa [aN,aY,Rep] using h
theorem jW {S:Sto}{μ:Mu}{H:bX}{b:List UInt8}{v:Value}(h:aN S μ H (.one (.c (.str b))) v):v=.string ⟨⟨b⟩⟩:=by simpa [aN,aY,Rep] using h
abbrev I (k:IntKind) (m:Int):V:=.one (.c (.int k m))
abbrev B (b:Bool):V:=.one (.c (.bool b))
abbrev T (s:List UInt8):V:=.one (.c (.str s))
theorem cR {x y:Operand}{st':St}(ha:fA ⟨opr x++opr y,[]⟩ st st'):(∀t∈opr x,st'.e t=st.e t)∧(∀t∈opr y,st'.e t=st.e t):=
 ⟨fun t h=>ha.1 t (by simp[h]),fun t h=>ha.1 t (by simp[h])⟩
theorem dK {op:BinOp}{g ty:TypeId}{x y:Operand}{k:IntKind}{a b:Int}{z:V}(ho:o.op=.binOp op g x y ty) (u:o.dst=some d) (q:d<n) (hx:opv st x=some (I k a)) (hy:opv st y=some (I k b))
  (A:∀w:World,∃v,(binOp op g (.int k a) (.int k b)).run P w=.ok v w∧∀S μ H,aN S μ H z v):Step P n o st ⟨opr x++opr y,[]⟩ ⟨some (d,some z),[]⟩:=by
 refine Step.value u q fun _ ha _ _ _ ac w hs=>?_
 have h1:=dL (aK hs hx (cR ha).1);have h2:=dL (aK hs hy (cR ha).2);obtain⟨v,B,E⟩:=A w;refine⟨v,?_,E _ _ _⟩;simp only[execOp,ho,h1,h2,π];have:(eqGuard op g x y (.int k a) (.int k b)).run P w=.ok () w:=by
  unfold eqGuard;split<;>rfl
 rw[this];simp only[ζ,B,τ]
theorem aOh {q ty:TypeId}{x y:Operand}{k:IntKind}{a b r:Int}(ho:o.op=.binOp .add q x y ty) (u:o.dst=some d) (g:d<n) (hx:opv st x=some (I k a)) (hy:opv st y=some (I k b)) (A:k.wrap (a+b)=r):
  Step P n o st ⟨opr x++opr y,[]⟩ ⟨some (d,some (I k r)),[]⟩:=
 dK ho u g hx hy fun w=>⟨.int k r,by simp[binOp,Op.intArith,A],fun _ _ _=>by simp[aN,aY,Rep]⟩
theorem aN7 {q ty:TypeId}{x y:Operand}{k:IntKind}{a b r:Int}(ho:o.op=.binOp .sub q x y ty) (u:o.dst=some d) (g:d<n) (hx:opv st x=some (I k a)) (hy:opv st y=some (I k b)) (A:k.wrap (a-b)=r):
  Step P n o st ⟨opr x++opr y,[]⟩ ⟨some (d,some (I k r)),[]⟩:=
 dK ho u g hx hy fun w=>⟨.int k r,by simp[binOp,Op.intArith,A],fun _ _ _=>by simp[aN,aY,Rep]⟩
theorem aOa {q ty:TypeId}{x y:Operand}{k:IntKind}{a b r:Int}(ho:o.op=.binOp .mul q x y ty) (u:o.dst=some d) (g:d<n) (hx:opv st x=some (I k a)) (hy:opv st y=some (I k b)) (A:k.wrap (a*b)=r):
  Step P n o st ⟨opr x++opr y,[]⟩ ⟨some (d,some (I k r)),[]⟩:=
 dK ho u g hx hy fun w=>⟨.int k r,by simp[binOp,Op.intArith,A],fun _ _ _=>by simp[aN,aY,Rep]⟩
theorem aVi {q ty:TypeId}{x y:Operand}{k:IntKind}{a b r:Int}(ho:o.op=.binOp .quo q x y ty) (u:o.dst=some d) (g:d<n) (hx:opv st x=some (I k a)) (hy:opv st y=some (I k b)) (hb:b≠0) (A:k.wrap (a.tdiv b)=r):
  Step P n o st ⟨opr x++opr y,[]⟩ ⟨some (d,some (I k r)),[]⟩:=
 dK ho u g hx hy fun w=>⟨.int k r,by simp[binOp,Op.intDiv,hb,A],fun _ _ _=>by simp[aN,aY,Rep]⟩
theorem aVh {q ty:TypeId}{x y:Operand}{k:IntKind}{a b r:Int}(ho:o.op=.binOp .rem q x y ty) (u:o.dst=some d) (g:d<n) (hx:opv st x=some (I k a)) (hy:opv st y=some (I k b)) (hb:b≠0) (A:a.tmod b=r):
  Step P n o st ⟨opr x++opr y,[]⟩ ⟨some (d,some (I k r)),[]⟩:=
 dK ho u g hx hy fun w=>⟨.int k r,by simp[binOp,Op.intDiv,hb,A],fun _ _ _=>by simp[aN,aY,Rep]⟩
theorem aVo {q ty:TypeId}{x y:Operand}{k:IntKind}{a b:Int}(ho:o.op=.binOp .lss q x y ty) (u:o.dst=some d) (g:d<n) (hx:opv st x=some (I k a)) (hy:opv st y=some (I k b)):
  Step P n o st ⟨opr x++opr y,[]⟩ ⟨some (d,some (B (decide (a<b)))),[]⟩:=
 dK ho u g hx hy fun w=>⟨.bool (decide (a<b)),by simp[binOp,Op.intCmp],fun _ _ _=>by simp[aN,aY,Rep]⟩
theorem aVp {q ty:TypeId}{x y:Operand}{k:IntKind}{a b:Int}(ho:o.op=.binOp .leq q x y ty) (u:o.dst=some d) (g:d<n) (hx:opv st x=some (I k a)) (hy:opv st y=some (I k b)):
  Step P n o st ⟨opr x++opr y,[]⟩ ⟨some (d,some (B (decide (a≤b)))),[]⟩:=
 dK ho u g hx hy fun w=>⟨.bool (decide (a≤b)),by simp[binOp,Op.intCmp],fun _ _ _=>by simp[aN,aY,Rep]⟩
theorem aVq {q ty:TypeId}{x y:Operand}{k:IntKind}{a b:Int}(ho:o.op=.binOp .gtr q x y ty) (u:o.dst=some d) (g:d<n) (hx:opv st x=some (I k a)) (hy:opv st y=some (I k b)):
  Step P n o st ⟨opr x++opr y,[]⟩ ⟨some (d,some (B (decide (b<a)))),[]⟩:=
 dK ho u g hx hy fun w=>⟨.bool (decide (b<a)),by simp[binOp,Op.intCmp],fun _ _ _=>by simp[aN,aY,Rep]⟩
theorem aVr {q ty:TypeId}{x y:Operand}{k:IntKind}{a b:Int}(ho:o.op=.binOp .geq q x y ty) (u:o.dst=some d) (g:d<n) (hx:opv st x=some (I k a)) (hy:opv st y=some (I k b)):
  Step P n o st ⟨opr x++opr y,[]⟩ ⟨some (d,some (B (decide (b≤a)))),[]⟩:=
 dK ho u g hx hy fun w=>⟨.bool (decide (b≤a)),by simp[binOp,Op.intCmp],fun _ _ _=>by simp[aN,aY,Rep]⟩
theorem aVs {q ty:TypeId}{x y:Operand}{k:IntKind}{a b:Int}(ho:o.op=.binOp .eql q x y ty) (u:o.dst=some d) (g:d<n) (hx:opv st x=some (I k a)) (hy:opv st y=some (I k b)):
  Step P n o st ⟨opr x++opr y,[]⟩ ⟨some (d,some (B (decide (a=b)))),[]⟩:=
 dK ho u g hx hy fun w=>⟨.bool (decide (a=b)),by simp[binOp,Op.intCmp];rfl,fun _ _ _=>by simp[aN,aY,Rep]⟩
theorem aVk {q ty:TypeId}{x y:Operand}{k:IntKind}{a b:Int}(ho:o.op=.binOp .neq q x y ty) (u:o.dst=some d) (g:d<n) (hx:opv st x=some (I k a)) (hy:opv st y=some (I k b)):
  Step P n o st ⟨opr x++opr y,[]⟩ ⟨some (d,some (B (!decide (a=b)))),[]⟩:=
 dK ho u g hx hy fun w=>⟨.bool (!decide (a=b)),by simp[binOp,Op.intCmp];rfl,fun _ _ _=>by simp[aN,aY,Rep]⟩
theorem lY {op:BinOp}{g ty:TypeId}{x y:Operand}{a b:List UInt8}{z:V}(ho:o.op=.binOp op g x y ty) (A:o.dst=some d) (q:d<n) (hx:opv st x=some (T a)) (hy:opv st y=some (T b))
  (B:∀w:World,∃v,(Op.stringOp op ⟨⟨a⟩⟩ ⟨⟨b⟩⟩).run P w=.ok v w∧∀S μ H,aN S μ H z v) (u:∀w:World,(binOp op g (.string ⟨⟨a⟩⟩) (.string ⟨⟨b⟩⟩)).run P w=(Op.stringOp op ⟨⟨a⟩⟩ ⟨⟨b⟩⟩).run P w):Step P n o st ⟨opr x++opr y,[]⟩ ⟨some (d,some z),[]⟩:=by
 refine Step.value A q fun _ ha _ _ _ ac w hs=>?_
 have h1:=jW (aK hs hx (cR ha).1);have h2:=jW (aK hs hy (cR ha).2);obtain⟨v,E,I⟩:=B w;refine⟨v,?_,I _ _ _⟩;simp only[execOp,ho,h1,h2,π];have:(eqGuard op g x y (.string ⟨⟨a⟩⟩) (.string ⟨⟨b⟩⟩)).run P w=.ok () w:=by
  unfold eqGuard;split<;>rfl
 rw[this];simp only[ζ,u,E,τ]
theorem gH (a:List UInt8):(ByteArray.mk ⟨a⟩).toList=a:=by rw[ByteArray.toList_eq]
theorem aRz {q ty:TypeId}{x y:Operand}{a b:List UInt8}(ho:o.op=.binOp .eql q x y ty) (u:o.dst=some d) (g:d<n) (hx:opv st x=some (T a)) (hy:opv st y=some (T b)):
  Step P n o st ⟨opr x++opr y,[]⟩ ⟨some (d,some (B (decide (a=b)))),[]⟩:=
 lY ho u g hx hy (fun w=>⟨.bool (decide (a=b)),by simp only[Op.stringOp,gH,τ];congr 2;exact(Bool.beq_eq_decide_eq a b),fun _ _ _=>by simp[aN,aY,Rep]⟩) fun _=>rfl
theorem aRx {q ty:TypeId}{x y:Operand}{a b:List UInt8}(ho:o.op=.binOp .neq q x y ty) (u:o.dst=some d) (g:d<n) (hx:opv st x=some (T a)) (hy:opv st y=some (T b)):
  Step P n o st ⟨opr x++opr y,[]⟩ ⟨some (d,some (B (!decide (a=b)))),[]⟩:=
 lY ho u g hx hy (fun w=>⟨.bool (!decide (a=b)),by simp only[Op.stringOp,gH,τ];rw[Bool.beq_eq_decide_eq a b],fun _ _ _=>by simp[aN,aY,Rep]⟩) fun _=>rfl
theorem aR1 {q ty:TypeId}{x y:Operand}{a b:List UInt8}(ho:o.op=.binOp .add q x y ty) (u:o.dst=some d) (g:d<n) (hx:opv st x=some (T a)) (hy:opv st y=some (T b)) (hl:a.length+b.length≤maxLen):
  Step P n o st ⟨opr x++opr y,[]⟩ ⟨some (d,some (T (a++b))),[]⟩:=
 lY ho u g hx hy (fun w=>⟨.string ⟨⟨a++b⟩⟩,by
  have h1:(ByteArray.mk ⟨a⟩).size=a.length:=rfl;have h2:(ByteArray.mk ⟨b⟩).size=b.length:=rfl;have A:¬(((ByteArray.mk ⟨a⟩).size+(ByteArray.mk ⟨b⟩).size:Nat):Int)>IntKind.i64.max:=by
   rw[h1,h2];simp only[IntKind.max,IntKind.signed];unfold maxLen at hl;simp[IntKind.bits];omega
  have B:(ByteArray.mk ⟨a⟩)++(ByteArray.mk ⟨b⟩)=(⟨⟨a++b⟩⟩:ByteArray):=by
   apply ByteArray.ext;simp
  simp only[Op.stringOp];rw[ξ A,B]
  rfl,fun _ _ _=>by simp[aN,aY,Rep]⟩) fun _=>rfl
theorem aRy {q ty:TypeId}{x y:Operand}{a b:List UInt8}(ho:o.op=.binOp .lss q x y ty) (u:o.dst=some d) (g:d<n) (hx:opv st x=some (T a)) (hy:opv st y=some (T b)):
  Step P n o st ⟨opr x++opr y,[]⟩ ⟨some (d,some (B (Op.bytesLess a b))),[]⟩:=
 lY ho u g hx hy (fun w=>⟨.bool (Op.bytesLess a b),by simp only[Op.stringOp,gH,τ],fun _ _ _=>by simp[aN,aY,Rep]⟩) fun _=>rfl
theorem aVj {t:TypeId}{x:Operand}{b:Bool}(ho:o.op=.unOp .not t x) (q:o.dst=some d) (g:d<n) (hx:opv st x=some (B b)):Step P n o st ⟨opr x,[]⟩ ⟨some (d,some (B (!b))),[]⟩:=by
 refine Step.value q g fun _ ha _ _ _ ac w hs=>?_
 have h1:=gY (aK hs hx ha.1);exact⟨.bool (!b),by simp[execOp,ho,h1,Op.unary],by simp[aN,aY,Rep]⟩
theorem aVl {t:TypeId}{x:Operand}{k:IntKind}{a r:Int}(ho:o.op=.unOp .neg t x) (u:o.dst=some d) (g:d<n) (hx:opv st x=some (I k a)) (q:k.wrap (0-a)=r):Step P n o st ⟨opr x,[]⟩ ⟨some (d,some (I k r)),[]⟩:=by
 refine Step.value u g fun _ ha _ _ _ ac w hs=>?_
 have h1:=dL (aK hs hx ha.1);refine⟨.int k r,?_,by simp[aN,aY,Rep]⟩;simp only[Int.zero_sub] at q;simp[execOp,ho,h1,Op.unary,Op.intArith,q]
theorem aJk {c x y:Operand}{b:Bool}{z:V}(ho:o.op=.pick c x y) (q:o.dst=some d) (g:d<n) (hc:opv st c=some (B b)) (hb:b=true) (hx:opv st x=some z):Step P n o st ⟨opr c++opr x,[]⟩ ⟨some (d,some z),[]⟩:=by
 refine Step.value q g fun _ ha _ _ _ ac w hs=>?_
 have h1:=gY (aK hs hc (cR ha).1);subst hb;exact⟨ac.eval x,by simp[execOp,ho,h1,asBool],aK hs hx (cR ha).2⟩
theorem aJl {c x y:Operand}{b:Bool}{z:V}(ho:o.op=.pick c x y) (q:o.dst=some d) (g:d<n) (hc:opv st c=some (B b)) (hb:b=false) (hy:opv st y=some z):Step P n o st ⟨opr c++opr y,[]⟩ ⟨some (d,some z),[]⟩:=by
 refine Step.value q g fun _ ha _ _ _ ac w hs=>?_
 have h1:=gY (aK hs hc (cR ha).1);subst hb;exact⟨ac.eval y,by simp[execOp,ho,h1,asBool],aK hs hy (cR ha).2⟩
theorem aE1 {x:Operand}{i:Nat}{l:List V}{z:V}(ho:o.op=.extract x i) (q:o.dst=some d) (g:d<n) (hx:opv st x=some (.tup l)) (hi:l[i]?=some z):Step P n o st ⟨opr x,[]⟩ ⟨some (d,some z),[]⟩:=by
 refine Step.value q g fun st' ha _ S μ ac w hs=>?_
 have h1:=aK hs hx ha.1;simp only[aN] at h1;obtain⟨vs,h1,h2⟩:=h1;have:∀(l:List V) (vs:List Value) (i:Nat),aT S μ st'.h l vs→l[i]?=some z→∃v,vs[i]?=some v∧aN S μ st'.h z v:=by
  intro l
  induction l with
  | nil=>intro vs i _ h;simp at h
  | cons r rs u=>
   intro vs i h hi;simp only[aT] at h;obtain⟨v,vs',rfl,h1,h2⟩:=h;cases i with
   | zero=>simp at hi;subst hi;exact⟨v,rfl,h1⟩
   | succ i=>simp at hi;simpa using u vs' i h2 hi
 obtain⟨v,y,A⟩:=this l vs i h2 hi;refine⟨v,?_,A⟩;simp[execOp,ho,h1,Instr.extract,y]
end
inductive TK where
 | bool | int (k:IntKind) | str | pt (e:TypeId) | sl (e:TypeId) | mp (k e:TypeId) | fn
 | st (fs:List (Nat×TypeId)) | ar (m:Nat) (e:TypeId)
 deriving DecidableEq,Inhabited
structure TI where
 k:TK
 size:Nat
 bytes:Nat
 zero:List C
 deriving Inhabited
abbrev TT:=List (Option TI)
def aGo:C→Value→Bool
 | .int k n,.int k' n'=>k==k'&&n==n'
 | .bool b,.bool b'=>b==b'
 | .str s,.string t=>s==t.data.toList
 | .nl,.slice none 0 0=>true
 | .np,.pointer none=>true
 | .zv 0,.map none=>true
 | .zv 1,.nilFunc=>true
 | .zv 2,.nilIface=>true
 | _,_=>false
def pQ:List C→List Value→Bool
 | [],[]=>true
 | c::cs,v::vs=>aGo c v&&pQ cs vs
 | _,_=>false
def TK.fits:TK→TypeDesc→Bool
 | .bool,.bool=>true
 | .int k,.int k'=>k==k'
 | .str,.string=>true
 | .pt e,.pointer e'=>e==e'
 | .sl e,.slice e'=>e==e'
 | .mp k e,.map k' e'=>k==k'&&e==e'
 | .fn,.func _ _ _=>true
 | .st fs,.struct fields=>fs==fields.toList.map fun f=>(f.offset,f.type)
 | .ar m e,.array m' e'=>m==m'&&e==e'
 | _,_=>false
def TK.agg:TK→Bool
 | .st _=>true
 | .ar _ _=>true
 | _=>false
def TI.check (P:Program) (t:TypeId) (i:TI):Bool:=
 match P.info? t,P.underlying t with
 | some inf,some d=>(inf.size==i.size&&(i.zero.length==i.size&&(i.k.agg || i.size==1)))&&inf.bytes==i.bytes&&i.k.fits d&&
   (match inf.zero with | some z=>pQ i.zero z.cells.toList&&(match i.k.agg,z with | true,.agg _=>true | true,_=>false | false,.agg _=>false | false,_=>true) | none=>false)
 | _,_=>false
def TT.check (P:Program) (T:TT):Bool:=T.zipIdx.all fun(i,t)=>match i with | some i=>i.check P t | none=>true
theorem aC0 {S:Sto}{c:C}{v:Value}(h:aGo c v=true):Rep S c v:=by
 unfold aGo at h;split at h<;>simp_all [Rep,aQ5]
theorem fY {S:Sto}:∀{c:List C}{v:List Value},pQ c v=true→bS S c v
 | [],[],_=>by simp[bS]
 | c::cs,v::vs,h=>by
  simp only[pQ,ε] at h;simp only[bS];exact⟨v,vs,rfl,aC0 h.1,fY h.2⟩
 | [],_::_,h=>by simp[pQ] at h
 | _::_,[],h=>by simp[pQ] at h
def Tok (P:Program) (T:TT):Prop:=TT.check P T=true
structure TIok (P:Program) (t:TypeId) (i:TI):Prop where
 ex:∃inf d z,P.info? t=some inf∧P.underlying t=some d∧inf.size=i.size∧inf.bytes=i.bytes∧i.k.fits d=true∧inf.zero=some z∧pQ i.zero z.cells.toList=true∧(z=if i.k.agg then .agg z.cells else z)∧(i.k.agg=false→∃u,z.cells= #[u]∧z=u)
 len:i.zero.length=i.size
 one:i.k.agg=false→i.size=1
theorem Tok.get {P:Program}{T:TT}(h:Tok P T) {t:TypeId}{i:TI}(hi:T[t]?=some (some i)):TIok P t i:=by
 unfold Tok TT.check at h
 have:=(Bc.1 h) (some i,t) (by
  rw[List.mem_iff_getElem?]
  exact⟨t,by simp[List.getElem?_zipIdx,hi]⟩)
 simp only[TI.check] at this;split at this
 ·rename_i inf d h1 h2;simp only[ε,beq_iff_eq] at this;obtain⟨⟨⟨⟨u,hl,ho⟩,y⟩,A⟩,g⟩:=this;split at g
  ·rename_i z B;simp only[ε] at g;obtain⟨g,E⟩:=g;refine⟨⟨inf,d,z,h1,h2,u,y,A,B,g,?_,?_⟩,hl,fun q=>by simpa [q] using ho⟩
   ·cases q:i.k.agg with
    | false=>simp
    | true=>
     cases z<;>simp_all [Value.cells]
   ·intro q;cases z<;>simp_all [Value.cells]
  ·cases g
 ·cases this
theorem TIok.size_run {P:Program}{t:TypeId}{i:TI}(h:TIok P t i) (w:World):(sizeOf t).run P w=.ok i.size w:=by
 obtain⟨inf,d,z,h1,h2,g,q,u,y,A,B⟩:=h.ex;simp[sizeOf,typeInfo,h1,g]
theorem TIok.zero_run {P:Program}{t:TypeId}{i:TI}(h:TIok P t i):∃z,(∀w:World,(zeroValue t).run P w=.ok z w)∧(∀S,bS S i.zero z.cells.toList)∧(z=if i.k.agg then .agg z.cells else z)∧(i.k.agg=false→∃u,z.cells= #[u]∧z=u):=by
 obtain⟨inf,d,z,h1,h2,A,B,E,g,q,y⟩:=h.ex;exact⟨z,fun w=>by simp[zeroValue,typeInfo,h1,g],fun S=>fY q,y⟩
theorem TIok.agg_run {P:Program}{t:TypeId}{i:TI}(h:TIok P t i) (w:World):(isAgg t).run P w=.ok i.k.agg w:=by
 obtain⟨inf,d,z,h1,h2,u,y,g,A,B,E⟩:=h.ex;unfold isAgg;rw[π,Ah h2 w];simp only[ζ];cases q:i.k<;>rw[q] at g<;>cases d<;>simp[TK.fits] at g<;>rfl
theorem TIok.slice {P:Program}{t e:TypeId}{i:TI}(h:TIok P t i) (q:i.k=.sl e):P.underlying t=some (.slice e):=by
 obtain⟨inf,d,z,h1,h2,u,y,g,A,B,E⟩:=h.ex;rw[q] at g;cases d<;>simp[TK.fits] at g;rw[h2,g]
theorem TIok.array {P:Program}{t e:TypeId}{m:Nat}{i:TI}(h:TIok P t i) (q:i.k=.ar m e):P.underlying t=some (.array m e):=by
 obtain⟨inf,d,z,h1,h2,u,y,g,A,B,E⟩:=h.ex;rw[q] at g;cases d<;>simp[TK.fits] at g;rw[h2,g.1,g.2]
theorem TIok.str {P:Program}{t:TypeId}{i:TI}(h:TIok P t i) (q:i.k=.str):P.underlying t=some .string:=by
 obtain⟨inf,d,z,h1,h2,u,y,g,A,B,E⟩:=h.ex;rw[q] at g;cases d<;>simp[TK.fits] at g;rw[h2]
theorem TIok.int {P:Program}{t:TypeId}{k:IntKind}{i:TI}(h:TIok P t i) (q:i.k=.int k):P.underlying t=some (.int k):=by
 obtain⟨inf,d,z,h1,h2,u,y,g,A,B,E⟩:=h.ex;rw[q] at g;cases d<;>simp[TK.fits] at g;rw[h2,g]
theorem TIok.bool {P:Program}{t:TypeId}{i:TI}(h:TIok P t i) (q:i.k=.bool):P.underlying t=some .bool:=by
 obtain⟨inf,d,z,h1,h2,u,y,g,A,B,E⟩:=h.ex;rw[q] at g;cases d<;>simp[TK.fits] at g;rw[h2]
theorem TIok.ptr {P:Program}{t e:TypeId}{i:TI}(h:TIok P t i) (q:i.k=.pt e):P.underlying t=some (.pointer e):=by
 obtain⟨inf,d,z,h1,h2,u,y,g,A,B,E⟩:=h.ex;rw[q] at g;cases d<;>simp[TK.fits] at g;rw[h2,g]
theorem TIok.map {P:Program}{t k e:TypeId}{i:TI}(h:TIok P t i) (q:i.k=.mp k e):P.underlying t=some (.map k e):=by
 obtain⟨inf,d,z,h1,h2,u,y,g,A,B,E⟩:=h.ex;rw[q] at g;cases d<;>simp[TK.fits] at g;rw[h2,g.1,g.2]
theorem TIok.struct {P:Program}{t:TypeId}{fs:List (Nat×TypeId)}{i:TI}(h:TIok P t i) (q:i.k=.st fs):∃fields,P.underlying t=some (.struct fields)∧fs=fields.toList.map fun f=>(f.offset,f.type):=by
 obtain⟨inf,d,z,h1,h2,u,y,g,A,B,E⟩:=h.ex;rw[q] at g;cases d<;>simp[TK.fits] at g;exact⟨_,h2,g⟩
theorem TIok.info {P:Program}{t:TypeId}{i:TI}(h:TIok P t i):(P.info? t).map (·.size)=some i.size:=by
 obtain⟨inf,d,z,h1,h2,g,q,u,y,A,B⟩:=h.ex;simp[h1,g]
theorem aP.length {S:Sto}{μ:Mu}{H:bX}:∀{c:List R}{v:List Value},aP S μ H c v→v.length=c.length
 | [],_,k=>by simp only[aP] at k;subst k;rfl
 | _::cs,_,k=>by
  simp only[aP] at k;obtain⟨v,vs',rfl,_,h⟩:=k;simp[aP.length h]
theorem aP.get {S:Sto}{μ:Mu}{H:bX}:∀{c:List R}{v:List Value},aP S μ H c v→∀(i:Nat) (x:R),c[i]?=some x→∃u,v[i]?=some u∧aY S μ H x u
 | [],_,_,i,x,h=>by simp at h
 | c::cs,_,k,i,x,h=>by
  simp only[aP] at k;obtain⟨v,vs',rfl,h1,h2⟩:=k;cases i with
  | zero=>simp at h;subst h;exact⟨v,rfl,h1⟩
  | succ i=>simp at h;simpa using h2.get i x h
theorem aP.append {S:Sto}{μ:Mu}{H:bX}:∀{a:List R}{x:List Value}{b:List R}{y:List Value},aP S μ H a x→aP S μ H b y→aP S μ H (a++b) (x++y)
 | [],_,_,_,h,k=>by simp only[aP] at h;subst h;simpa using k
 | _::_,_,_,_,h,k=>by
  simp only[aP,A4] at h ⊢;obtain⟨v,vs',rfl,h1,h2⟩:=h;exact⟨v,vs'++_,rfl,h1,h2.append k⟩
theorem aP.take {S:Sto}{μ:Mu}{H:bX}:∀{a:List R}{x:List Value}(n:Nat),aP S μ H a x→aP S μ H (a.take n) (x.take n)
 | _,_,0,_=>by simp[aP]
 | [],_,n+1,h=>by simp only[aP] at h;subst h;simp[aP]
 | _::_,_,n+1,h=>by
  simp only[aP,Az] at h ⊢;obtain⟨v,vs',rfl,h1,h2⟩:=h;exact⟨v,vs'.take n,by simp,h1,h2.take n⟩
theorem aP.drop {S:Sto}{μ:Mu}{H:bX}:∀{a:List R}{x:List Value}(n:Nat),aP S μ H a x→aP S μ H (a.drop n) (x.drop n)
 | _,_,0,h=>by simpa using h
 | [],_,n+1,h=>by simp only[aP] at h;subst h;simp[aP]
 | _::_,_,n+1,h=>by
  simp only[aP,Cj] at h ⊢;obtain⟨v,vs',rfl,h1,h2⟩:=h;simpa using h2.drop n
theorem bS.toR {S:Sto}{μ:Mu}{H:bX}:∀{c:List C}{v:List Value},bS S c v→aP S μ H (c.map R.c) v
 | [],_,k=>by simp only[bS] at k;subst k;simp[aP]
 | c::cs,_,k=>by
  simp only[bS] at k;obtain⟨v,vs',rfl,h1,h2⟩:=k;simp only[Be,aP];exact⟨v,vs',rfl,by simpa [aY] using h1,h2.toR⟩
def gT:List R→Option (List C)
 | []=>some []
 | .c x::l=>match gT l with | some l'=>some (x::l') | none=>none
 | _::_=>none
theorem lZ:∀{rs:List R}{l:List C},gT rs=some l→rs=l.map R.c
 | [],l,h=>by simp[gT] at h;subst h;rfl
 | .c x::rs,l,h=>by
  simp only[gT] at h;split at h
  ·rename_i l' hl;cases h;simp[lZ hl]
  ·cases h
 | .hs ..::_,_,h=>by simp[gT] at h
 | .tl ..::_,_,h=>by simp[gT] at h
 | .vp ..::_,_,h=>by simp[gT] at h
 | .ep ..::_,_,h=>by simp[gT] at h
 | .mr ..::_,_,h=>by simp[gT] at h
 | .clo ..::_,_,h=>by simp[gT] at h
 | .mth ..::_,_,h=>by simp[gT] at h
 | .yl ..::_,_,h=>by simp[gT] at h
 | .ra ..::_,_,h=>by simp[gT] at h
 | .rp ..::_,_,h=>by simp[gT] at h
 | .ras ..::_,_,h=>by simp[gT] at h
 | .pas ..::_,_,h=>by simp[gT] at h
theorem aP.pure {S:Sto}{μ:Mu}{H:bX}:∀{l:List C}{v:List Value},aP S μ H (l.map R.c) v→bS S l v
 | [],_,k=>by simp only[map_nil,aP] at k;subst k;simp[bS]
 | c::cs,_,k=>by
  simp only[Be,aP] at k;obtain⟨v,vs',rfl,h1,h2⟩:=k;simp only[bS];exact⟨v,vs',rfl,by simpa [aY] using h1,h2.pure⟩
def aRh (rs:List R):V:=match gT rs with | some l=>.pa l | none=>.ma rs
theorem aBu {S:Sto}{μ:Mu}{H:bX}{rs:List R}{vs:List Value}(h:aP S μ H rs vs):aN S μ H (aRh rs) (.agg ⟨vs⟩):=by
 unfold aRh;split
 ·rename_i l hl;rw[lZ hl] at h;simp only[aN];exact⟨vs,rfl,h.pure⟩
 ·simp only[aN];exact⟨vs,rfl,h⟩
def fO:V→Option (List R)
 | .one r=>some [r]
 | .pa l=>some (l.map R.c)
 | .ma l=>some l
 | .tup _=>none
theorem Rep.one {S:Sto}:∀{c:C}{v:Value},Rep S c v→v.cells= #[v]∧v.oneCell'=true:=by
 intro c v h;cases c<;>simp only[Rep] at h
 case zv k=>subst h;unfold aQ5;split<;>exact⟨rfl,rfl⟩
 case sl=>obtain⟨a,len,cap,rfl,_⟩:=h;exact⟨rfl,rfl⟩
 case sg=>obtain⟨a,len,cap,rfl,_⟩:=h;exact⟨rfl,rfl⟩
 case sn=>obtain⟨b,o,sp,len,cap,rfl,_⟩:=h;exact⟨rfl,rfl⟩
 case pt=>obtain⟨b,o,rfl,_⟩:=h;exact⟨rfl,rfl⟩
 case mp=>obtain⟨b,es,clk,rfl,_⟩:=h;exact⟨rfl,rfl⟩
 case clo=>obtain⟨vs,rfl,_⟩:=h;exact⟨rfl,rfl⟩
 case any=>exact h
 all_goals (subst h;exact⟨rfl,rfl⟩)
theorem aY.one {S:Sto}{μ:Mu}{H:bX}:∀{r:R}{v:Value},aY S μ H r v→v.cells= #[v]∧v.oneCell'=true:=by
 intro r v h;cases r<;>simp only[aY] at h
 case c x=>exact h.one
 case hs=>obtain⟨⟨a,l,c,rfl⟩,_⟩:=h;exact⟨rfl,rfl⟩
 case tl=>obtain⟨⟨a,l,c,rfl⟩,_⟩:=h;exact⟨rfl,rfl⟩
 case vp=>obtain⟨t,cells,b,c,_,_,rfl⟩:=h;exact⟨rfl,rfl⟩
 case ep=>obtain⟨⟨a,rfl⟩,_⟩:=h;exact⟨rfl,rfl⟩
 case mr=>obtain⟨agg,ents,b,c,_,_,rfl⟩:=h;exact⟨rfl,rfl⟩
 case clo=>obtain⟨vs,rfl,_⟩:=h;exact⟨rfl,rfl⟩
 case mth=>obtain⟨u,rfl,_⟩:=h;exact⟨rfl,rfl⟩
 case yl=>obtain⟨st,j,i,e,b,c,_,_,rfl⟩:=h;exact⟨rfl,rfl⟩
 case ra=>obtain⟨⟨a,l,c,rfl⟩,_⟩:=h;exact⟨rfl,rfl⟩
 case rp=>obtain⟨⟨a,rfl⟩,_⟩:=h;exact⟨rfl,rfl⟩
 case ras=>obtain⟨a,cap,rfl,_⟩:=h;exact⟨rfl,rfl⟩
 case pas=>obtain⟨b,o,rfl,_⟩:=h;exact⟨rfl,rfl⟩
theorem aP.one {S:Sto}{μ:Mu}{H:bX}:∀{rs:List R}{vs:List Value},aP S μ H rs vs→∀v∈vs,v.oneCell'=true
 | [],_,h=>by simp only[aP] at h;subst h;simp
 | _::_,_,h=>by
  simp only[aP] at h;obtain⟨v,vs',rfl,h1,h2⟩:=h;intro u hu;rcases Au.1 hu with rfl | hu
  ·exact h1.one.2
  ·exact h2.one u hu
theorem dB {S:Sto}{μ:Mu}{H:bX}{x:V}{v:Value}{rs:List R}(h:aN S μ H x v) (hc:fO x=some rs):aP S μ H rs v.cells.toList:=by
 cases x<;>simp only[fO] at hc
 case one r=>
  cases hc;simp only[aN] at h;rw[h.one.1];simp only[aP];exact⟨v,[],rfl,h,rfl⟩
 case pa l=>
  cases hc;simp only[aN] at h;obtain⟨vs,rfl,h⟩:=h;exact h.toR
 case ma l=>
  cases hc;simp only[aN] at h;obtain⟨vs,rfl,h⟩:=h;exact h
 case tup=>cases hc
end Go.AM
