/-
  Texts Am21 to Ax5 in one.
-/
import Derived.Test.YtockgoadliilhaaGreatDoorM3
import Derived.ProofKit
import Derived.SizedLaws
import Derived.OpenShut
import Derived.Carry
import Derived.Laws.BytesArg
open List (append_assoc append_nil drop_drop drop_take drop_zero eq_nil_of_length_eq_zero flatten_append flatten_cons length_append length_cons length_drop length_nil length_take mapM_cons map_cons map_nil map_toArray mem_append mem_cons mem_of_mem_take mem_or_eq_of_mem_set nil_append range_succ set_eq_take_append_cons_drop size_toArray take_append_of_le_length take_left' take_of_length_le take_take)
open Nat (add_assoc add_mul add_zero eq_of_beq_eq_true le_of_ble_eq_true le_refl le_trans min_eq_left mul_le_mul_left mul_le_mul_right mul_one sub_zero zero_add zero_le)
namespace Go.AM
open Go
theorem fL.of {α:Type}{p:α→Prop}:∀{l:List α},(∀x∈l,p x)→fL p l
 | [],_=>trivial
 | x::l,h=>⟨h x (by simp),fL.of fun y u=>h y (by simp[u])⟩
def uK (W:World):Sto:=
 ⟨fun b o=>match W.heap[b]? with | some (.cells vs _ _)=>vs[o]? | _=>none,fun b=>match W.heap[b]? with | some (.map es clk)=>some (.all es clk) | _=>none⟩
theorem aKd (W:World):Holds (uK W) W:=by
 refine⟨fun b o v h=>?_,fun b mk h=>?_⟩
 ·simp only[uK] at h;split at h
  ·rename_i vs t fr u;exact⟨vs,t,fr,u,h⟩
  ·cases h
 ·simp only[uK] at h;split at h
  ·rename_i u;cases h;exact u
  ·cases h
theorem aTk (W:World):(uK W).noTop:=fun b m e=>by
 simp only[uK] at e;split at e
 ·cases e;exact⟨_,_,rfl⟩
 ·cases e
theorem aOj (W:World):(uK W).free:=fun b te lo hi e=>by
 obtain⟨_,_,h⟩:=aTk W b _ e;cases h
theorem aB5 {W:World}{a:Addr}{v:Value}(h:W.cell? a=some v):(uK W).cell a.block a.off=some v:=by
 unfold World.cell? at h;simp only[uK];split at h
 ·rename_i u;rw[u];split at h
  ·cases h
  ·exact h
 ·cases h
theorem aOz {P:Program}{f:FuncId}{args:List V}{vals:List Value}{res:V}(h:aU P f args [] res []) (W:World) (hv:c6 (uK W) (fun _=>none) (look []) args vals) (ht:aUz W:=by first | assumption | (intro g h;cases h)):
  Calls P f ⟨vals⟩ W fun e W'=>∃v S μ,e=.returned v∧RowKit.Below W.heap.size W W'∧bE S μ (look []) res v:=by
 have I:Inv ⟨W,uK W,wA (fun _=>none) (look []),fun _=>none,look []⟩ (uK W) (fun _=>none) (look []) W:=
  ⟨aKd W,(fun _ _ h=>by cases h),(fun _ _ _ _ _ _ _ h=>by cases h),(fun _ _ _ _ h=>by cases h),FrameW.refl _ _ ⟨ht,fun g _ ⟨_,_,_,h,_⟩=>by cases h⟩,Sto.le_refl _,fun _ _ _=>⟨fun _=>rfl,rfl⟩,Evolve.refl _ _ _,aOj W⟩
 refine(h (uK W) (fun _=>none) W vals I hv).mono ?_;rintro e W' ⟨S',μ',v,he,u,J⟩;refine⟨v,S',μ',he,⟨u.frame.os,u.frame.tape,u.frame.output,u.frame.size,fun k hk=>u.frame.block k hk ?_⟩,J⟩;rintro⟨id,o,c,h1,_⟩;cases h1
theorem aZw {S:Sto}{μ:Mu}{H:dC}{b:Bool}{v:Value}(h:bE S μ H (B b) v):v=.bool b:=by simpa [bE,bL,Rep] using h
def jN (l:List Int):List (List C):=l.map fun m=>[.int .i64 m]
theorem aG5 {W:World}{a:Addr}{len cap:Nat}{l:List Int}(hs:cap≠0→a.spot=none) (hl:l.length=len) (hc:len≤cap) (hm:cap≤maxLen) (u:∀i,i<len→W.cell? (a.add i)=some (.int .i64 (l.getD i 0))):
  Rep (uK W) (.sl 1 (jN l)) (.slice (some a) len cap):=by
 simp only[Rep];refine⟨some a,len,cap,rfl,by simp[jN,hl],hc,hm,(by intro h;cases h),(by intro J h;cases h;exact hs),a.block,a.off,(by intro J h;cases h;exact⟨rfl,rfl⟩),?_⟩;have key:∀(r:List Int) (k:Nat),(∀i,i<r.length→W.cell? (a.add (k+i))=some (.int .i64 (r.getD i 0)))→bN (uK W) 1 a.block (jN r) (a.off+k):=by
  intro r
  induction r with
  | nil=>intro k _;simp[jN,bN]
  | cons x r N=>
   intro k I;simp only[jN,Am,bN];refine⟨rfl,⟨[.int .i64 x],by simp[dQ,Rep],fun i v hi=>?_⟩,?_⟩
   ·have h0:=aB5 (I 0 (by simp));have hb:(a.add (k+0)).block=a.block:=by unfold Addr.add;split<;>rfl
    have O:(a.add (k+0)).off=a.off+k:=by
     unfold Addr.add;split
     ·rename_i h;omega
     ·rfl
    rw[hb,O] at h0;cases i with
    | zero=>simp at hi;subst hi;simpa using h0
    | succ i=>simp at hi
   ·have:=N (k+1) fun i hi=>by
     have:=I (i+1) (by simp;omega);rw[show k+(i+1)=k+1+i by omega] at this;simpa using this
    rw[Br];exact this
 have:=key l 0 fun i hi=>by rw[Bc];exact u i (by omega)
 simpa using this
theorem mH {W:World}:Rep (uK W) (.sl 1 (jN [])) (.slice none 0 0):=by
 simp only[Rep];exact⟨none,0,0,rfl,rfl,le_refl _,Ag _,(fun _=>⟨rfl,rfl⟩),(by intro u h;cases h),0,0,(by intro u h;cases h),by simp[jN,bN]⟩
theorem aJ8 {H:Type}{enc:TypeId×Value→H}{P:Program}{W:World}{t e:TypeId}{v:Value}{d:DataW H}{ps:List MemPlace}{base:Nat}(ht:P.underlying t=some (.slice e)) (he:P.underlying e=some (.int .i64)) (hc:P.cellsOf e=1)
  (hok:Value.okWide P W .any base t v) (h:DataW.Trod enc P W 0 (fun _=>true) true t v d ps):
  ∃l:List Int,Rep (uK W) (.sl 1 (jN l)) v∧(∀m∈l,-9223372036854775808≤m∧m≤9223372036854775807)∧(∃x y,(d=.nil∧l=[])∨(d=.slice x y∧x.length=l.length)):=by
 obtain⟨fuel,hf⟩:=h;obtain⟨a0,u,I,rfl⟩:=WideShapes.okWide_slice ht hok;rcases ChangeShapes.open_ints ht he hc hf with⟨h1,h2⟩ | ⟨a,len,cap,J,h1,_,h3,h4,h5,h6,h7,N⟩
 ·have hv:Value.slice a0 u I=.slice none 0 0:=by
   simp only[Value.cells] at h1;simpa using h1
  cases hv;refine⟨[],mH,by simp,[],[],.inl ⟨?_,rfl⟩⟩;have:=congrArg Prod.fst h2;simpa using this
 ·have hv:Value.slice a0 u I=.slice (some a) len cap:=by
   simp only[Value.cells] at h1;simpa using h1
  cases hv;have hs:a.spot=none:=by
   simp only[Value.okWide,ht,Cell.okWide,Cell.ok] at hok;exact hok.2.2.2.1
  have hlen:u≤J.length:=by rw[h5];split<;>omega
  refine⟨J.take u,aG5 (fun _=>hs) (by simp;omega) h3 h4 (fun i hi=>?_),fun m hm=>?_,ChangeShapes.lits .i64 (J.take u),ChangeShapes.lits .i64 (J.drop u),.inr ⟨?_,?_⟩⟩
  ·rw[h7 i (by omega)];congr 2;simp[B8,hi]
  ·have:=N m (Bb hm);simp only[Lit.wf,Aj,decide_eq_true_eq] at this;exact this
  ·have:=congrArg Prod.fst h6;simpa using this
  ·simp[ChangeShapes.lits]
theorem aMy {W:World}{a:Addr}{len cap:Nat}{l:List C}(hs:cap≠0→a.spot=none) (hl:l.length=len) (hc:len≤cap) (hm:cap≤maxLen) (u:∀i c,l[i]?=some c→∃v,W.cell? (a.add i)=some v∧Rep (uK W) c v):
  Rep (uK W) (.sl 1 (l.map fun c=>[c])) (.slice (some a) len cap):=by
 simp only[Rep];refine⟨some a,len,cap,rfl,by simp[hl],hc,hm,(by intro h;cases h),(by intro O h;cases h;exact hs),a.block,a.off,(by intro O h;cases h;exact⟨rfl,rfl⟩),?_⟩;have key:∀(r:List C) (k:Nat),(∀i c,r[i]?=some c→∃v,W.cell? (a.add (k+i))=some v∧Rep (uK W) c v)→bN (uK W) 1 a.block (r.map fun c=>[c]) (a.off+k):=by
  intro r
  induction r with
  | nil=>intro k _;simp[bN]
  | cons x r Y=>
   intro k I;simp only[Am,bN];obtain⟨v0,J,N⟩:=I 0 x rfl;refine⟨rfl,⟨[v0],by simp[dQ,N],fun i v hi=>?_⟩,?_⟩
   ·have h0:=aB5 J;have hb:(a.add (k+0)).block=a.block:=by unfold Addr.add;split<;>rfl
    have Z:(a.add (k+0)).off=a.off+k:=by
     unfold Addr.add;split
     ·rename_i h;omega
     ·rfl
    rw[hb,Z] at h0;cases i with
    | zero=>simp at hi;subst hi;simpa using h0
    | succ i=>simp at hi
   ·have:=Y (k+1) fun i c hi=>by
     have:=I (i+1) c (by simpa using hi);rw[show k+(i+1)=k+1+i by omega] at this;exact this
    rw[Br];exact this
 have:=key l 0 fun i c hi=>by rw[Bc];exact u i c hi
 simpa using this
theorem aJ7 {H:Type}{enc:TypeId×Value→H}{P:Program}{W:World}{t e:TypeId}{v:Value}{fuel:Nat}{y:DataW H×List MemPlace}(ht:P.underlying t=some (.slice e)) (he:P.underlying e=some (.int .i64)) (hc:P.cellsOf e=1)
  (hf:DataW.trod enc P W 0 (fun _=>true) true fuel t [v]=some y):
  ∃l:List Int,Rep (uK W) (.sl 1 (jN l)) v∧(∀m∈l,-9223372036854775808≤m∧m≤9223372036854775807)∧(∃x z,(y.1=.nil∧l=[])∨(y.1=.slice x z∧x.length=l.length)):=by
 rcases ChangeShapes.open_ints ht he hc hf with⟨h1,h2⟩ | ⟨a,len,cap,u,h1,_,h3,h4,h5,h6,h7,J⟩
 ·have hv:v=.slice none 0 0:=by simpa using h1
  subst hv;exact⟨[],mH,by simp,[],[],.inl ⟨by rw[h2],rfl⟩⟩
 ·have hv:v=.slice (some a) len cap:=by simpa using h1
  subst hv;have O:u.length=cap:=by simpa using h5
  have hs:cap≠0→a.spot=none:=fun N=>by
   have:=h7 0 (by omega);have e0:a.add 0=a:=by simp[Addr.add]
   rw[e0] at this;unfold World.cell? at this;split at this
   ·cases I:a.spot with
    | none=>rfl
    | some s=>simp[I] at this
   ·cases this
  refine⟨u.take len,aG5 hs (by simp;omega) h3 h4 (fun i hi=>?_),fun m hm=>?_,ChangeShapes.lits .i64 (u.take len),ChangeShapes.lits .i64 (u.drop len),.inr ⟨by rw[h6],by simp[ChangeShapes.lits]⟩⟩
  ·rw[h7 i (by omega)];congr 2;simp[B8,hi]
  ·have:=J m (Bb hm);simp only[Lit.wf,Aj,decide_eq_true_eq] at this;exact this
theorem aPr {α β:Type}{p:Nat→α→β→Prop}:∀(n:Nat) (f:Nat→Option β) (_:∀i,i<n→∃y,f i=some y∧∃x,p i x y),∃l:List α,l.length=n∧∀i x,l[i]?=some x→∃y,f i=some y∧p i x y
 | 0,_,_=>⟨[],rfl,fun i x h=>by simp at h⟩
 | n+1,f,h=>by
  obtain⟨l,h1,h2⟩:=aPr n f fun i hi=>h i (by omega)
  obtain⟨y,I,x,hx⟩:=h n (by omega);refine⟨l++[x],by simp[h1],fun i u hi=>?_⟩;by_cases hin:i<n
  ·rw[Bd (by omega)] at hi;exact h2 i u hi
  ·rw[A6 (by omega)] at hi;have:i=n:=by
    have:=(Aa.1 hi).1
    simp at this;omega
   subst this;rw[h1] at hi;simp at hi;subst hi;exact⟨y,I,hx⟩
def pX (l:List (List Int)):List C:=l.map fun x=>.sl 1 (jN x)
theorem aJ6 {H:Type}{enc:TypeId×Value→H}{P:Program}{W:World}{t e i:TypeId}{v:Value}{d:DataW H}{ps:List MemPlace}{base:Nat}(ht:P.underlying t=some (.slice e)) (he:P.underlying e=some (.slice i)) (hi:P.underlying i=some (.int .i64)) (ab:P.cellsOf e=1) (ac:P.cellsOf i=1)
  (hok:Value.okWide P W .any base t v) (h:DataW.Trod enc P W 0 (fun _=>true) true t v d ps):
  ∃l:List (List Int),Rep (uK W) (.sl 1 ((pX l).map fun c=>[c])) v∧(∀x∈l,∀m∈x,-9223372036854775808≤m∧m≤9223372036854775807)∧
   ∃xs zs:List (DataW H),(d=.nil∧l=[])∨(d=.slice xs zs∧xs.length=l.length∧∀(k:Nat) (x:List Int),l[k]?=some x→∃y:DataW H,xs[k]?=some y∧((y=.nil∧x=[])∨∃u z,y=.slice u z∧u.length=x.length)):=by
 obtain⟨fuel,hf⟩:=h;obtain⟨a0,J,O,rfl⟩:=WideShapes.okWide_slice ht hok;rcases DataW.trod_slice ht hf with⟨h1,h2⟩ | ⟨a,len,cap,elems,rest,n,_,ad,hx,_,hl,hm,hlen,ae,_⟩
 ·have hv:Value.slice a0 J O=.slice none 0 0:=by simpa [Value.cells] using h1
  cases hv;have hd:d=.nil:=by simpa using congrArg Prod.fst h2
  exact⟨[],mH,by simp,[],[],.inl ⟨hd,rfl⟩⟩
 ·have hv:Value.slice a0 J O=.slice (some a) len cap:=by simpa [Value.cells] using ad
  cases hv;have hs:a.spot=none:=by
   simp only[Value.okWide,ht,Cell.okWide,Cell.ok] at hok;exact hok.2.2.2.1
  have hd:d=.slice (elems.map (·.1)) (rest.map (·.1)):=by simpa using congrArg Prod.fst hx
  obtain⟨l,ag,Y⟩:=aPr (α:=List Int) (β:=DataW H×List MemPlace) (p:=fun k x y=>(∃v,W.cell? (a.add k)=some v∧Rep (uK W) (.sl 1 (jN x)) v)∧(∀m∈x,-9223372036854775808≤m∧m≤9223372036854775807)∧((y.1=.nil∧x=[])∨∃u z,y.1=.slice u z∧u.length=x.length)) J (fun k=>elems[k]?) (fun k hk=>by
   obtain⟨y,Z⟩:∃y,elems[k]?=some y:=⟨_,List.getElem?_eq_getElem (by omega)⟩
   refine⟨y,Z,?_⟩;have hE:=ae k hk;rw[ab,mul_one,Z,Ak] at hE;obtain⟨cs',I,hy'⟩:=hE;have aa:∃c,cs'=[c]∧W.cell? (a.add k)=some c:=by
    unfold World.cells? at I;have e0:(a.add k).add 0=a.add k:=by simp[Addr.add]
    split at I
    ·simp only[range_succ,List.range_zero,A0,mapM_cons,List.mapM_nil,e0] at I;cases N:W.cell? (a.add k) with
     | none=>simp[N] at I
     | some c=>simp[N] at I;exact⟨c,I.symm,rfl⟩
    ·cases I
   obtain⟨c,rfl,N⟩:=aa;obtain⟨x,g1,g2,u,z,g3⟩:=aJ7 he hi ac hy'
   exact⟨x,⟨c,N,g1⟩,g2,g3.imp id fun g=>⟨u,z,g⟩⟩)
  refine⟨l,aMy (fun _=>hs) (by simp[pX,ag]) hl hm (fun k c hk=>?_),fun x hx m hm=>?_,elems.map (·.1),rest.map (·.1),.inr ⟨hd,by simp;omega,fun k x hk=>?_⟩⟩
  ·unfold pX at hk;rw[A5] at hk;cases hx:l[k]? with
   | none=>simp[hx] at hk
   | some x=>
    simp[hx] at hk;subst hk;obtain⟨y,_,g,_,_⟩:=Y k x hx;exact g
  ·obtain⟨k,hk⟩:=List.getElem?_of_mem hx;obtain⟨y,_,_,g,_⟩:=Y k x hk;exact g m hm
  ·obtain⟨y,Z,_,_,g⟩:=Y k x hk;exact⟨y.1,by rw[A5,Z];rfl,g⟩
inductive BndV (st:St):Option Operand→Nat→Nat→Prop
 | no {m}:BndV st none m m
 | yes {x kk m k}:opv st x=some (I kk ((k:Nat):Int))→BndV st (some x) m k
def aUm:Option Operand→List Nat
 | none=>[]
 | some x=>opr x
section
variable {P:Program}{n:Nat}{o:Oper}{st:St}{d:Nat}{T:TT}
theorem BndV.val {G:Ctx}{S:Sto}{μ:Mu}{st':St}{a:Act}{w:World}{x:Option Operand}{m k:Nat}(h:BndV st x m k) (hs:Sim G n S μ st' a w) (ha:∀t∈aUm x,st'.e t=st.e t):
  (x=none∧k=m)∨∃kk,x.map a.eval=some (.int kk ((k:Nat):Int)):=by
 cases h with
 | no=>exact .inl ⟨rfl,rfl⟩
 | @yes x kk _ _ h=>exact .inr ⟨kk,by rw[Option.map_some,gD (aT hs h ha)]⟩
theorem wH {w:World}{b:Bool}{len cap lo hi:Nat}{low high:Option Value}(hl:(low=none∧lo=0)∨∃kk,low=some (.int kk ((lo:Nat):Int))) (hh:(high=none∧hi=len)∨∃kk,high=some (.int kk ((hi:Nat):Int))) (h1:lo≤hi) (h2:hi≤len) (h3:len≤cap):
  (Instr.sliceBounds b len cap low high none).run P w=.ok (lo,hi,cap) w:=by
 have h4:hi≤cap:=le_trans h2 h3;rcases hl with⟨rfl,rfl⟩ | ⟨u,rfl⟩<;>rcases hh with⟨rfl,rfl⟩ | ⟨I,rfl⟩<;>simp[Instr.sliceBounds,Instr.sliceBound,asIntOf,h1,h4]
theorem a5j {t e:TypeId}{i I:TI}{x:Operand}{low high:Option Operand}{es lo hi:Nat}{l:List (List C)}(J:Tok P T) (ho:o.op=.slice t x low high none) (hd:o.dst=some d) (N:d<n) (O:T[t]?=some (some i)) (hk:i.k=.sl e) (Y:T[e]?=some (some I)) (Z:I.size=es)
  (hx:opv st x=some (.one (.c (.sl es l)))) (aa:BndV st low 0 lo) (ab:BndV st high l.length hi) (h1:lo≤hi) (h2:hi≤l.length):
  Step P n o st ⟨opr x++aUm low++aUm high,[]⟩ ⟨some (d,some (.one (.c (.sl es ((l.take hi).drop lo))))),[]⟩:=by
 refine Step.value hd N fun st' ha G S μ a w hs=>?_
 have hv:=aT hs hx fun t ht=>ha.1 t (by simp[ht])
 have hl:=aa.val hs fun t ht=>ha.1 t (by simp[ht])
 have hh:=ab.val hs fun t ht=>ha.1 t (by simp[ht])
 simp only[bE,bL,Rep] at hv;obtain⟨u,len,cap,p1,p2,p3,p4,p5,p6,b,of,p7,p8⟩:=hv;subst p2;have hb:=wH (P:=P) (w:=w) (b:=true) (low:=low.map a.eval) (high:=high.map a.eval) (len:=l.length) (cap:=cap) (by rcases hl with⟨rfl,h⟩ | h;exact .inl ⟨rfl,h⟩;exact .inr h) (by rcases hh with⟨rfl,h⟩ | h;exact .inl ⟨rfl,h⟩;exact .inr h) h1 h2 p3;refine⟨.slice (if cap=lo then u else u.map (·.add (lo*I.size))) (hi-lo) (cap-lo),?_,?_⟩
 ·have hu:=As ((J.get O).slice hk) w;simp only[execOp,ho,p1,C3,Ah,Instr.sliceAt,hu,δ,Instr.slice,hb,(J.get Y).size_run w,Ai]
 ·simp only[bE,bL,Rep];have hlen:((l.take hi).drop lo).length=hi-lo:=by simp;omega
  refine⟨_,_,_,rfl,hlen.symm,by omega,by omega,?_,?_,?_⟩
  ·intro e;have:u=none:=by
    split at e
    ·exact e
    ·cases u<;>simp at e;rfl
   obtain⟨h3,h4⟩:=p5 this;omega
  ·intro y e hcc;split at e
   ·omega
   ·cases u with
    | none=>cases e
    | some z=>
     simp at e;subst e;have:=p6 z rfl (by omega);obtain⟨zb,zo,zs⟩:=z;simp at this;subst this;rw[Addr.add_mid]
  ·by_cases hc:cap=lo
   ·have:(l.take hi).drop lo=[]:=Az (by omega);rw[this];refine⟨b,of,fun y e=>p7 y (by rwa [ξ hc] at e),by simp[bN]⟩
   ·refine⟨b,of+lo*es,fun y e=>?_,(p8.take hi).drop lo⟩;rw[φ hc] at e;cases u with
    | none=>cases e
    | some z=>
     simp at e;subst e;obtain⟨h3,h4⟩:=p7 z rfl;have:=p6 z rfl (by omega);obtain⟨zb,zo,zs⟩:=z;simp at this h3 h4;subst this h3 h4;rw[Addr.add_mid,Z];exact⟨rfl,rfl⟩
theorem extract_mk (s:List UInt8) (lo hi:Nat):(ByteArray.mk ⟨s⟩).extract lo hi=⟨⟨(s.take hi).drop lo⟩⟩:=by
 apply ByteArray.ext;simp;rw[drop_take]
theorem a1m {t:TypeId}{i:TI}{x:Operand}{low high:Option Operand}{lo hi:Nat}{s:List UInt8}(Y:Tok P T) (Z:o.op=.slice t x low high none) (hd:o.dst=some d) (u:d<n) (I:T[t]?=some (some i)) (hk:i.k=.str)
  (hx:opv st x=some (Go.AM.T s)) (J:BndV st low 0 lo) (N:BndV st high s.length hi) (h1:lo≤hi) (h2:hi≤s.length):
  Step P n o st ⟨opr x++aUm low++aUm high,[]⟩ ⟨some (d,some (Go.AM.T ((s.take hi).drop lo))),[]⟩:=by
 refine Step.value hd u fun st' ha G S μ a w hs=>?_
 have hv:=mP (aT hs hx fun t ht=>ha.1 t (by simp[ht]));have hl:=J.val hs fun t ht=>ha.1 t (by simp[ht])
 have hh:=N.val hs fun t ht=>ha.1 t (by simp[ht])
 have hb:=wH (P:=P) (w:=w) (b:=false) (low:=low.map a.eval) (high:=high.map a.eval) (len:=s.length) (cap:=s.length) (by rcases hl with⟨rfl,h⟩ | h;exact .inl ⟨rfl,h⟩;exact .inr h) (by rcases hh with⟨rfl,h⟩ | h;exact .inl ⟨rfl,h⟩;exact .inr h) h1 h2 (le_refl _);refine⟨.string ⟨⟨(s.take hi).drop lo⟩⟩,?_,by simp[bE,bL,Rep]⟩;have hu:=As ((Y.get I).str hk) w;have O:(ByteArray.mk ⟨s⟩).size=s.length:=rfl;simp only[execOp,Z,hv,C3,Ah,Instr.sliceAt,hu,δ,Instr.slice,O,hb,Option.isSome_none,Be,B4,Ai,extract_mk]
theorem aVm {t:TypeId}{i:TI}{x y:Operand}{s:List UInt8}{kk:IntKind}{m:Int}{k:Nat}{b:UInt8}(Y:Tok P T) (Z:o.op=.index t x y) (hd:o.dst=some d) (u:d<n) (J:T[t]?=some (some i)) (hk:i.k=.str)
  (hx:opv st x=some (Go.AM.T s)) (hy:opv st y=some (I kk m)) (hm:m=(k:Int)) (hb:s[k]?=some b):Step P n o st ⟨opr x++opr y,[]⟩ ⟨some (d,some (I .u8 ((b.toNat:Nat):Int))),[]⟩:=by
 refine Step.value hd u fun st' ha G S μ a w hs=>?_
 have hv:=mP (aT hs hx fun t ht=>ha.1 t (by simp[ht]));have h2:=gD (aT hs hy fun t ht=>ha.1 t (by simp[ht]));subst hm;refine⟨.int .u8 ((b.toNat:Nat):Int),?_,by simp[bE,bL,Rep]⟩;have hu:=As ((Y.get J).str hk) w;have hg:(ByteArray.mk ⟨s⟩)[k]?=some b:=by
  have N:=(Aa.1 hb).1
  have O:(ByteArray.mk ⟨s⟩).size=s.length:=rfl;rw[getElem?_pos (ByteArray.mk ⟨s⟩) k (by rw[O];exact N)];have:=(Aa.1 hb).2
  rw[←this];rfl
 simp only[execOp,Z,hv,h2,Ah,Instr.index,asIntOf,Ai,δ,hu];simp[hg]
theorem a5c {t1 t2:TypeId}{x y:Operand}{k:IntKind}{a b r:Int}(J:o.op=.call { callee:=.builtin .min,args:= #[x,y],argTypes:= #[t1,t2] }) (hd:o.dst=some d) (u:d<n) (hx:opv st x=some (I k a)) (N:opv st y=some (I k b)) (O:(if b<a then b else a)=r):
  Step P n o st ⟨opr x++opr y,[]⟩ ⟨some (d,some (I k r)),[]⟩:=by
 refine Step.value hd u fun st' ha G S μ ac w hs=>?_
 have h1:=gD (aT hs hx fun t h=>ha.1 t (by simp[h]));have h2:=gD (aT hs N fun t h=>ha.1 t (by simp[h]));refine⟨.int k r,?_,by simp[bE,bL,Rep]⟩;simp only[execOp,J,resolve,map_toArray,Am,Bo,h1,h2,Ah,Ai,δ,invoke,builtin,Builtin.min_,List.foldlM_cons,List.foldlM_nil,Builtin.min2,O]
end
section
variable {P:Program}{n:Nat}{o:Oper}{st:St}{d:Nat}{T:TT}
theorem o9.rarr {S:Sto}{μ:Mu}{H:dC}{w:World}{id:Nat}{te es:Nat}{elems:List (List R)}(h:o9 S μ H w id (.rarr te es elems)) {b base cap:Nat}(hm:μ id=some (b,base,cap)):
  (∀r∈elems,r.length=es)∧∃vs,w.heap[b]?=some (.cells ⟨vs⟩ te (0,0))∧base+cap*es≤vs.length∧elems.length≤cap∧(cap≤maxLen∧S.mapo b=none)∧bC S μ H elems.flatten ((vs.drop base).take (elems.length*es))∧(∀o,base≤o→S.cell b o=none):=by
 obtain⟨h0,h1 | ⟨J,u,I,vs,h1,h2,h3,h4,h5,h6,h7⟩⟩:=h
 ·rw[h1.1] at hm;cases hm
 ·rw[h1] at hm;cases hm;exact⟨h0,vs,h2,h3,h4,h5,h6,h7⟩
def yN (st:St) (es:Nat):Nat→List (Nat×Operand)→Option (List (List R))
 | _,[]=>some []
 | k,(i,x)::ps=>bif Nat.beq i k then(opv st x).bind fun v=>(j2 v).bind fun rs=>bif Nat.beq rs.length es then(yN st es (k+1) ps).bind fun l=>some (rs::l) else none else none
theorem aBg {es:Nat}:∀{ps:List (Nat×Operand)}{k:Nat}{l:List (List R)},yN st es k ps=some l→l.length=ps.length∧∀r∈l,r.length=es
 | [],k,l,h=>by simp[yN] at h;subst h;simp
 | (i,x)::ps,k,l,h=>by
  simp only[yN] at h;cases hi:Nat.beq i k with
  | false=>rw[hi] at h;cases h
  | true=>
   rw[hi] at h;simp only[Bn,Ak] at h;obtain⟨v,hv,rs,J,h⟩:=h;cases hl:Nat.beq rs.length es with
   | false=>rw[hl] at h;cases h
   | true=>
    rw[hl] at h;simp only[Bn,Ak] at h;obtain⟨l',I,h⟩:=h;cases h;obtain⟨h1,h2⟩:=aBg I;refine⟨by simp[h1],fun r u=>?_⟩;rcases Ap.1 u with rfl | u
    ·exact Ab hl
    ·exact h2 r u
theorem aJr {G:Ctx}{S:Sto}{μ:Mu}{st':St}{a:Act}{w:World}(hs:Sim G n S μ st' a w) {es:Nat}:∀{k:Nat}{ps:List (Nat×Operand)}{rows:List (List R)},yN st es k ps=some rows→(∀t∈iE ps,st'.e t=st.e t)→
  ∀(cells:Array Value),cells.size=(k+ps.length)*es→∃out:Array Value,Instr.fill (fun i=>some (i*es,es)) cells (ps.map fun(i,x)=>(i,a.eval x))=some out∧out.size=cells.size∧
   ∃us,bC S μ st'.h rows.flatten us∧out.toList=cells.toList.take (k*es)++us:=by
 intro k ps
 induction ps generalizing k with
 | nil=>
  intro rows h _ cells hc;simp only[yN] at h;cases h;refine⟨cells,rfl,rfl,[],by simp[bC],?_⟩;rw[Ax,Ba];simp at hc;simp[hc]
 | cons p ps ih=>
  obtain⟨i,x⟩:=p;intro rows h ha cells J;simp only[yN] at h;cases hi:Nat.beq i k with
  | false=>rw[hi] at h;cases h
  | true=>
   rw[hi] at h;have Z:=Ab hi;subst Z;simp only[Bn,Ak] at h;obtain⟨v,hv,rs,aa,h⟩:=h;cases hl:Nat.beq rs.length es with
   | false=>rw[hl] at h;cases h
   | true=>
    rw[hl] at h;simp only[Bn,Ak] at h;obtain⟨l',O,h⟩:=h;cases h;have hl':=Ab hl;have u:=fJ (aT hs hv fun t ht=>ha t (by simp[iE,ht])) aa;have ab:=u.length;simp only[Bg] at ab;simp only[Ac] at J;have hke:(i+(ps.length+1))*es=i*es+es+ps.length*es:=by
     rw[A1,A1];omega
    have Y:=pW (i*es) (a.eval x).cells.toList 0 cells (by simp only[Bg];omega);have N:(cK cells.toList (i*es) (a.eval x).cells.toList).length=cells.size:=by
     unfold cK;simp;omega
    obtain⟨out,h1,h2,us,h3,h4⟩:=ih O (fun t ht=>ha t (by simp[iE,ht])) ⟨cK cells.toList (i*es) (a.eval x).cells.toList⟩ (by
     simp only[size_toArray,N,J];congr 1
     omega)
    refine⟨out,?_,by rw[h2];simpa using N,(a.eval x).cells.toList++us,?_,?_⟩
    ·simp only[Am,Instr.fill];have I:((a.eval x).cells.size≠es || decide (i*es+(a.eval x).cells.size>cells.size))=false:=by
      simp only[Bool.or_eq_false_iff,Cw];exact⟨by simp;omega,by omega⟩
     simp only[I,Be,B4];have ac:((a.eval x).cells.zipIdx.foldl (fun cs (x:Value×Nat)=>cs.setIfInBounds (i*es+x.2) x.1) cells)=⟨cK cells.toList (i*es) (a.eval x).cells.toList⟩:=by
      rw[←Array.foldl_toList,Array.toList_zipIdx];simpa using Y
     rw[←h1];congr 1
    ·rw[Bi];exact u.append h3
    ·rw[h4];have:(cK cells.toList (i*es) (a.eval x).cells.toList).take ((i+1)*es)=cells.toList.take (i*es)++(a.eval x).cells.toList:=by
      unfold cK;apply take_left';simp;rw[A1];omega
     show(cK cells.toList (i*es) (a.eval x).cells.toList).take ((i+1)*es)++us=_;rw[this,Ay]
theorem aSp {t e:TypeId}{i u:TI}{len:Nat}{parts:Array (Nat×Operand)}{rows:List (List R)}(id:Nat) (N:Tok P T) (ho:o.op=.buildSlice t len parts) (hd:o.dst=some d) (ag:d<n) (hi:T[t]?=some (some i)) (hk:i.k=.sl e) (I:T[e]?=some (some u))
  (J:yN st u.size 0 parts.toList=some rows) (hlen:Nat.beq len parts.size=true) (O:Nat.ble (len*u.size) 16777216=true) (ab:Nat.ble len 16777216=true) (hid:st.h id=none):
  Step P n o st ⟨iE parts.toList,[id]⟩ ⟨some (d,some (.one (.ra id 0 len len))),[(id,some (.rarr e u.size rows))]⟩:=by
 refine Step.new hd ag hid (by simp) fun st' ha ac G S μ a w hs=>?_
 have Z:=Ab hlen;have hsm:=Aq O;obtain⟨z,hz,ah,_⟩:=(N.get I).zero_run;have aa:=(ah S).length;rw[(N.get I).len] at aa;simp only[Bg] at aa;obtain⟨ai,aj⟩:=aBg J;simp only[Bg] at ai;have key:∀(cells:Array Value),cells.size=len*u.size→∃out:Array Value,Instr.fill (fun i=>some (i*u.size,u.size)) cells (parts.map fun(i,x)=>(i,a.eval x)).toList=some out∧out.size=len*u.size∧bC S μ st'.h rows.flatten out.toList:=by
  intro cells hc;obtain⟨out,h1,h2,us,h3,h4⟩:=aJr hs J ha.1 cells (by rw[hc,Z];simp);refine⟨out,by rw[←h1];simp,by rw[h2,hc],?_⟩;simp at h4;rw[h4];exact h3
 have ad:∃out:Array Value,(Instr.buildSlice t len (parts.map fun(i,x)=>(i,a.eval x))).run P w=.ok (.slice (some ⟨w.heap.size,0,none⟩) len len) (w.alloc (.cells out e))∧out.size=len*u.size∧bC S μ st'.h rows.flatten out.toList:=by
  by_cases h0:len*u.size=0
  ·obtain⟨out,h1,h2,h3⟩:=key ((Array.range (len*u.size)).map ((#[]:Array Value)[· %(#[]:Array Value).size]!)) (by simp);refine⟨out,?_,h2,h3⟩;have Y:¬len*u.size>2^24:=by omega
   simp only[Instr.buildSlice,Ah,As ((N.get hi).slice hk) w,δ,(N.get I).size_run w];rw[φ Y,ξ h0];simp only[Ah,δ,Ai,h1,j9]
  ·obtain⟨out,h1,h2,h3⟩:=key ((Array.range (len*u.size)).map (z.cells[· %z.cells.size]!)) (by simp);refine⟨out,?_,h2,h3⟩;have Y:¬len*u.size>2^24:=by omega
   simp only[Instr.buildSlice,Ah,As ((N.get hi).slice hk) w,δ,(N.get I).size_run w];rw[φ Y,φ h0];simp only[Ah,hz w,δ,Ai,h1,j9]
 obtain⟨out,h1,h2,h3⟩:=ad;have ak:len≤maxLen:=by
  have:=Aq ab;unfold maxLen;omega
 have ae:rows.length=len:=by omega
 refine⟨_,_,.slice (some ⟨w.heap.size,0,none⟩) len len,(0,len),?_,WChg.alloc w (.cells out e),?_,?_⟩
 ·simp only[execOp,ho,Ah,h1,δ,Ai]
 ·refine⟨aj,.inr ⟨w.heap.size,0,len,out.toList,aM _ _ _,Ch w _,by simp[h2],by omega,⟨ak,uE hs.inv⟩,?_,fun o _=>iX hs.inv o⟩⟩;simp only[Cc];rw[Ba (by simp[h2,ae])];exact bC.evolve (iJ ac _ _) _ _ h3
 ·simp only[bE,bL];exact⟨⟨_,_,_,rfl⟩,.inr ⟨e,u.size,rows,aM _ _ _,by omega,fun _=>⟨by omega,.inr ⟨w.heap.size,0,len,aM _ _ _,by simp⟩⟩⟩⟩
theorem aJx {t e:TypeId}{i N:TI}{x y:Operand}{te es k id off len sz:Nat}{kk:IntKind}{m:Int}{elems:List (List R)}(hT:Tok P T) (ho:o.op=.indexAddr t x y) (hd:o.dst=some d) (O:d<n) (hi:T[t]?=some (some i)) (hk:i.k=.sl e) (Y:T[e]?=some (some N)) (Z:N.size=es)
  (hx:opv st x=some (.one (.ra id off len sz))) (hh:st.h id=some (.rarr te es elems)) (J:sz=elems.length) (hy:opv st y=some (I kk m)) (hm:m=(k:Int)) (aa:k<len):Step P n o st ⟨opr x++opr y,[id]⟩ ⟨some (d,some (.one (.rp id (off+k) 0 sz))),[]⟩:=by
 refine Step.value hd O fun st' ha G S μ a w hs=>?_
 have hv:=aT hs hx fun t ht=>ha.1 t (by simp[ht])
 have ab:=gD (aT hs hy fun t ht=>ha.1 t (by simp[ht]));have u:st'.h id=some (.rarr te es elems):=by rw[ha.2 id (by simp),hh]
 simp only[bE,bL] at hv;obtain⟨_,hv | ⟨te',es',elems',h1,h2,h3⟩⟩:=hv
 ·rw[u] at hv;cases hv
 rw[u] at h1;cases h1;obtain⟨h4,⟨h5,h6,h7⟩ | ⟨b,base,cap,h5,h6⟩⟩:=h3 J
 ·subst h6;simp at J;omega
 subst hm;refine⟨.pointer (some ⟨b,base+(off+k)*es+0,none⟩),?_,?_⟩
 ·simp only[execOp,ho,h6,ab,Ah,l7 hT hi hk Y w b (base+off*es) len _ k kk aa,δ,Ai,Z,By];rw[show base+off*es+k*es=base+(off+k)*es by rw[A1];omega]
 ·simp only[bE,bL];exact⟨⟨_,rfl⟩,.inr ⟨te,es,elems,u,h2,fun _=>⟨by omega,b,base,cap,h5,rfl⟩⟩⟩
theorem aJz {t J:TypeId}{i N:TI}{fs:List (Nat×TypeId)}{f u:Nat}{x:Operand}{id k fo sz:Nat}(hT:Tok P T) (ho:o.op=.fieldAddr t x f) (hd:o.dst=some d) (O:d<n) (hi:T[t]?=some (some i)) (hk:i.k=.st fs) (hf:fs[f]?=some (u,J)) (Y:T[J]?=some (some N)) (hz:N.size≠0)
  {te es:Nat} {elems:List (List R)} (hx:opv st x=some (.one (.rp id k fo sz))) (hh:st.h id=some (.rarr te es elems)) (Z:sz=elems.length):Step P n o st ⟨opr x,[id]⟩ ⟨some (d,some (.one (.rp id k (fo+u) sz))),[]⟩:=by
 refine Step.value hd O fun st' ha G S μ a w hs=>?_
 have hv:=aT hs hx ha.1;have I:st'.h id=some (.rarr te es elems):=by rw[ha.2 id (by simp),hh]
 simp only[bE,bL] at hv;obtain⟨_,hv | ⟨te',es',elems',h1,h2,h3⟩⟩:=hv
 ·rw[I] at hv;cases hv
 rw[I] at h1;cases h1;obtain⟨h4,b,base,cap,h5,h6⟩:=h3 Z;refine⟨.pointer (some ⟨b,base+k*es+fo+u,none⟩),?_,?_⟩
 ·simp only[execOp,ho,h6,Ah,jD hT hi hk hf Y hz,δ,Ai]
 ·simp only[bE,bL];exact⟨⟨_,rfl⟩,.inr ⟨te,es,elems,I,h2,fun _=>⟨h4,b,base,cap,h5,by rw[Br]⟩⟩⟩
theorem aSv {t e:TypeId}{i:TI}{x:Operand}{te es id off len sz:Nat}{elems:List (List R)}(N:Tok P T) (O:o.op=.call { callee:=.builtin .len,args:= #[x],argTypes:= #[t] }) (hd:o.dst=some d) (Y:d<n) (hi:T[t]?=some (some i)) (hk:i.k=.sl e)
  (hx:opv st x=some (.one (.ra id off len sz))) (hh:st.h id=some (.rarr te es elems)) (u:sz=elems.length):Step P n o st ⟨opr x,[id]⟩ ⟨some (d,some (I .i64 (len:Int))),[]⟩:=by
 refine Step.value hd Y fun st' ha G S μ a w hs=>?_
 have hv:=aT hs hx ha.1;have J:st'.h id=some (.rarr te es elems):=by rw[ha.2 id (by simp),hh]
 simp only[bE,bL] at hv;obtain⟨_,hv | ⟨Z,aa,elems',h1,h2,h3⟩⟩:=hv
 ·rw[J] at hv;cases hv
 rw[J] at h1;cases h1;obtain⟨h4,⟨h5,h6,h7⟩ | ⟨b,base,cap,h5,h6⟩⟩:=h3 u
 ·have hl:len=0:=by subst h6;simp at u;omega
  subst hl;refine⟨goInt 0,kZ O h7 ?_,by simp[bE,bL,Rep,goInt]⟩;simp[Builtin.len_,As ((N.get hi).slice hk) w]
 ·refine⟨goInt len,kZ O h6 ?_,by simp[bE,bL,Rep,goInt]⟩;simp[Builtin.len_,As ((N.get hi).slice hk) w]
theorem aMr {S:Sto}{μ:Mu}{H:dC}{es base:Nat}{elems:List (List R)}{vs:List Value}(h0:∀r∈elems,r.length=es) (h:bC S μ H elems.flatten ((vs.drop base).take (elems.length*es))) {k:Nat}{r:List R}(hk:elems[k]?=some r):
  bC S μ H r ((vs.drop (base+k*es)).take es):=by
 have u:k<elems.length:=(Aa.1 hk).1
 have hmul:(k+1)*es≤elems.length*es:=Aw _ u;rw[A1] at hmul;have h1:=(h.drop (k*es)).take es;rw[fF h0 k r hk] at h1;rw[drop_take,take_take,drop_drop,Cd (by omega)] at h1;exact h1
theorem aM4 {t te es:Nat}{i:TI}{x:Operand}{id k fo sz:Nat}{elems:List (List R)}{r:List R}{y:V}(hT:Tok P T) (ho:o.op=.load t x) (hd:o.dst=some d) (O:d<n) (hi:T[t]?=some (some i)) (hx:opv st x=some (.one (.rp id k fo sz)))
  (hh:st.h id=some (.rarr te es elems)) (Y:sz=elems.length) (Z:elems[k]?=some r) (hl:fo+i.size≤es) (hy:pQ i ((r.drop fo).take i.size)=some y):Step P n o st ⟨opr x,[id]⟩ ⟨some (d,some y),[]⟩:=by
 refine Step.value hd O fun st' ha G S μ a w hs=>?_
 have hv:=aT hs hx ha.1;have I:st'.h id=some (.rarr te es elems):=by rw[ha.2 id (by simp),hh]
 simp only[bE,bL] at hv;obtain⟨_,hv | ⟨te',es',elems',h1,h2,h3⟩⟩:=hv
 ·rw[I] at hv;cases hv
 rw[I] at h1;cases h1;obtain⟨h4,b,base,cap,h5,h6⟩:=h3 Y;obtain⟨g0,vs,g1,g2,g3,g4,g5,g6⟩:=(hs.inv.obj id _ I).rarr h5;have N:=aMr g0 g5 Z;have u:=(N.drop fo).take i.size;rw[drop_take,take_take,drop_drop,Cd (by omega)] at u;have hlt:k<elems.length:=(Aa.1 Z).1
 have hmul:(k+1)*es≤cap*es:=Aw _ (by omega);rw[A1] at hmul;have aa:((vs.drop (base+k*es+fo)).take i.size).length=i.size:=a5v (by omega);have ab:=l9 g1 (base+k*es+fo) i.size;refine⟨_,?_,mX u hy⟩;have J:=run_load (hT.get hi) w b (base+k*es+fo) _ ab aa;simp only[execOp,ho,h6,Ah,Ai] at J ⊢;rw[J];rfl
theorem yQ {x:Operand}{te es id k fo sz:Nat}{elems:List (List C)}{fz:Nat}(N:o.op=.nilCheck x) (hd:o.dst=some d) (I:d<n) (hx:opv st x=some (.one (.ep id k fo sz))) (hh:st.h id=some (.arr te es elems fz)) (J:sz=elems.length):
  Step P n o st ⟨opr x,[id]⟩ ⟨some (d,some (.one (.ep id k fo sz))),[]⟩:=by
 refine Step.value hd I fun st' ha G S μ a w hs=>⟨a.eval x,?_,aT hs hx ha.1⟩
 have hv:=aT hs hx ha.1;have u:st'.h id=some (.arr te es elems fz):=by rw[ha.2 id (by simp),hh]
 simp only[bE,bL] at hv;obtain⟨_,hv | ⟨O,Y,elems',Z,h1,h2,h3⟩⟩:=hv
 ·rw[u] at hv;cases hv
 rw[u] at h1;cases h1;obtain⟨h4,b,base,cap,h5,h6⟩:=h3 J;simp[execOp,N,h6]
theorem yP {x:Operand}{te es id k fo sz:Nat}{elems:List (List R)}(N:o.op=.nilCheck x) (hd:o.dst=some d) (I:d<n) (hx:opv st x=some (.one (.rp id k fo sz))) (hh:st.h id=some (.rarr te es elems)) (J:sz=elems.length):
  Step P n o st ⟨opr x,[id]⟩ ⟨some (d,some (.one (.rp id k fo sz))),[]⟩:=by
 refine Step.value hd I fun st' ha G S μ a w hs=>⟨a.eval x,?_,aT hs hx ha.1⟩
 have hv:=aT hs hx ha.1;have u:st'.h id=some (.rarr te es elems):=by rw[ha.2 id (by simp),hh]
 simp only[bE,bL] at hv;obtain⟨_,hv | ⟨O,Y,elems',h1,h2,h3⟩⟩:=hv
 ·rw[u] at hv;cases hv
 rw[u] at h1;cases h1;obtain⟨h4,b,base,cap,h5,h6⟩:=h3 J;simp[execOp,N,h6]
end
section
variable {P:Program}{n:Nat}{o:Oper}{st:St}{d:Nat}{T:TT}
theorem xW {t e:TypeId}{i I:TI}{x y:Operand}{id id2 sz te2:Nat}{elems rows:List (List R)}{st':St}{G:Ctx}{S:Sto}{μ:Mu}{a:Act}{w:World}(hT:Tok P T) (ho:o.op=.call { callee:=.builtin .append,args:= #[x,y],argTypes:= #[t,t] })
  (hi:T[t]?=some (some i)) (hk:i.k=.sl e) (hei:T[e]?=some (some I)) (hes:Nat.ble 1 I.size=true) (heb:Nat.ble 1 I.bytes=true)
  (hsz:sz=elems.length) (hpos:0<rows.length) (hroom:(elems.length+rows.length)*I.bytes≤140737488355328) (hh':st'.h id=some (.rarr e I.size elems)) (hs:Sim G n S μ st' a w)
  (hvx:bE S μ st'.h (.one (.ra id 0 sz sz)) (a.eval x)) (hvy:bE S μ st'.h (.one (.ra id2 0 rows.length rows.length)) (a.eval y)) (hh2:st'.h id2=some (.rarr te2 I.size rows)):
  ∃w' v b bo c,(execOp a.eval o).run P w=.ok (.value v) w'∧(w.heap.size≤b∨∃c',μ id=some (b,c'))∧WChg w w' b bo∧
   o9 S (upd μ id (some (b,c))) (upd st'.h id (some (.rarr e I.size (elems++rows)))) w' id (.rarr e I.size (elems++rows))∧(∀o v,S.cell b o=some v→∃vs t fr,bo=.cells vs t fr∧vs[o]?=some v)∧(∀m,S.mapo b=some m→w.heap.size≤b)∧
   Evolve S μ st'.h S (upd μ id (some (b,c))) (upd st'.h id (some (.rarr e I.size (elems++rows))))∧
   bE S (upd μ id (some (b,c))) (upd st'.h id (some (.rarr e I.size (elems++rows)))) (.one (.ra id 0 (elems.length+rows.length) (elems.length+rows.length))) v:=by
 subst hsz;have hes':=Aq hes;have heb':=Aq heb
 have hE:∀b c,Evolve S μ st'.h S (upd μ id (some (b,c))) (upd st'.h id (some (.rarr e I.size (elems++rows)))):=fun b c=>⟨S.le_refl,fun j x hj=>by
  by_cases hne:j=id
  ·subst hne;rw[hh'] at hj;cases hj;exact⟨_,aM _ _ _,by simp only[AObj.succ,true_and];exact⟨by simp,fun e=>by rw[κ] at e;omega⟩⟩
  ·exact⟨x,by rw[bJ _ _ _ hne];exact hj,x.succ_refl (bJ _ _ _ hne)⟩⟩
 obtain⟨ad,cc,news,hvy1,N,hrl,Z⟩:∃ad cc news,a.eval y=.slice (some ad) rows.length cc∧bC S μ st'.h rows.flatten news∧(∀r∈rows,r.length=I.size)∧∀j u,news[j]?=some u→w.cell? (ad.add j)=some u:=by
  simp only[bE,bL] at hvy;obtain⟨_,hv | ⟨te',es',elems',h1,h2,h3⟩⟩:=hvy
  ·rw[hh2] at hv;cases hv
  rw[hh2] at h1;cases h1;obtain⟨h4,⟨h5,h6,h7⟩ | ⟨b,base,cap,h5,h6⟩⟩:=h3 rfl
  ·rw[h6] at hpos;simp at hpos
  obtain⟨g0,vs,g1,g2,g3,g4,g5,g6⟩:=(hs.inv.obj id2 _ hh2).rarr h5;refine⟨_,_,_,h6,g5,g0,fun j u hj=>?_⟩;rw[Addr.add_mid,cell_of_row w b _ ⟨vs⟩ te2 (0,0) g1];rw[Au] at hj;split at hj
  ·rw[Ao] at hj;simpa using hj
  ·cases hj
 have O:news.length=rows.length*I.size:=by rw[N.length,jK hrl]
 obtain⟨inf,dd,z,g1,g2,g3,g4,g5,g6,g7,g8⟩:=(hT.get hei).ex;have hu:=(hT.get hi).slice hk;have hzs:z.cells.size=I.size:=by
  have h1:=(kW (S:=S) g7).length;rw[(hT.get hei).len] at h1;simpa using h1
 simp only[bE,bL] at hvx;obtain⟨_,hv | ⟨te',es',elems',h1,h2,h3⟩⟩:=hvx
 ·rw[hh'] at hv;cases hv
 rw[hh'] at h1;cases h1;obtain⟨h4,hcase⟩:=h3 rfl;have hbig:elems.length+rows.length≤140737488355328:=by
  have:(elems.length+rows.length)*1≤(elems.length+rows.length)*I.bytes:=C4 _ heb';omega
 have hone:∀u∈news,u.oneCell'=true:=N.one;have hcap:∀old,elems.length+rows.length≤grownCap w (elems.length+rows.length) old e∧grownCap w (elems.length+rows.length) old e≤maxLen:=fun old=>
  ⟨grownCap_ge _ _ _ _,grownCap_le_maxLen _ _ _ _ (by unfold maxLen;omega)⟩
 have hlen':(elems++rows).length=elems.length+rows.length:=by simp
 have Y:∀(aa:List Value) (old:Nat),bC S μ st'.h elems.flatten aa→∀g0:(∀r∈elems,r.length=I.size),
   o9 S (upd μ id (some (w.heap.size,0,grownCap w (elems.length+rows.length) old e))) (upd st'.h id (some (.rarr e I.size (elems++rows))))
    (w.drew.alloc (.cells (aa.toArray++news.toArray++Builtin.zeroCells z.cells (grownCap w (elems.length+rows.length) old e-(elems.length+rows.length))) e)) id (.rarr e I.size (elems++rows)):=by
  intro aa old hol g0;obtain⟨hc1,hc2⟩:=hcap old;have ab:=hol.length;rw[jK g0] at ab;refine⟨?_,.inr ⟨w.heap.size,0,grownCap w (elems.length+rows.length) old e,(aa.toArray++news.toArray++Builtin.zeroCells z.cells (grownCap w (elems.length+rows.length) old e-(elems.length+rows.length))).toList,aM _ _ _,Ch w.drew _,?_,by simpa using hc1,⟨hc2,uE hs.inv⟩,?_,fun o _=>iX hs.inv o⟩⟩
  ·intro r J;rcases τ.1 J with J | J
   ·exact g0 r J
   ·exact hrl r J
  ·simp only[Array.toList_append,κ,Bg,size_zeroCells,hzs];simp only[ab,O,Bc,←A1];exact Aw _ (by omega)
  ·simp only[Array.toList_append,Cc,κ,flatten_append];rw[Cu (by simp[ab,O,A1]),Ba (by simp[ab,O,A1])];exact(bC.evolve (hE _ _) _ _ hol).append (bC.evolve (hE _ _) _ _ N)
 rcases hcase with⟨h5,h6,h7⟩ | ⟨b,base,cap,h5,h6⟩
 ·--the first elements
  subst h6;simp only[length_nil,Bc] at hroom hbig Y hcap;have J:=run_append_nil (P:=P) w t o.type e inf z hu g1 g6 ad rows.length cc news (by rw[O,g3]) Z (by omega) (by omega) (by rw[g4];omega);refine⟨_,_,w.heap.size,_,(0,grownCap w rows.length 0 e),gP ho h7 hvy1 J,.inl (le_refl _),WChg.alloc_drew w _,?_,fun o v e=>(by rw[iX hs.inv o] at e;cases e),fun m e=>le_refl _,hE _ _,?_⟩
  ·have:=Y [] 0 (by simp[bC]) (by simp);simpa using this
  ·simp only[bE,bL];exact⟨⟨_,_,_,rfl⟩,.inr ⟨e,I.size,_,aM _ _ _,by simp,fun _=>⟨by simp,.inr ⟨w.heap.size,0,_,aM _ _ _,by simp⟩⟩⟩⟩
 ·obtain⟨q0,vs,q1,q2,q3,q4,q5,q6⟩:=(hs.inv.obj id _ hh').rarr h5;have hce:elems.length*I.size≤cap*I.size:=Aw _ q3;simp only[sub_zero,Nat.zero_mul,By] at h6;by_cases ac:elems.length+rows.length≤cap
  ·--there is room
   have hce2:(elems.length+rows.length)*I.size≤cap*I.size:=Aw _ ac;rw[A1] at hce2;have J:=lM (P:=P) w t o.type e inf hu g1 b base elems.length cap ⟨vs⟩ q1 ad rows.length cc news (by rw[O,g3]) Z hone ac (by rw[g3,O];simp only[size_toArray];omega);rw[g3] at J;have hW:=WChg.setRow w b ⟨vs⟩ ⟨vs.take (base+elems.length*I.size)++news++vs.drop (base+elems.length*I.size+news.length)⟩ e (0,0) q1
   refine⟨_,_,b,_,(base,cap),gP ho h6 hvy1 J,.inr ⟨_,h5⟩,hW,⟨?_,.inr ⟨b,base,cap,_,aM _ _ _,hW.new,?_,by rw[hlen'];omega,q4,?_,q6⟩⟩,fun o v e=>(by
     by_cases hb:base≤o
     ·rw[q6 o hb] at e;cases e
     ·obtain⟨vs0,t0,fr0,p1,p2⟩:=hs.inv.holds.1 b o v e;rw[q1] at p1;cases p1;refine⟨_,_,_,rfl,?_⟩;simp only[List.getElem?_toArray] at p2 ⊢;have hlt:o<vs.length:=(Aa.1 p2).1
      rw[Ay,Bd (by simp;omega),Au,ξ (by omega)]
      exact p2),fun m e=>jJ q4.2 m e,hE _ _,?_⟩
   ·intro r J;rcases τ.1 J with J | J
    ·exact q0 r J
    ·exact hrl r J
   ·simp only[κ,Ar,B6];omega
   ·rw[hlen',flatten_append];have e1:((vs.take (base+elems.length*I.size)++news++vs.drop (base+elems.length*I.size+news.length)).drop base).take ((elems.length+rows.length)*I.size)=(vs.drop base).take (elems.length*I.size)++news:=by
     rw[Ay,List.drop_append_of_le_length (by simp;omega),←Ay,Cu (by simp[A1];omega)];rw[Ba (by simp[A1];omega),drop_take];rw[show base+elems.length*I.size-base=elems.length*I.size by omega]
    rw[e1];exact(bC.evolve (hE _ _) _ _ q5).append (bC.evolve (hE _ _) _ _ N)
   ·simp only[bE,bL];exact⟨⟨_,_,_,rfl⟩,.inr ⟨e,I.size,_,aM _ _ _,by simp,fun _=>⟨by simp,.inr ⟨b,base,cap,aM _ _ _,by simp⟩⟩⟩⟩
  ·--into a new block
   have J:=run_append_grow (P:=P) w t o.type e inf z hu g1 g6 ⟨b,base,none⟩ elems.length cap ((vs.drop base).take (elems.length*I.size)) (by rw[g3];simp;omega) (by
     intro j v hj;rw[Addr.add_mid,cell_of_row w b _ ⟨vs⟩ e (0,0) q1];rw[Au] at hj;split at hj
     ·rw[Ao] at hj;simpa using hj
     ·cases hj) ad rows.length cc news (by rw[O,g3]) Z (by omega) (by omega) (by rw[g4];exact growslice_fits (by omega) hroom)
   refine⟨_,_,w.heap.size,_,(0,grownCap w (elems.length+rows.length) cap e),gP ho h6 hvy1 J,.inl (le_refl _),WChg.alloc_drew w _,?_,fun o v e=>(by rw[iX hs.inv o] at e;cases e),fun m e=>le_refl _,hE _ _,?_⟩
   ·have:=Y _ cap q5 q0;simpa using this
   ·simp only[bE,bL];exact⟨⟨_,_,_,rfl⟩,.inr ⟨e,I.size,_,aM _ _ _,by simp,fun _=>⟨by simp,.inr ⟨w.heap.size,0,_,aM _ _ _,by simp⟩⟩⟩⟩
theorem aIc {y:V}{id te es:Nat}{elems:List (List R)}(hd:o.dst=some d) (J:d<n) {st':St}{G:Ctx}{S:Sto}{μ:Mu}{a:Act}{w:World}{K:Act→World→Prop}{Q:Exit→Act→World→Prop}
  (hs:Sim G n S μ st' a w) (u:∀b c',μ id=some (b,c')→∃ao,st'.h id=some ao) (hk:∀S' μ' N w',Sim G n S' μ' (Eff.apply ⟨some (d,some y),[(id,some (.rarr te es elems))]⟩ st') N w'→K N w')
  (h:∃w' v b I c,(execOp a.eval o).run P w=.ok (.value v) w'∧(w.heap.size≤b∨∃c',μ id=some (b,c'))∧WChg w w' b I∧o9 S (upd μ id (some (b,c))) (upd st'.h id (some (.rarr te es elems))) w' id (.rarr te es elems)∧
   (∀o v,S.cell b o=some v→∃vs t fr,I=.cells vs t fr∧vs[o]?=some v)∧(∀m,S.mapo b=some m→w.heap.size≤b)∧Evolve S μ st'.h S (upd μ id (some (b,c))) (upd st'.h id (some (.rarr te es elems)))∧bE S (upd μ id (some (b,c))) (upd st'.h id (some (.rarr te es elems))) y v):
  ∀ro,o.wpIn (Wd ro) 0 P a w K Q:=by
 obtain⟨w',v,b,I,c,hr,hb,hw,hO,hS,O,Y,hv⟩:=h;refine fun ro=>j3 hr ?_
 rw[hd];have hi:=hs.inv.chg (id:=id) (cap:=c) (ao:=.rarr te es elems) hw (hb.imp (fun h=>h) fun⟨c',h⟩=>by obtain⟨ao,Z⟩:=u _ _ h;exact⟨_,c',Z,h⟩) Y hO hS O;have:=hs.put hi Y J (x:=some y) (v:=v) (fun z hz=>by cases hz;exact hv);refine hk S (upd μ id (some (b,c))) _ _ ?_;unfold Eff.apply;rw[dO];exact this
theorem aNc {t e:TypeId}{i u:TI}{x y:Operand}{id I sz N:Nat}{elems rows:List (List R)}(hT:Tok P T) (ho:o.op=.call { callee:=.builtin .append,args:= #[x,y],argTypes:= #[t,t] }) (hd:o.dst=some d) (aa:d<n)
  (hi:T[t]?=some (some i)) (hk:i.k=.sl e) (ab:T[e]?=some (some u)) (ac:Nat.ble 1 u.size=true) (ad:Nat.ble 1 u.bytes=true)
  (hx:opv st x=some (.one (.ra id 0 sz sz))) (hh:st.h id=some (.rarr e u.size elems)) (ae:sz=elems.length) (hy:opv st y=some (.one (.ra I 0 rows.length rows.length))) (ag:st.h I=some (.rarr N u.size rows)) (Y:0<rows.length)
  (J:(elems.length+rows.length)*u.bytes≤140737488355328):
  Step P n o st ⟨opr x++opr y,[id,I]⟩ ⟨some (d,some (.one (.ra id 0 (elems.length+rows.length) (elems.length+rows.length)))),[(id,some (.rarr e u.size (elems++rows)))]⟩:=by
 intro st' ha G S μ a w K Q hs ah;have ai:=aT hs hx fun t ht=>ha.1 t (by simp[ht])
 have aj:=aT hs hy fun t ht=>ha.1 t (by simp[ht])
 have O:st'.h id=some (.rarr e u.size elems):=by rw[ha.2 id (by simp),hh]
 have Z:st'.h I=some (.rarr N u.size rows):=by rw[ha.2 I (by simp),ag]
 exact aIc hd aa hs (fun _ _ _=>⟨_,O⟩) ah (xW hT ho hi hk ab ac ad ae Y J O hs ai aj Z)
theorem Inv.emptyR {G:Ctx}{S:Sto}{μ:Mu}{H:dC}{w:World}{id:Nat}(te es:Nat) (h:Inv G S μ H w) (hid:H id=none):Inv G S (upd μ id none) (upd H id (some (.rarr te es []))) w∧Evolve S μ H S (upd μ id none) (upd H id (some (.rarr te es []))):=by
 have J:Evolve S μ H S (upd μ id none) (upd H id (some (.rarr te es []))):=iJ hid _ _;refine⟨⟨h.holds,fun j x hj=>?_,fun i j x x' b c c' hi hj hm u=>?_,fun i x b c hi hm=>?_,h.frame,h.sle,h.sto,h.evo.trans J,h.fre⟩,J⟩
 ·by_cases I:j=id
  ·subst I;rw[aM] at hj;cases hj;exact⟨by simp,.inl ⟨aM _ _ _,rfl⟩⟩
  ·rw[bJ _ _ _ I] at hj;exact(h.obj j x hj).evolve J (bJ _ _ _ I) fun _ _ _=>⟨rfl,fun _=>rfl,rfl⟩
 ·have h1:i≠id:=fun e=>by subst e;rw[aM] at hm;cases hm
  have h2:j≠id:=fun e=>by subst e;rw[aM] at u;cases u
  rw[bJ _ _ _ h1] at hi hm;rw[bJ _ _ _ h2] at hj u;exact h.inj i j x x' b c c' hi hj hm u
 ·have h1:i≠id:=fun e=>by subst e;rw[aM] at hm;cases hm
  rw[bJ _ _ _ h1] at hi hm;exact h.own i x b c hi hm
theorem aJ2 {t e:TypeId}{i u:TI}{x y:Operand}{I Z:Nat}{rows:List (List R)}(id:Nat) (hT:Tok P T) (ho:o.op=.call { callee:=.builtin .append,args:= #[x,y],argTypes:= #[t,t] }) (hd:o.dst=some d) (hdn:d<n)
  (hi:T[t]?=some (some i)) (hk:i.k=.sl e) (hei:T[e]?=some (some u)) (hes:Nat.ble 1 u.size=true) (heb:Nat.ble 1 u.bytes=true)
  (hx:opv st x=some (.one (.c .nl))) (hid:st.h id=none) (hy:opv st y=some (.one (.ra I 0 rows.length rows.length))) (hh2:st.h I=some (.rarr Z u.size rows)) (ab:0<rows.length)
  (Y:rows.length*u.bytes≤140737488355328):
  Step P n o st ⟨opr x++opr y,[id,I]⟩ ⟨some (d,some (.one (.ra id 0 rows.length rows.length))),[(id,some (.rarr e u.size rows))]⟩:=by
 intro st' ha G S μ a w K Q hs hk';have N:st'.h id=none:=by rw[ha.2 id (by simp),hid]
 obtain⟨hi',hE⟩:=hs.inv.emptyR e u.size N;have aa:Sim G n S (upd μ id none) ⟨st'.e,upd st'.h id (some (.rarr e u.size [])),st'.d⟩ a w:=⟨hi',hs.size,hs.defers.evolve hE,fun t v e=>bE.evolve hE v _ (hs.env t v e)⟩
 have O:=aT hs hx fun t ht=>ha.1 t (by simp[ht])
 have hvy:=aT hs hy fun t ht=>ha.1 t (by simp[ht])
 have J:st'.h I=some (.rarr Z u.size rows):=by rw[ha.2 I (by simp),hh2]
 simp only[bE,bL,Rep] at O;have hvx':bE S (upd μ id none) (upd st'.h id (some (.rarr e u.size []))) (.one (.ra id 0 0 0)) (a.eval x):=by
  simp only[bE,bL];exact⟨⟨_,_,_,O⟩,.inr ⟨e,u.size,[],aM _ _ _,le_refl _,fun _=>⟨le_refl _,.inl ⟨aM _ _ _,rfl,O⟩⟩⟩⟩
 have hne:I≠id:=fun e=>by subst e;rw[N] at J;cases J
 have:=xW (elems:=[]) (id:=id) hT ho hi hk hei hes heb rfl ab (by simpa using Y) (aM _ _ _) aa hvx' (bE.evolve hE _ _ hvy) (by
  show upd st'.h id (some (.rarr e u.size [])) I=_;rw[bJ _ _ _ hne]
  exact J)
 refine aIc hd hdn aa (fun _ _ _=>⟨_,aM _ _ _⟩) (fun S' μ' a' w' h=>hk' S' μ' a' w' ?_) this;have e1:Eff.apply ⟨some (d,some (.one (.ra id 0 (([]:List (List R)).length+rows.length) (([]:List (List R)).length+rows.length)))),[(id,some (.rarr e u.size ([]++rows)))]⟩ ⟨st'.e,upd st'.h id (some (.rarr e u.size [])),st'.d⟩
   =Eff.apply ⟨some (d,some (.one (.ra id 0 rows.length rows.length))),[(id,some (.rarr e u.size rows))]⟩ st':=by
  unfold Eff.apply;rw[dO,dO,qQ];simp
 rw[e1] at h;exact h
end
section
variable {P:Program}{n:Nat}{o:Oper}{st:St}{d:Nat}{T:TT}
theorem aX1 {src dst:TypeId}{i j:TI}{x:Operand}{k k':IntKind}{m:Int}(u:Tok P T) (Y:o.op=.convert src dst x) (hd:o.dst=some d) (J:d<n) (hi:T[src]?=some (some i)) (N:i.k=.int k) (hj:T[dst]?=some (some j)) (O:j.k=.int k')
  (hx:opv st x=some (I k m)):Step P n o st ⟨opr x,[]⟩ ⟨some (d,some (I k' (k'.wrap m))),[]⟩:=by
 refine Step.value hd J fun st' ha G S μ a w hs=>?_
 have hv:=gD (aT hs hx ha.1);refine⟨.int k' (k'.wrap m),?_,by simp[bE,bL,Rep]⟩;have h1:=(u.get hi).int N;have h2:=(u.get hj).int O;simp only[execOp,Y,hv,Ah,convert,As h1 w,As h2 w,δ,Conv.intToInt,Ai]
theorem aX2 {src dst e:TypeId}{i j ei:TI}{x:Operand}{v:V}{ids:List Nat}{rows:List (List C)}{ns:List Int}(Z:Tok P T) (ho:o.op=.convert src dst x) (hd:o.dst=some d) (hdn:d<n) (hi:T[src]?=some (some i)) (hik:i.k=.sl e) (hei:T[e]?=some (some ei)) (hek:ei.k=.int .u8)
  (hj:T[dst]?=some (some j)) (hjk:j.k=.str) (hx:opv st x=some v) (aa:Src st 1 ids v rows) (hr:rows=ns.map fun m=>[C.int .u8 m]):Step P n o st ⟨opr x,ids⟩ ⟨some (d,some (Go.AM.T (ns.map fun m=>UInt8.ofNat m.toNat))),[]⟩:=by
 refine Step.value hd hdn fun st' ha G S μ a w hs=>?_
 have hv:=aT hs hx ha.1;obtain⟨I,c,news,h1,h2,h3,h4,h5⟩:=aa.rel hs ha.2 hv;have N:=(Z.get hi).slice hik;have O:=(Z.get hei).int hek;have Y:=(Z.get hj).str hjk;have J:∀(ns:List Int) (news:List Value),dQ S (ns.map fun m=>[C.int .u8 m]).flatten news→news=ns.map (Value.int .u8):=by
  intro ns
  induction ns with
  | nil=>intro news h;simpa [dQ] using h
  | cons m ns ih=>
   intro news h;simp only[Am,Bi,List.singleton_append,dQ,Rep] at h;obtain⟨u,us,rfl,rfl,h⟩:=h;rw[ih us h];rfl
 rw[hr] at h2;have hn:=J ns news h2;have hrun:(convert src dst (a.eval x)).run P w=.ok (.string ⟨⟨ns.map fun m=>UInt8.ofNat m.toNat⟩⟩) w:=by
  rw[h1];cases I with
  | none=>
   have h6:=h4 rfl;rw[hr] at h6;have:ns=[]:=by simpa using h6
   subst this;exact run_convert_bytes_nil w src e N O _ _ dst Y
  | some I=>
   have hlen:rows.length=ns.length:=by rw[hr];simp
   have hl:(loadCells I ns.length).run P w=.ok (ns.map (Value.int .u8)).toArray w:=by
    have:=run_loadCells_list (P:=P) w I (ns.map (Value.int .u8)) (fun j v hj=>h5 I rfl j v (by rw[hn];exact hj));simpa using this
   rw[hlen,run_convert_bytes_string w src dst e _ _ _ N O Y,run_bytesToString w _ _ _ ns hl,foldl_push_bytes];simp[ByteArray.empty,ByteArray.emptyWithCapacity];rfl
 refine⟨.string ⟨⟨ns.map fun m=>UInt8.ofNat m.toNat⟩⟩,?_,by simp[bE,bL,Rep]⟩;simp only[execOp,ho,Ah,hrun,δ,Ai]
theorem bP.length {S:Sto}{agg:Bool}:∀{l:List (List C)}{es:List MapEntry},bP S agg l es→es.length=l.length
 | [],es,h=>by simp only[bP] at h;subst h;rfl
 | r::rs,es,h=>by
  simp only[bP] at h;obtain⟨e,u,rfl,_,h⟩:=h;simp[bP.length h]
theorem aM9 {t Z et:TypeId}{i:TI}{x:Operand}{id:Nat}{agg:Bool}{ents:List (List C)}(hT:Tok P T) (ho:o.op=.call { callee:=.builtin .len,args:= #[x],argTypes:= #[t] }) (hd:o.dst=some d) (J:d<n) (hi:T[t]?=some (some i)) (hk:i.k=.mp Z et)
  (hx:opv st x=some (.one (.mr id))) (hh:st.h id=some (.map agg ents)) (N:lO ents):Step P n o st ⟨opr x,[id]⟩ ⟨some (d,some (I .i64 (ents.length:Int))),[]⟩:=by
 refine Step.value hd J fun st' ha G S μ a w hs=>?_
 have hv:=aT hs hx ha.1;have u:st'.h id=some (.map agg ents):=by rw[ha.2 id (by simp),hh]
 simp only[bE,bL] at hv;obtain⟨agg',Y,b,c,h1,h2,h3⟩:=hv;rw[u] at h1;cases h1;obtain⟨b',es,clk,O,q2,q3,q4⟩:=hs.inv.obj id _ u;rw[h2] at O;cases O;have hl:=(q3.rep N).length;refine⟨goInt ents.length,kZ ho h3 ?_,by simp[bE,bL,Rep,goInt]⟩;have hg:(getObj b).run P w=.ok (.map es clk) w:=MapKept.run_getObj_map q2;simp at hl;simp[Builtin.len_,As ((hT.get hi).map hk) w,hg,hl]
end
section
variable {P:Program}{n:Nat}{T:TT}{o:Oper}{st:St}{d:Nat}
theorem tZ {t e:TypeId}{i N:TI}{x y:Operand}{J es k:Nat}{kk:IntKind}{m:Int}{l r:List R}(hT:Tok P T) (ho:o.op=.indexAddr t x y) (hd:o.dst=some d) (O:d<n) (hi:T[t]?=some (some i)) (hk:i.k=.sl e) (Y:T[e]?=some (some N)) (Z:N.size=es)
  (hx:opv st x=some (.one (.ras J es l))) (hy:opv st y=some (I kk m)) (hm:m=(k:Int)) (aa:k<J) (hr:(l.drop (k*es)).take es=r):Step P n o st ⟨opr x++opr y,[]⟩ ⟨some (d,some (.one (.pas r))),[]⟩:=by
 refine Step.value hd O fun st' ha G S μ a w hs=>?_
 have hv:=aT hs hx (fN ha).1;have ab:=gD (aT hs hy (fN ha).2);simp only[bE,bL] at hv;obtain⟨u,cap,h1,h2,h3,h4,h5,h6,b,off,h7,vs,h8,h9⟩:=hv;cases u with
 | none=>have:=(h5 rfl).1;omega
 | some u=>
  obtain⟨h10,h10'⟩:=h7 u rfl;have h11:=h6 u rfl;have ac:u=⟨b,off,none⟩:=by cases u;simp_all
  subst ac;subst hm;refine⟨.pointer (some ⟨b,off+k*es,none⟩),?_,?_⟩
  ·simp only[execOp,ho,h1,ab,Ah,l7 hT hi hk Y w b off J cap k kk aa,δ,Ai,Z]
  ·simp only[bE,bL];subst hr;refine⟨b,off+k*es,rfl,(vs.drop (k*es)).take es,(h8.drop (k*es)).take es,fun j v hj=>?_⟩;rw[Au] at hj;split at hj
   ·rw[Ao] at hj;have:=h9 _ v hj;rwa [←Br] at this
   ·cases hj
theorem aJw {t:TypeId}{i:TI}{x:Operand}{l:List R}{y:V}(J:Tok P T) (N:o.op=.load t x) (hd:o.dst=some d) (u:d<n) (hi:T[t]?=some (some i)) (hx:opv st x=some (.one (.pas l)))
  (hl:i.size≤l.length) (O:pQ i (l.take i.size)=some y):Step P n o st ⟨opr x,[]⟩ ⟨some (d,some y),[]⟩:=by
 refine Step.value hd u fun st' ha G S μ a w hs=>?_
 have hv:=aT hs hx ha.1;simp only[bE,bL] at hv;obtain⟨b,off,h1,vs,h2,h3⟩:=hv;have Z:=h2.length;refine⟨_,?_,mX (h2.take i.size) O⟩;have Y:=oI hs.inv.holds h3;have I:w.rangeAt b off (vs.take i.size):=fun j v hj=>by
  rw[Au] at hj;split at hj
  ·exact Y j v hj
  ·cases hj
 simp only[execOp,N,h1,Ah,run_load (J.get hi) w b off _ I (by simp;omega),δ,Ai]
theorem aEu {t I:TypeId}{i J:TI}{fs:List (Nat×TypeId)}{f u:Nat}{x:Operand}{l:List R}(Y:Tok P T) (Z:o.op=.fieldAddr t x f) (hd:o.dst=some d) (N:d<n) (hi:T[t]?=some (some i)) (hk:i.k=.st fs) (hf:fs[f]?=some (u,I)) (O:T[I]?=some (some J)) (hz:J.size≠0)
  (hx:opv st x=some (.one (.pas l))):Step P n o st ⟨opr x,[]⟩ ⟨some (d,some (.one (.pas (l.drop u)))),[]⟩:=by
 refine Step.value hd N fun st' ha G S μ a w hs=>?_
 have hv:=aT hs hx ha.1;simp only[bE,bL] at hv;obtain⟨b,off,h1,vs,h2,h3⟩:=hv;refine⟨.pointer (some ⟨b,off+u,none⟩),?_,?_⟩
 ·simp only[execOp,Z,h1,Ah,jD Y hi hk hf O hz,δ,Ai]
 ·simp only[bE,bL];refine⟨b,off+u,rfl,vs.drop u,h2.drop u,fun j v hj=>?_⟩;rw[Ao] at hj;have:=h3 (u+j) v hj;rwa [←Br] at this
theorem aM8 {t e:TypeId}{i:TI}{x:Operand}{u es:Nat}{l:List R}(N:Tok P T) (O:o.op=.call { callee:=.builtin .len,args:= #[x],argTypes:= #[t] }) (hd:o.dst=some d) (J:d<n) (hi:T[t]?=some (some i)) (hk:i.k=.sl e)
  (hx:opv st x=some (.one (.ras u es l))):Step P n o st ⟨opr x,[]⟩ ⟨some (d,some (I .i64 (u:Int))),[]⟩:=by
 refine Step.value hd J fun st' ha G S μ a w hs=>?_
 have hv:=aT hs hx ha.1;simp only[bE,bL] at hv;obtain⟨Y,cap,h1,_⟩:=hv;refine⟨goInt u,kZ O h1 ?_,by simp[bE,bL,Rep,goInt]⟩;simp[Builtin.len_,As ((N.get hi).slice hk) w]
theorem aJs {t te es:Nat}{i:TI}{x y:Operand}{id k fo sz:Nat}{elems:List (List R)}{v:V}{cs r:List R}(hT:Tok P T) (ho:o.op=.store t x y) (hd:o.dst=none) (hi:T[t]?=some (some i)) (hx:opv st x=some (.one (.rp id k fo sz)))
  (hy:opv st y=some v) (hc:j2 v=some cs) (hh:st.h id=some (.rarr te es elems)) (hsz:sz=elems.length) (hr:elems[k]?=some r) (hcs:cs.length=i.size) (hl:fo+i.size≤es):
  Step P n o st ⟨opr x++opr y,[id]⟩ ⟨none,[(id,some (.rarr te es (elems.set k (cK r fo cs))))]⟩:=by
 refine Step.turn hd hh (by simp) (by simp[AObj.succ]) fun st' ha I G S μ a w hs=>?_
 have hvx:=aT hs hx fun t ht=>ha.1 t (by simp[ht])
 have hvy:=aT hs hy fun t ht=>ha.1 t (by simp[ht])
 simp only[bE,bL] at hvx;obtain⟨_,hv | ⟨te',es',elems',h1,h2,h3⟩⟩:=hvx
 ·rw[I] at hv;cases hv
 rw[I] at h1;cases h1;obtain⟨h4,b,base,cap,h5,h6⟩:=h3 hsz;obtain⟨g0,vs,g1,g2,g3,g4,g5,g6⟩:=(hs.inv.obj id _ I).rarr h5;have N:=fJ hvy hc;have O:=N;have hone:=N.one;have hnl:=O.length;have hk:k<elems.length:=(Aa.1 hr).1
 have hres:r.length=es:=g0 r (η hr);have hke:(k+1)*es≤elems.length*es:=Aw _ hk;have hce:elems.length*es≤cap*es:=Aw _ g3;rw[A1] at hke;generalize hnews:(a.eval y).cells.toList=news at *;have hrun:=run_store (hT.get hi) w b (base+k*es+fo) vs news te (a.eval y) g1 hnews (by omega) (by omega) hone;have hE:=lF (S:=S) (μ:=μ) (o':=.rarr te es (elems.set k (cK r fo cs))) I h5 (by simp[AObj.succ]);have Y:=aMr g0 g5 hr;have J:=aE9 g0 k r hr;have hlen:(elems.set k (cK r fo cs)).length=elems.length:=by simp
 have hW:=WChg.setRow w b ⟨vs⟩ ⟨vs.take (base+k*es+fo)++news++vs.drop (base+k*es+fo+news.length)⟩ te (0,0) g1;refine⟨_,_,b,(base,cap),?_,h5,hW,⟨?_,.inr ⟨b,base,cap,_,aM _ _ _,hW.new,?_,by rw[hlen];exact g3,g4,?_,g6⟩⟩,fun o v e=>?_,fun m e=>jJ g4.2 m e⟩
 ·simp only[execOp,ho,h6,Ah,hrun,δ,Ai]
 ·intro q hq;rcases B5 hq with hq | rfl
  ·exact g0 q hq
  ·unfold cK;simp;omega
 ·simp only[κ,Ar,B6];omega
 ·rw[hlen];have e1:(elems.set k (cK r fo cs)).flatten=elems.flatten.take (k*es)++(r.take fo++cs++r.drop (fo+cs.length))++elems.flatten.drop (k*es+es):=by
   rw[Cl,ξ hk,flatten_append,Bi,J.1,J.2,←Ay];rfl
  have e2:((vs.take (base+k*es+fo)++news++vs.drop (base+k*es+fo+news.length)).drop base).take (elems.length*es)=
    ((vs.drop base).take (elems.length*es)).take (k*es)++((((vs.drop (base+k*es)).take es).take fo)++news++(((vs.drop (base+k*es)).take es).drop (fo+cs.length)))++((vs.drop base).take (elems.length*es)).drop (k*es+es):=by
   apply Bx;intro j;simp only[Au,Ao,B7,κ,Ar,B6];have hm1:min (k*es) (min (elems.length*es) (vs.length-base))=k*es:=by omega
   have hm2:min (base+k*es+fo) vs.length=base+k*es+fo:=by omega
   have hm3:min fo es=fo:=by omega
   have hm4:min es (vs.length-(base+k*es))=es:=by omega
   simp only[hm1,hm2,hm3,hm4,hnl];by_cases c1:j<k*es
   ·have u:j<elems.length*es:=by omega
    have a2:base+j<base+k*es+fo:=by omega
    have a3:base+j<base+k*es+fo+cs.length:=by omega
    have a4:j<k*es+(fo+cs.length+(es-(fo+cs.length))):=by omega
    simp[c1,u,a2,a3,a4]
   ·by_cases c2:j<k*es+fo
    ·have u:j<elems.length*es:=by omega
     have a2:base+j<base+k*es+fo:=by omega
     have a3:base+j<base+k*es+fo+cs.length:=by omega
     have a4:j<k*es+(fo+cs.length+(es-(fo+cs.length))):=by omega
     have a5:j-k*es<fo+cs.length:=by omega
     have Z:j-k*es<fo:=by omega
     have a7:j-k*es<es:=by omega
     simp[c1,u,a2,a3,a4,a5,Z,a7,show base+k*es+(j-k*es)=base+j by omega]
    ·by_cases c3:j<k*es+fo+cs.length
     ·have u:j<elems.length*es:=by omega
      have a2:¬base+j<base+k*es+fo:=by omega
      have a3:base+j<base+k*es+fo+cs.length:=by omega
      have a4:j<k*es+(fo+cs.length+(es-(fo+cs.length))):=by omega
      have a5:j-k*es<fo+cs.length:=by omega
      have Z:¬j-k*es<fo:=by omega
      simp[c1,u,a2,a3,a4,a5,Z,show base+j-(base+k*es+fo)=j-k*es-fo by omega]
     ·by_cases c4:j<k*es+es
      ·have u:j<elems.length*es:=by omega
       have a3:¬base+j<base+k*es+fo+cs.length:=by omega
       have a4:j<k*es+(fo+cs.length+(es-(fo+cs.length))):=by omega
       have a5:¬j-k*es<fo+cs.length:=by omega
       have Z:fo+cs.length+(j-k*es-(fo+cs.length))<es:=by omega
       simp[c1,u,a3,a4,a5,Z,show base+k*es+fo+cs.length+(base+j-(base+k*es+fo+cs.length))=base+j by omega,show base+k*es+(fo+cs.length+(j-k*es-(fo+cs.length)))=base+j by omega]
      ·have a3:¬base+j<base+k*es+fo+cs.length:=by omega
       have a4:¬j<k*es+(fo+cs.length+(es-(fo+cs.length))):=by omega
       by_cases c5:j<elems.length*es
       ·have a5:k*es+es+(j-(k*es+(fo+cs.length+(es-(fo+cs.length)))))<elems.length*es:=by omega
        simp[a3,a4,c5,a5,show base+k*es+fo+cs.length+(base+j-(base+k*es+fo+cs.length))=base+j by omega,show base+(k*es+es+(j-(k*es+(fo+cs.length+(es-(fo+cs.length))))))=base+j by omega]
       ·have a5:¬k*es+es+(j-(k*es+(fo+cs.length+(es-(fo+cs.length)))))<elems.length*es:=by omega
        simp[a4,c5,a5]
  rw[e1];show bC S _ _ _ (((vs.take (base+k*es+fo)++news++vs.drop (base+k*es+fo+news.length)).drop base).take (elems.length*es));rw[e2];refine bC.evolve hE _ _ ?_;exact((g5.take (k*es)).append (((Y.take fo).append O).append (Y.drop (fo+cs.length)))).append (g5.drop (k*es+es))
 ·--what stays is not touched
  by_cases hb:base≤o
  ·rw[g6 o hb] at e;cases e
  ·obtain⟨vs0,t0,fr0,q1,q2⟩:=hs.inv.holds.1 b o v e;rw[g1] at q1;cases q1;refine⟨_,_,_,rfl,?_⟩;simp only[List.getElem?_toArray] at q2 ⊢;have hlt:o<vs.length:=(Aa.1 q2).1
   rw[Ay,Bd (by simp;omega),Au,ξ (by omega)];exact q2
end
end Go.AM
