/-
  Texts Am21 to Am23 in one.
-/
import Derived.Test.YtockgoadliilhaaGreatDoorM3
import Derived.ProofKit
import Derived.SizedLaws
import Derived.OpenShut
import Derived.Carry
import Derived.Laws.BytesArg
open List (append_assoc append_nil drop_drop drop_take drop_zero eq_nil_of_length_eq_zero flatten_append flatten_cons length_append length_cons length_drop length_nil length_take map_cons map_nil map_toArray mem_append mem_cons mem_of_mem_take set_eq_take_append_cons_drop size_toArray take_append_of_le_length take_left' take_of_length_le take_take)
open Nat (add_assoc add_mul add_zero eq_of_beq_eq_true le_of_ble_eq_true le_refl le_trans min_eq_left mul_le_mul_left mul_le_mul_right sub_zero zero_add zero_le)
namespace Go.AM
open Go
theorem eW.of {α:Type}{p:α→Prop}:∀{l:List α},(∀x∈l,p x)→eW p l
 | [],_=>trivial
 | x::l,h=>⟨h x (by simp),eW.of fun y hy=>h y (by simp[hy])⟩
def aBm (W:World):Sto:=
 ⟨fun b o=>match W.heap[b]? with | some (.cells vs _ _)=>vs[o]? | _=>none,fun b=>match W.heap[b]? with | some (.map es clk)=>some (.all es clk) | _=>none⟩
theorem aHg (W:World):Holds (aBm W) W:=by
 refine⟨fun b o v h=>?_,fun b mk h=>?_⟩
 ·simp only[aBm] at h;split at h
  ·rename_i vs t fr q;exact⟨vs,t,fr,q,h⟩
  ·cases h
 ·simp only[aBm] at h;split at h
  ·rename_i q;cases h;exact q
  ·cases h
theorem aPk (W:World):(aBm W).noTop:=fun b m e=>by
 simp only[aBm] at e;split at e
 ·cases e;exact⟨_,_,rfl⟩
 ·cases e
theorem aK0 (W:World):(aBm W).free:=fun b te lo hi e=>by
 obtain⟨_,_,h⟩:=aPk W b _ e;cases h
theorem aK1 {W:World}{a:Addr}{v:Value}(h:W.cell? a=some v):(aBm W).cell a.block a.off=some v:=by
 unfold World.cell? at h;simp only[aBm];split at h
 ·rename_i q;rw[q];split at h
  ·cases h
  ·exact h
 ·cases h
theorem aLl {P:Program}{f:FuncId}{args:List V}{vals:List Value}{res:V}(h:aU P f args [] res []) (W:World) (hv:bU (aBm W) (fun _=>none) (look []) args vals) (ht:aQp W:=by first | assumption | (intro g h;cases h)):
  Calls P f ⟨vals⟩ W fun e W'=>∃v S μ,e=.returned v∧RowKit.Below W.heap.size W W'∧b6 S μ (look []) res v:=by
 have I:Inv ⟨W,aBm W,u0 (fun _=>none) (look []),fun _=>none,look []⟩ (aBm W) (fun _=>none) (look []) W:=
  ⟨aHg W,(fun _ _ h=>by cases h),(fun _ _ _ _ _ _ _ h=>by cases h),(fun _ _ _ _ h=>by cases h),FrameW.refl _ _ ⟨ht,fun g _ ⟨_,_,_,h,_⟩=>by cases h⟩,Sto.le_refl _,fun _ _ _=>⟨fun _=>rfl,rfl⟩,Evolve.refl _ _ _,aK0 W⟩
 refine(h (aBm W) (fun _=>none) W vals I hv).mono ?_;rintro e W' ⟨S',μ',v,he,q,J⟩;refine⟨v,S',μ',he,⟨q.frame.os,q.frame.tape,q.frame.output,q.frame.size,fun k hk=>q.frame.block k hk ?_⟩,J⟩;rintro⟨id,o,c,h1,_⟩;cases h1
theorem aVi {S:Sto}{μ:Mu}{H:cR}{b:Bool}{v:Value}(h:b6 S μ H (B b) v):v=.bool b:=by simpa [b6,bF,Rep] using h
def lV (l:List Int):List (List C):=l.map fun m=>[.int .i64 m]
theorem aOq {W:World}{a:Addr}{len cap:Nat}{l:List Int}(hs:cap≠0→a.spot=none) (hl:l.length=len) (hc:len≤cap) (hm:cap≤maxLen) (q:∀i,i<len→W.cell? (a.add i)=some (.int .i64 (l.getD i 0))):
  Rep (aBm W) (.sl 1 (lV l)) (.slice (some a) len cap):=by
 simp only[Rep];refine⟨some a,len,cap,rfl,by simp[lV,hl],hc,hm,(by intro h;cases h),(by intro J h;cases h;exact hs),a.block,a.off,(by intro J h;cases h;exact⟨rfl,rfl⟩),?_⟩;have key:∀(r:List Int) (k:Nat),(∀i,i<r.length→W.cell? (a.add (k+i))=some (.int .i64 (r.getD i 0)))→bJ (aBm W) 1 a.block (lV r) (a.off+k):=by
  intro r
  induction r with
  | nil=>intro k _;simp[lV,bJ]
  | cons x r N=>
   intro k I;simp only[lV,Am,bJ];refine⟨rfl,⟨[.int .i64 x],by simp[dL,Rep],fun i v hi=>?_⟩,?_⟩
   ·have h0:=aK1 (I 0 (by simp));have hb:(a.add (k+0)).block=a.block:=by unfold Addr.add;split<;>rfl
    have O:(a.add (k+0)).off=a.off+k:=by
     unfold Addr.add;split
     ·rename_i h;omega
     ·rfl
    rw[hb,O] at h0;cases i with
    | zero=>simp at hi;subst hi;simpa using h0
    | succ i=>simp at hi
   ·have:=N (k+1) fun i hi=>by
     have:=I (i+1) (by simp;omega);rw[show k+(i+1)=k+1+i by omega] at this;simpa using this
    rw[B8];exact this
 have:=key l 0 fun i hi=>by rw[Be];exact q i (by omega)
 simpa using this
theorem yU {W:World}:Rep (aBm W) (.sl 1 (lV [])) (.slice none 0 0):=by
 simp only[Rep];exact⟨none,0,0,rfl,rfl,le_refl _,Aj _,(fun _=>⟨rfl,rfl⟩),(by intro q h;cases h),0,0,(by intro q h;cases h),by simp[lV,bJ]⟩
theorem uO {H:Type}{enc:TypeId×Value→H}{P:Program}{W:World}{t e:TypeId}{v:Value}{d:DataW H}{ps:List MemPlace}{base:Nat}(ht:P.underlying t=some (.slice e)) (he:P.underlying e=some (.int .i64)) (hc:P.cellsOf e=1)
  (hok:Value.okWide P W .any base t v) (h:DataW.Trod enc P W 0 (fun _=>true) true t v d ps):
  ∃l:List Int,Rep (aBm W) (.sl 1 (lV l)) v∧(∀m∈l,-9223372036854775808≤m∧m≤9223372036854775807)∧(∃x y,(d=.nil∧l=[])∨(d=.slice x y∧x.length=l.length)):=by
 obtain⟨fuel,hf⟩:=h;obtain⟨a0,q,I,rfl⟩:=WideShapes.okWide_slice ht hok;rcases ChangeShapes.open_ints ht he hc hf with⟨h1,h2⟩ | ⟨a,len,cap,J,h1,_,h3,h4,h5,h6,h7,N⟩
 ·have hv:Value.slice a0 q I=.slice none 0 0:=by
   simp only[Value.cells] at h1;simpa using h1
  cases hv;refine⟨[],yU,by simp,[],[],.inl ⟨?_,rfl⟩⟩;have:=congrArg Prod.fst h2;simpa using this
 ·have hv:Value.slice a0 q I=.slice (some a) len cap:=by
   simp only[Value.cells] at h1;simpa using h1
  cases hv;have hs:a.spot=none:=by
   simp only[Value.okWide,ht,Cell.okWide,Cell.ok] at hok;exact hok.2.2.2.1
  have hlen:q≤J.length:=by rw[h5];split<;>omega
  refine⟨J.take q,aOq (fun _=>hs) (by simp;omega) h3 h4 (fun i hi=>?_),fun m hm=>?_,ChangeShapes.lits .i64 (J.take q),ChangeShapes.lits .i64 (J.drop q),.inr ⟨?_,?_⟩⟩
  ·rw[h7 i (by omega)];congr 2;simp[List.getD_eq_getElem?_getD,hi]
  ·have:=N m (Bl hm);simp only[Lit.wf,Ai,decide_eq_true_eq] at this;exact this
  ·have:=congrArg Prod.fst h6;simpa using this
  ·simp[ChangeShapes.lits]
inductive BndV (st:St):Option Operand→Nat→Nat→Prop
 | no {m}:BndV st none m m
 | yes {x kk m k}:opv st x=some (I kk ((k:Nat):Int))→BndV st (some x) m k
def aQe:Option Operand→List Nat
 | none=>[]
 | some x=>opr x
section
variable {P:Program}{n:Nat}{o:Oper}{st:St}{d:Nat}{T:TT}
theorem BndV.val {G:Ctx}{S:Sto}{μ:Mu}{st':St}{a:Act}{w:World}{x:Option Operand}{m k:Nat}(h:BndV st x m k) (hs:Sim G n S μ st' a w) (ha:∀t∈aQe x,st'.e t=st.e t):
  (x=none∧k=m)∨∃kk,x.map a.eval=some (.int kk ((k:Nat):Int)):=by
 cases h with
 | no=>exact .inl ⟨rfl,rfl⟩
 | @yes x kk _ _ h=>exact .inr ⟨kk,by rw[Option.map_some,fF (aQ hs h ha)]⟩
theorem uC {w:World}{b:Bool}{len cap lo hi:Nat}{low high:Option Value}(hl:(low=none∧lo=0)∨∃kk,low=some (.int kk ((lo:Nat):Int))) (hh:(high=none∧hi=len)∨∃kk,high=some (.int kk ((hi:Nat):Int))) (h1:lo≤hi) (h2:hi≤len) (h3:len≤cap):
  (Instr.sliceBounds b len cap low high none).run P w=.ok (lo,hi,cap) w:=by
 have h4:hi≤cap:=le_trans h2 h3;rcases hl with⟨rfl,rfl⟩ | ⟨q,rfl⟩<;>rcases hh with⟨rfl,rfl⟩ | ⟨I,rfl⟩<;>simp[Instr.sliceBounds,Instr.sliceBound,asIntOf,h1,h4]
theorem a0g {t e:TypeId}{i I:TI}{x:Operand}{low high:Option Operand}{es lo hi:Nat}{l:List (List C)}(J:Tok P T) (ho:o.op=.slice t x low high none) (hd:o.dst=some d) (N:d<n) (O:T[t]?=some (some i)) (hk:i.k=.sl e) (W:T[e]?=some (some I)) (Y:I.size=es)
  (hx:opv st x=some (.one (.c (.sl es l)))) (Z:BndV st low 0 lo) (aa:BndV st high l.length hi) (h1:lo≤hi) (h2:hi≤l.length):
  Step P n o st ⟨opr x++aQe low++aQe high,[]⟩ ⟨some (d,some (.one (.c (.sl es ((l.take hi).drop lo))))),[]⟩:=by
 refine Step.value hd N fun st' ha G S μ a w hs=>?_
 have hv:=aQ hs hx fun t ht=>ha.1 t (by simp[ht])
 have hl:=Z.val hs fun t ht=>ha.1 t (by simp[ht])
 have hh:=aa.val hs fun t ht=>ha.1 t (by simp[ht])
 simp only[b6,bF,Rep] at hv;obtain⟨q,len,cap,p1,p2,p3,p4,p5,p6,b,of,p7,p8⟩:=hv;subst p2;have hb:=uC (P:=P) (w:=w) (b:=true) (low:=low.map a.eval) (high:=high.map a.eval) (len:=l.length) (cap:=cap) (by rcases hl with⟨rfl,h⟩ | h;exact .inl ⟨rfl,h⟩;exact .inr h) (by rcases hh with⟨rfl,h⟩ | h;exact .inl ⟨rfl,h⟩;exact .inr h) h1 h2 p3;refine⟨.slice (if cap=lo then q else q.map (·.add (lo*I.size))) (hi-lo) (cap-lo),?_,?_⟩
 ·have hu:=As ((J.get O).slice hk) w;simp only[execOp,ho,p1,C1,Ae,Instr.sliceAt,hu,ε,Instr.slice,hb,(J.get W).size_run w,Af]
 ·simp only[b6,bF,Rep];have hlen:((l.take hi).drop lo).length=hi-lo:=by simp;omega
  refine⟨_,_,_,rfl,hlen.symm,by omega,by omega,?_,?_,?_⟩
  ·intro e;have:q=none:=by
    split at e
    ·exact e
    ·cases q<;>simp at e;rfl
   obtain⟨h3,h4⟩:=p5 this;omega
  ·intro y e hcc;split at e
   ·omega
   ·cases q with
    | none=>cases e
    | some z=>
     simp at e;subst e;have:=p6 z rfl (by omega);obtain⟨zb,zo,zs⟩:=z;simp at this;subst this;rw[Addr.add_mid]
  ·by_cases hc:cap=lo
   ·have:(l.take hi).drop lo=[]:=A4 (by omega);rw[this];refine⟨b,of,fun y e=>p7 y (by rwa [ξ hc] at e),by simp[bJ]⟩
   ·refine⟨b,of+lo*es,fun y e=>?_,(p8.take hi).drop lo⟩;rw[φ hc] at e;cases q with
    | none=>cases e
    | some z=>
     simp at e;subst e;obtain⟨h3,h4⟩:=p7 z rfl;have:=p6 z rfl (by omega);obtain⟨zb,zo,zs⟩:=z;simp at this h3 h4;subst this h3 h4;rw[Addr.add_mid,Y];exact⟨rfl,rfl⟩
theorem extract_mk (s:List UInt8) (lo hi:Nat):(ByteArray.mk ⟨s⟩).extract lo hi=⟨⟨(s.take hi).drop lo⟩⟩:=by
 apply ByteArray.ext;simp;rw[drop_take]
theorem aW5 {t:TypeId}{i:TI}{x:Operand}{low high:Option Operand}{lo hi:Nat}{s:List UInt8}(W:Tok P T) (Y:o.op=.slice t x low high none) (hd:o.dst=some d) (q:d<n) (I:T[t]?=some (some i)) (hk:i.k=.str)
  (hx:opv st x=some (Go.AM.T s)) (J:BndV st low 0 lo) (N:BndV st high s.length hi) (h1:lo≤hi) (h2:hi≤s.length):
  Step P n o st ⟨opr x++aQe low++aQe high,[]⟩ ⟨some (d,some (Go.AM.T ((s.take hi).drop lo))),[]⟩:=by
 refine Step.value hd q fun st' ha G S μ a w hs=>?_
 have hv:=lD (aQ hs hx fun t ht=>ha.1 t (by simp[ht]));have hl:=J.val hs fun t ht=>ha.1 t (by simp[ht])
 have hh:=N.val hs fun t ht=>ha.1 t (by simp[ht])
 have hb:=uC (P:=P) (w:=w) (b:=false) (low:=low.map a.eval) (high:=high.map a.eval) (len:=s.length) (cap:=s.length) (by rcases hl with⟨rfl,h⟩ | h;exact .inl ⟨rfl,h⟩;exact .inr h) (by rcases hh with⟨rfl,h⟩ | h;exact .inl ⟨rfl,h⟩;exact .inr h) h1 h2 (le_refl _);refine⟨.string ⟨⟨(s.take hi).drop lo⟩⟩,?_,by simp[b6,bF,Rep]⟩;have hu:=As ((W.get I).str hk) w;have O:(ByteArray.mk ⟨s⟩).size=s.length:=rfl;simp only[execOp,Y,hv,C1,Ae,Instr.sliceAt,hu,ε,Instr.slice,O,hb,Option.isSome_none,Bc,Bv,Af,extract_mk]
theorem aRc {t:TypeId}{i:TI}{x y:Operand}{s:List UInt8}{kk:IntKind}{m:Int}{k:Nat}{b:UInt8}(W:Tok P T) (Y:o.op=.index t x y) (hd:o.dst=some d) (q:d<n) (J:T[t]?=some (some i)) (hk:i.k=.str)
  (hx:opv st x=some (Go.AM.T s)) (hy:opv st y=some (I kk m)) (hm:m=(k:Int)) (hb:s[k]?=some b):Step P n o st ⟨opr x++opr y,[]⟩ ⟨some (d,some (I .u8 ((b.toNat:Nat):Int))),[]⟩:=by
 refine Step.value hd q fun st' ha G S μ a w hs=>?_
 have hv:=lD (aQ hs hx fun t ht=>ha.1 t (by simp[ht]));have h2:=fF (aQ hs hy fun t ht=>ha.1 t (by simp[ht]));subst hm;refine⟨.int .u8 ((b.toNat:Nat):Int),?_,by simp[b6,bF,Rep]⟩;have hu:=As ((W.get J).str hk) w;have hg:(ByteArray.mk ⟨s⟩)[k]?=some b:=by
  have N:=(Ab.1 hb).1
  have O:(ByteArray.mk ⟨s⟩).size=s.length:=rfl;rw[getElem?_pos (ByteArray.mk ⟨s⟩) k (by rw[O];exact N)];have:=(Ab.1 hb).2
  rw[←this];rfl
 simp only[execOp,Y,hv,h2,Ae,Instr.index,asIntOf,Af,ε,hu];simp[hg]
theorem aZ9 {t1 t2:TypeId}{x y:Operand}{k:IntKind}{a b r:Int}(J:o.op=.call { callee:=.builtin .min,args:= #[x,y],argTypes:= #[t1,t2] }) (hd:o.dst=some d) (q:d<n) (hx:opv st x=some (I k a)) (hy:opv st y=some (I k b)) (N:(if b<a then b else a)=r):
  Step P n o st ⟨opr x++opr y,[]⟩ ⟨some (d,some (I k r)),[]⟩:=by
 refine Step.value hd q fun st' ha G S μ ac w hs=>?_
 have h1:=fF (aQ hs hx fun t h=>ha.1 t (by simp[h]));have h2:=fF (aQ hs hy fun t h=>ha.1 t (by simp[h]));refine⟨.int k r,?_,by simp[b6,bF,Rep]⟩;simp only[execOp,J,resolve,map_toArray,Am,Bs,h1,h2,Ae,Af,ε,invoke,builtin,Builtin.min_,List.foldlM_cons,List.foldlM_nil,Builtin.min2,N]
end
section
variable {P:Program}{n:Nat}{o:Oper}{st:St}{d:Nat}{T:TT}
theorem mW.rarr {S:Sto}{μ:Mu}{H:cR}{w:World}{id:Nat}{te es:Nat}{elems:List (List R)}(h:mW S μ H w id (.rarr te es elems)) {b base cap:Nat}(hm:μ id=some (b,base,cap)):
  (∀r∈elems,r.length=es)∧∃vs,w.heap[b]?=some (.cells ⟨vs⟩ te (0,0))∧base+cap*es≤vs.length∧elems.length≤cap∧(cap≤maxLen∧S.mapo b=none)∧aW S μ H elems.flatten ((vs.drop base).take (elems.length*es))∧(∀o,base≤o→S.cell b o=none):=by
 obtain⟨h0,h1 | ⟨b',q,I,vs,h1,h2,h3,h4,h5,h6,h7⟩⟩:=h
 ·rw[h1.1] at hm;cases hm
 ·rw[h1] at hm;cases hm;exact⟨h0,vs,h2,h3,h4,h5,h6,h7⟩
def wL (st:St) (es:Nat):Nat→List (Nat×Operand)→Option (List (List R))
 | _,[]=>some []
 | k,(i,x)::ps=>bif Nat.beq i k then(opv st x).bind fun v=>(iM v).bind fun rs=>bif Nat.beq rs.length es then(wL st es (k+1) ps).bind fun l=>some (rs::l) else none else none
theorem yT {es:Nat}:∀{ps:List (Nat×Operand)}{k:Nat}{l:List (List R)},wL st es k ps=some l→l.length=ps.length∧∀r∈l,r.length=es
 | [],k,l,h=>by simp[wL] at h;subst h;simp
 | (i,x)::ps,k,l,h=>by
  simp only[wL] at h;cases hi:Nat.beq i k with
  | false=>rw[hi] at h;cases h
  | true=>
   rw[hi] at h;simp only[Bo,Ah] at h;obtain⟨v,hv,rs,J,h⟩:=h;cases hl:Nat.beq rs.length es with
   | false=>rw[hl] at h;cases h
   | true=>
    rw[hl] at h;simp only[Bo,Ah] at h;obtain⟨l',I,h⟩:=h;cases h;obtain⟨h1,h2⟩:=yT I;refine⟨by simp[h1],fun r q=>?_⟩;rcases Ao.1 q with rfl | q
    ·exact Ac hl
    ·exact h2 r q
theorem aGy {G:Ctx}{S:Sto}{μ:Mu}{st':St}{a:Act}{w:World}(hs:Sim G n S μ st' a w) {es:Nat}:∀{k:Nat}{ps:List (Nat×Operand)}{rows:List (List R)},wL st es k ps=some rows→(∀t∈gN ps,st'.e t=st.e t)→
  ∀(cells:Array Value),cells.size=(k+ps.length)*es→∃out:Array Value,Instr.fill (fun i=>some (i*es,es)) cells (ps.map fun(i,x)=>(i,a.eval x))=some out∧out.size=cells.size∧
   ∃us,aW S μ st'.h rows.flatten us∧out.toList=cells.toList.take (k*es)++us:=by
 intro k ps
 induction ps generalizing k with
 | nil=>
  intro rows h _ cells hc;simp only[wL] at h;cases h;refine⟨cells,rfl,rfl,[],by simp[aW],?_⟩;rw[A0,Bb];simp at hc;simp[hc]
 | cons p ps ih=>
  obtain⟨i,x⟩:=p;intro rows h ha cells J;simp only[wL] at h;cases hi:Nat.beq i k with
  | false=>rw[hi] at h;cases h
  | true=>
   rw[hi] at h;have Y:=Ac hi;subst Y;simp only[Bo,Ah] at h;obtain⟨v,hv,rs,Z,h⟩:=h;cases hl:Nat.beq rs.length es with
   | false=>rw[hl] at h;cases h
   | true=>
    rw[hl] at h;simp only[Bo,Ah] at h;obtain⟨l',O,h⟩:=h;cases h;have hl':=Ac hl;have q:=eM (aQ hs hv fun t ht=>ha t (by simp[gN,ht])) Z;have aa:=q.length;simp only[Bf] at aa;simp only[Ag] at J;have hke:(i+(ps.length+1))*es=i*es+es+ps.length*es:=by
     rw[A5,A5];omega
    have W:=o6 (i*es) (a.eval x).cells.toList 0 cells (by simp only[Bf];omega);have N:(bY cells.toList (i*es) (a.eval x).cells.toList).length=cells.size:=by
     unfold bY;simp;omega
    obtain⟨out,h1,h2,us,h3,h4⟩:=ih O (fun t ht=>ha t (by simp[gN,ht])) ⟨bY cells.toList (i*es) (a.eval x).cells.toList⟩ (by
     simp only[size_toArray,N,J];congr 1
     omega)
    refine⟨out,?_,by rw[h2];simpa using N,(a.eval x).cells.toList++us,?_,?_⟩
    ·simp only[Am,Instr.fill];have I:((a.eval x).cells.size≠es || decide (i*es+(a.eval x).cells.size>cells.size))=false:=by
      simp only[Bool.or_eq_false_iff,Ct];exact⟨by simp;omega,by omega⟩
     simp only[I,Bc,Bv];have ab:((a.eval x).cells.zipIdx.foldl (fun cs (x:Value×Nat)=>cs.setIfInBounds (i*es+x.2) x.1) cells)=⟨bY cells.toList (i*es) (a.eval x).cells.toList⟩:=by
      rw[←Array.foldl_toList,Array.toList_zipIdx];simpa using W
     rw[←h1];congr 1
    ·rw[Bi];exact q.append h3
    ·rw[h4];have:(bY cells.toList (i*es) (a.eval x).cells.toList).take ((i+1)*es)=cells.toList.take (i*es)++(a.eval x).cells.toList:=by
      unfold bY;apply take_left';simp;rw[A5];omega
     show(bY cells.toList (i*es) (a.eval x).cells.toList).take ((i+1)*es)++us=_;rw[this,At]
theorem aOs {t e:TypeId}{i q:TI}{len:Nat}{parts:Array (Nat×Operand)}{rows:List (List R)}(id:Nat) (N:Tok P T) (ho:o.op=.buildSlice t len parts) (hd:o.dst=some d) (ae:d<n) (hi:T[t]?=some (some i)) (hk:i.k=.sl e) (I:T[e]?=some (some q))
  (J:wL st q.size 0 parts.toList=some rows) (hlen:Nat.beq len parts.size=true) (O:Nat.ble (len*q.size) 16777216=true) (aa:Nat.ble len 16777216=true) (hid:st.h id=none):
  Step P n o st ⟨gN parts.toList,[id]⟩ ⟨some (d,some (.one (.ra id 0 len len))),[(id,some (.rarr e q.size rows))]⟩:=by
 refine Step.new hd ae hid (by simp) fun st' ha ab G S μ a w hs=>?_
 have Y:=Ac hlen;have hsm:=Aq O;obtain⟨z,hz,ag,_⟩:=(N.get I).zero_run;have Z:=(ag S).length;rw[(N.get I).len] at Z;simp only[Bf] at Z;obtain⟨ah,ai⟩:=yT J;simp only[Bf] at ah;have key:∀(cells:Array Value),cells.size=len*q.size→∃out:Array Value,Instr.fill (fun i=>some (i*q.size,q.size)) cells (parts.map fun(i,x)=>(i,a.eval x)).toList=some out∧out.size=len*q.size∧aW S μ st'.h rows.flatten out.toList:=by
  intro cells hc;obtain⟨out,h1,h2,us,h3,h4⟩:=aGy hs J ha.1 cells (by rw[hc,Y];simp);refine⟨out,by rw[←h1];simp,by rw[h2,hc],?_⟩;simp at h4;rw[h4];exact h3
 have ac:∃out:Array Value,(Instr.buildSlice t len (parts.map fun(i,x)=>(i,a.eval x))).run P w=.ok (.slice (some ⟨w.heap.size,0,none⟩) len len) (w.alloc (.cells out e))∧out.size=len*q.size∧aW S μ st'.h rows.flatten out.toList:=by
  by_cases h0:len*q.size=0
  ·obtain⟨out,h1,h2,h3⟩:=key ((Array.range (len*q.size)).map ((#[]:Array Value)[· %(#[]:Array Value).size]!)) (by simp);refine⟨out,?_,h2,h3⟩;have W:¬len*q.size>2^24:=by omega
   simp only[Instr.buildSlice,Ae,As ((N.get hi).slice hk) w,ε,(N.get I).size_run w];rw[φ W,ξ h0];simp only[Ae,ε,Af,h1,iS]
  ·obtain⟨out,h1,h2,h3⟩:=key ((Array.range (len*q.size)).map (z.cells[· %z.cells.size]!)) (by simp);refine⟨out,?_,h2,h3⟩;have W:¬len*q.size>2^24:=by omega
   simp only[Instr.buildSlice,Ae,As ((N.get hi).slice hk) w,ε,(N.get I).size_run w];rw[φ W,φ h0];simp only[Ae,hz w,ε,Af,h1,iS]
 obtain⟨out,h1,h2,h3⟩:=ac;have aj:len≤maxLen:=by
  have:=Aq aa;unfold maxLen;omega
 have ad:rows.length=len:=by omega
 refine⟨_,_,.slice (some ⟨w.heap.size,0,none⟩) len len,(0,len),?_,WChg.alloc w (.cells out e),?_,?_⟩
 ·simp only[execOp,ho,Ae,h1,ε,Af]
 ·refine⟨ai,.inr ⟨w.heap.size,0,len,out.toList,aK _ _ _,Ca w _,by simp[h2],by omega,⟨aj,s6 hs.inv⟩,?_,fun o _=>iH hs.inv o⟩⟩;simp only[Ce];rw[Bb (by simp[h2,ad])];exact aW.evolve (gV ab _ _) _ _ h3
 ·simp only[b6,bF];exact⟨⟨_,_,_,rfl⟩,.inr ⟨e,q.size,rows,aK _ _ _,by omega,fun _=>⟨by omega,.inr ⟨w.heap.size,0,len,aK _ _ _,by simp⟩⟩⟩⟩
theorem aG4 {t e:TypeId}{i N:TI}{x y:Operand}{te es k id off len sz:Nat}{kk:IntKind}{m:Int}{elems:List (List R)}(hT:Tok P T) (ho:o.op=.indexAddr t x y) (hd:o.dst=some d) (O:d<n) (hi:T[t]?=some (some i)) (hk:i.k=.sl e) (W:T[e]?=some (some N)) (Y:N.size=es)
  (hx:opv st x=some (.one (.ra id off len sz))) (hh:st.h id=some (.rarr te es elems)) (J:sz=elems.length) (hy:opv st y=some (I kk m)) (hm:m=(k:Int)) (Z:k<len):Step P n o st ⟨opr x++opr y,[id]⟩ ⟨some (d,some (.one (.rp id (off+k) 0 sz))),[]⟩:=by
 refine Step.value hd O fun st' ha G S μ a w hs=>?_
 have hv:=aQ hs hx fun t ht=>ha.1 t (by simp[ht])
 have aa:=fF (aQ hs hy fun t ht=>ha.1 t (by simp[ht]));have q:st'.h id=some (.rarr te es elems):=by rw[ha.2 id (by simp),hh]
 simp only[b6,bF] at hv;obtain⟨_,hv | ⟨te',es',elems',h1,h2,h3⟩⟩:=hv
 ·rw[q] at hv;cases hv
 rw[q] at h1;cases h1;obtain⟨h4,⟨h5,h6,h7⟩ | ⟨b,base,cap,h5,h6⟩⟩:=h3 J
 ·subst h6;simp at J;omega
 subst hm;refine⟨.pointer (some ⟨b,base+(off+k)*es+0,none⟩),?_,?_⟩
 ·simp only[execOp,ho,h6,aa,Ae,kA hT hi hk W w b (base+off*es) len _ k kk Z,ε,Af,Y,Bw];rw[show base+off*es+k*es=base+(off+k)*es by rw[A5];omega]
 ·simp only[b6,bF];exact⟨⟨_,rfl⟩,.inr ⟨te,es,elems,q,h2,fun _=>⟨by omega,b,base,cap,h5,rfl⟩⟩⟩
theorem aG6 {t J:TypeId}{i N:TI}{fs:List (Nat×TypeId)}{f q:Nat}{x:Operand}{id k fo sz:Nat}(Z:Tok P T) (ho:o.op=.fieldAddr t x f) (hd:o.dst=some d) (O:d<n) (hi:T[t]?=some (some i)) (hk:i.k=.st fs) (hf:fs[f]?=some (q,J)) (W:T[J]?=some (some N)) (hz:N.size≠0)
  {te es:Nat} {elems:List (List R)} (hx:opv st x=some (.one (.rp id k fo sz))) (hh:st.h id=some (.rarr te es elems)) (Y:sz=elems.length):Step P n o st ⟨opr x,[id]⟩ ⟨some (d,some (.one (.rp id k (fo+q) sz))),[]⟩:=by
 refine Step.value hd O fun st' ha G S μ a w hs=>?_
 have hv:=aQ hs hx ha.1;have I:st'.h id=some (.rarr te es elems):=by rw[ha.2 id (by simp),hh]
 simp only[b6,bF] at hv;obtain⟨_,hv | ⟨te',es',elems',h1,h2,h3⟩⟩:=hv
 ·rw[I] at hv;cases hv
 rw[I] at h1;cases h1;obtain⟨h4,b,base,cap,h5,h6⟩:=h3 Y;refine⟨.pointer (some ⟨b,base+k*es+fo+q,none⟩),?_,?_⟩
 ·simp only[execOp,ho,h6,Ae,iY Z hi hk hf W hz,ε,Af]
 ·simp only[b6,bF];exact⟨⟨_,rfl⟩,.inr ⟨te,es,elems,I,h2,fun _=>⟨h4,b,base,cap,h5,by rw[B8]⟩⟩⟩
theorem aOy {t e:TypeId}{i:TI}{x:Operand}{te es id off len sz:Nat}{elems:List (List R)}(N:Tok P T) (O:o.op=.call { callee:=.builtin .len,args:= #[x],argTypes:= #[t] }) (hd:o.dst=some d) (W:d<n) (hi:T[t]?=some (some i)) (hk:i.k=.sl e)
  (hx:opv st x=some (.one (.ra id off len sz))) (hh:st.h id=some (.rarr te es elems)) (q:sz=elems.length):Step P n o st ⟨opr x,[id]⟩ ⟨some (d,some (I .i64 (len:Int))),[]⟩:=by
 refine Step.value hd W fun st' ha G S μ a w hs=>?_
 have hv:=aQ hs hx ha.1;have J:st'.h id=some (.rarr te es elems):=by rw[ha.2 id (by simp),hh]
 simp only[b6,bF] at hv;obtain⟨_,hv | ⟨Y,Z,elems',h1,h2,h3⟩⟩:=hv
 ·rw[J] at hv;cases hv
 rw[J] at h1;cases h1;obtain⟨h4,⟨h5,h6,h7⟩ | ⟨b,base,cap,h5,h6⟩⟩:=h3 q
 ·have hl:len=0:=by subst h6;simp at q;omega
  subst hl;refine⟨goInt 0,k9 O h7 ?_,by simp[b6,bF,Rep,goInt]⟩;simp[Builtin.len_,As ((N.get hi).slice hk) w]
 ·refine⟨goInt len,k9 O h6 ?_,by simp[b6,bF,Rep,goInt]⟩;simp[Builtin.len_,As ((N.get hi).slice hk) w]
theorem aJh {S:Sto}{μ:Mu}{H:cR}{es base:Nat}{elems:List (List R)}{vs:List Value}(h0:∀r∈elems,r.length=es) (h:aW S μ H elems.flatten ((vs.drop base).take (elems.length*es))) {k:Nat}{r:List R}(hk:elems[k]?=some r):
  aW S μ H r ((vs.drop (base+k*es)).take es):=by
 have q:k<elems.length:=(Ab.1 hk).1
 have hmul:(k+1)*es≤elems.length*es:=Ay _ q;rw[A5] at hmul;have h1:=(h.drop (k*es)).take es;rw[eG h0 k r hk] at h1;rw[drop_take,take_take,drop_drop,B5 (by omega)] at h1;exact h1
theorem aJr {t te es:Nat}{i:TI}{x:Operand}{id k fo sz:Nat}{elems:List (List R)}{r:List R}{y:V}(hT:Tok P T) (ho:o.op=.load t x) (hd:o.dst=some d) (O:d<n) (hi:T[t]?=some (some i)) (hx:opv st x=some (.one (.rp id k fo sz)))
  (hh:st.h id=some (.rarr te es elems)) (W:sz=elems.length) (Y:elems[k]?=some r) (hl:fo+i.size≤es) (hy:qE i ((r.drop fo).take i.size)=some y):Step P n o st ⟨opr x,[id]⟩ ⟨some (d,some y),[]⟩:=by
 refine Step.value hd O fun st' ha G S μ a w hs=>?_
 have hv:=aQ hs hx ha.1;have I:st'.h id=some (.rarr te es elems):=by rw[ha.2 id (by simp),hh]
 simp only[b6,bF] at hv;obtain⟨_,hv | ⟨te',es',elems',h1,h2,h3⟩⟩:=hv
 ·rw[I] at hv;cases hv
 rw[I] at h1;cases h1;obtain⟨h4,b,base,cap,h5,h6⟩:=h3 W;obtain⟨g0,vs,g1,g2,g3,g4,g5,g6⟩:=(hs.inv.obj id _ I).rarr h5;have N:=aJh g0 g5 Y;have q:=(N.drop fo).take i.size;rw[drop_take,take_take,drop_drop,B5 (by omega)] at q;have hlt:k<elems.length:=(Ab.1 Y).1
 have hmul:(k+1)*es≤cap*es:=Ay _ (by omega);rw[A5] at hmul;have Z:((vs.drop (base+k*es+fo)).take i.size).length=i.size:=a0s (by omega);have aa:=kC g1 (base+k*es+fo) i.size;refine⟨_,?_,lM q hy⟩;have J:=run_load (hT.get hi) w b (base+k*es+fo) _ aa Z;simp only[execOp,ho,h6,Ae,Af] at J ⊢;rw[J];rfl
theorem wO {x:Operand}{te es id k fo sz:Nat}{elems:List (List C)}{fz:Nat}(N:o.op=.nilCheck x) (hd:o.dst=some d) (I:d<n) (hx:opv st x=some (.one (.ep id k fo sz))) (hh:st.h id=some (.arr te es elems fz)) (J:sz=elems.length):
  Step P n o st ⟨opr x,[id]⟩ ⟨some (d,some (.one (.ep id k fo sz))),[]⟩:=by
 refine Step.value hd I fun st' ha G S μ a w hs=>⟨a.eval x,?_,aQ hs hx ha.1⟩
 have hv:=aQ hs hx ha.1;have q:st'.h id=some (.arr te es elems fz):=by rw[ha.2 id (by simp),hh]
 simp only[b6,bF] at hv;obtain⟨_,hv | ⟨O,W,elems',Y,h1,h2,h3⟩⟩:=hv
 ·rw[q] at hv;cases hv
 rw[q] at h1;cases h1;obtain⟨h4,b,base,cap,h5,h6⟩:=h3 J;simp[execOp,N,h6]
theorem wN {x:Operand}{te es id k fo sz:Nat}{elems:List (List R)}(N:o.op=.nilCheck x) (hd:o.dst=some d) (I:d<n) (hx:opv st x=some (.one (.rp id k fo sz))) (hh:st.h id=some (.rarr te es elems)) (J:sz=elems.length):
  Step P n o st ⟨opr x,[id]⟩ ⟨some (d,some (.one (.rp id k fo sz))),[]⟩:=by
 refine Step.value hd I fun st' ha G S μ a w hs=>⟨a.eval x,?_,aQ hs hx ha.1⟩
 have hv:=aQ hs hx ha.1;have q:st'.h id=some (.rarr te es elems):=by rw[ha.2 id (by simp),hh]
 simp only[b6,bF] at hv;obtain⟨_,hv | ⟨O,W,elems',h1,h2,h3⟩⟩:=hv
 ·rw[q] at hv;cases hv
 rw[q] at h1;cases h1;obtain⟨h4,b,base,cap,h5,h6⟩:=h3 J;simp[execOp,N,h6]
end
section
variable {P:Program}{n:Nat}{o:Oper}{st:St}{d:Nat}{T:TT}
theorem vK {t e:TypeId}{i q:TI}{x y:Operand}{id id2 sz te2:Nat}{elems rows:List (List R)}{st':St}{G:Ctx}{S:Sto}{μ:Mu}{a:Act}{w:World}(hT:Tok P T) (ho:o.op=.call { callee:=.builtin .append,args:= #[x,y],argTypes:= #[t,t] })
  (hi:T[t]?=some (some i)) (hk:i.k=.sl e) (hei:T[e]?=some (some q)) (hes:Nat.ble 1 q.size=true) (heb:Nat.ble 1 q.bytes=true)
  (hsz:sz=elems.length) (hpos:0<rows.length) (hroom:(elems.length+rows.length)*q.bytes≤140737488355328) (hh':st'.h id=some (.rarr e q.size elems)) (hs:Sim G n S μ st' a w)
  (hvx:b6 S μ st'.h (.one (.ra id 0 sz sz)) (a.eval x)) (hvy:b6 S μ st'.h (.one (.ra id2 0 rows.length rows.length)) (a.eval y)) (hh2:st'.h id2=some (.rarr te2 q.size rows)):
  ∃w' v b bo c,(execOp a.eval o).run P w=.ok (.value v) w'∧(w.heap.size≤b∨∃c',μ id=some (b,c'))∧WChg w w' b bo∧
   mW S (upd μ id (some (b,c))) (upd st'.h id (some (.rarr e q.size (elems++rows)))) w' id (.rarr e q.size (elems++rows))∧(∀o v,S.cell b o=some v→∃vs t fr,bo=.cells vs t fr∧vs[o]?=some v)∧(∀m,S.mapo b=some m→w.heap.size≤b)∧
   Evolve S μ st'.h S (upd μ id (some (b,c))) (upd st'.h id (some (.rarr e q.size (elems++rows))))∧
   b6 S (upd μ id (some (b,c))) (upd st'.h id (some (.rarr e q.size (elems++rows)))) (.one (.ra id 0 (elems.length+rows.length) (elems.length+rows.length))) v:=by
 subst hsz;have hes':=Aq hes;have heb':=Aq heb
 have hE:∀b c,Evolve S μ st'.h S (upd μ id (some (b,c))) (upd st'.h id (some (.rarr e q.size (elems++rows)))):=fun b c=>⟨S.le_refl,fun j x hj=>by
  by_cases hne:j=id
  ·subst hne;rw[hh'] at hj;cases hj;exact⟨_,aK _ _ _,by simp only[AObj.succ,true_and];exact⟨by simp,fun e=>by rw[ω] at e;omega⟩⟩
  ·exact⟨x,by rw[bE _ _ _ hne];exact hj,x.succ_refl (bE _ _ _ hne)⟩⟩
 obtain⟨ad,cc,news,hvy1,J,hrl,W⟩:∃ad cc news,a.eval y=.slice (some ad) rows.length cc∧aW S μ st'.h rows.flatten news∧(∀r∈rows,r.length=q.size)∧∀j u,news[j]?=some u→w.cell? (ad.add j)=some u:=by
  simp only[b6,bF] at hvy;obtain⟨_,hv | ⟨te',es',elems',h1,h2,h3⟩⟩:=hvy
  ·rw[hh2] at hv;cases hv
  rw[hh2] at h1;cases h1;obtain⟨h4,⟨h5,h6,h7⟩ | ⟨b,base,cap,h5,h6⟩⟩:=h3 rfl
  ·rw[h6] at hpos;simp at hpos
  obtain⟨g0,vs,g1,g2,g3,g4,g5,g6⟩:=(hs.inv.obj id2 _ hh2).rarr h5;refine⟨_,_,_,h6,g5,g0,fun j u hj=>?_⟩;rw[Addr.add_mid,cell_of_row w b _ ⟨vs⟩ te2 (0,0) g1];rw[Av] at hj;split at hj
  ·rw[Ap] at hj;simpa using hj
  ·cases hj
 have N:news.length=rows.length*q.size:=by rw[J.length,j4 hrl]
 obtain⟨inf,dd,z,g1,g2,g3,g4,g5,g6,g7,g8⟩:=(hT.get hei).ex;have hu:=(hT.get hi).slice hk;have hzs:z.cells.size=q.size:=by
  have h1:=(k8 (S:=S) g7).length;rw[(hT.get hei).len] at h1;simpa using h1
 simp only[b6,bF] at hvx;obtain⟨_,hv | ⟨te',es',elems',h1,h2,h3⟩⟩:=hvx
 ·rw[hh'] at hv;cases hv
 rw[hh'] at h1;cases h1;obtain⟨h4,hcase⟩:=h3 rfl;have hbig:elems.length+rows.length≤140737488355328:=by
  have:(elems.length+rows.length)*1≤(elems.length+rows.length)*q.bytes:=mul_le_mul_left _ heb';omega
 have hone:∀u∈news,u.oneCell'=true:=J.one;have hcap:∀old,elems.length+rows.length≤grownCap w (elems.length+rows.length) old e∧grownCap w (elems.length+rows.length) old e≤maxLen:=fun old=>
  ⟨grownCap_ge _ _ _ _,grownCap_le_maxLen _ _ _ _ (by unfold maxLen;omega)⟩
 have hlen':(elems++rows).length=elems.length+rows.length:=by simp
 have O:∀(Y:List Value) (old:Nat),aW S μ st'.h elems.flatten Y→∀g0:(∀r∈elems,r.length=q.size),
   mW S (upd μ id (some (w.heap.size,0,grownCap w (elems.length+rows.length) old e))) (upd st'.h id (some (.rarr e q.size (elems++rows))))
    (w.drew.alloc (.cells (Y.toArray++news.toArray++Builtin.zeroCells z.cells (grownCap w (elems.length+rows.length) old e-(elems.length+rows.length))) e)) id (.rarr e q.size (elems++rows)):=by
  intro Y old hol g0;obtain⟨hc1,hc2⟩:=hcap old;have Z:=hol.length;rw[j4 g0] at Z;refine⟨?_,.inr ⟨w.heap.size,0,grownCap w (elems.length+rows.length) old e,(Y.toArray++news.toArray++Builtin.zeroCells z.cells (grownCap w (elems.length+rows.length) old e-(elems.length+rows.length))).toList,aK _ _ _,Ca w.drew _,?_,by simpa using hc1,⟨hc2,s6 hs.inv⟩,?_,fun o _=>iH hs.inv o⟩⟩
  ·intro r I;rcases χ.1 I with I | I
   ·exact g0 r I
   ·exact hrl r I
  ·simp only[Array.toList_append,ω,Bf,size_zeroCells,hzs];simp only[Z,N,Be,←A5];exact Ay _ (by omega)
  ·simp only[Array.toList_append,Ce,ω,flatten_append];rw[Cp (by simp[Z,N,A5]),Bb (by simp[Z,N,A5])];exact(aW.evolve (hE _ _) _ _ hol).append (aW.evolve (hE _ _) _ _ J)
 rcases hcase with⟨h5,h6,h7⟩ | ⟨b,base,cap,h5,h6⟩
 ·--the first elements
  subst h6;simp only[length_nil,Be] at hroom hbig O hcap;have I:=run_append_nil (P:=P) w t o.type e inf z hu g1 g6 ad rows.length cc news (by rw[N,g3]) W (by omega) (by omega) (by rw[g4];omega);refine⟨_,_,w.heap.size,_,(0,grownCap w rows.length 0 e),fQ ho h7 hvy1 I,.inl (le_refl _),WChg.alloc_drew w _,?_,fun o v e=>(by rw[iH hs.inv o] at e;cases e),fun m e=>le_refl _,hE _ _,?_⟩
  ·have:=O [] 0 (by simp[aW]) (by simp);simpa using this
  ·simp only[b6,bF];exact⟨⟨_,_,_,rfl⟩,.inr ⟨e,q.size,_,aK _ _ _,by simp,fun _=>⟨by simp,.inr ⟨w.heap.size,0,_,aK _ _ _,by simp⟩⟩⟩⟩
 ·obtain⟨q0,vs,q1,q2,q3,q4,q5,q6⟩:=(hs.inv.obj id _ hh').rarr h5;have hce:elems.length*q.size≤cap*q.size:=Ay _ q3;simp only[sub_zero,Nat.zero_mul,Bw] at h6;by_cases aa:elems.length+rows.length≤cap
  ·--there is room
   have hce2:(elems.length+rows.length)*q.size≤cap*q.size:=Ay _ aa;rw[A5] at hce2;have I:=kK (P:=P) w t o.type e inf hu g1 b base elems.length cap ⟨vs⟩ q1 ad rows.length cc news (by rw[N,g3]) W hone aa (by rw[g3,N];simp only[size_toArray];omega);rw[g3] at I;have hW:=WChg.setRow w b ⟨vs⟩ ⟨vs.take (base+elems.length*q.size)++news++vs.drop (base+elems.length*q.size+news.length)⟩ e (0,0) q1
   refine⟨_,_,b,_,(base,cap),fQ ho h6 hvy1 I,.inr ⟨_,h5⟩,hW,⟨?_,.inr ⟨b,base,cap,_,aK _ _ _,hW.new,?_,by rw[hlen'];omega,q4,?_,q6⟩⟩,fun o v e=>(by
     by_cases hb:base≤o
     ·rw[q6 o hb] at e;cases e
     ·obtain⟨vs0,t0,fr0,p1,p2⟩:=hs.inv.holds.1 b o v e;rw[q1] at p1;cases p1;refine⟨_,_,_,rfl,?_⟩;simp only[List.getElem?_toArray] at p2 ⊢;have hlt:o<vs.length:=(Ab.1 p2).1
      rw[At,A9 (by simp;omega),Av,ξ (by omega)]
      exact p2),fun m e=>j3 q4.2 m e,hE _ _,?_⟩
   ·intro r I;rcases χ.1 I with I | I
    ·exact q0 r I
    ·exact hrl r I
   ·simp only[ω,Au,Bx];omega
   ·rw[hlen',flatten_append];have e1:((vs.take (base+elems.length*q.size)++news++vs.drop (base+elems.length*q.size+news.length)).drop base).take ((elems.length+rows.length)*q.size)=(vs.drop base).take (elems.length*q.size)++news:=by
     rw[At,List.drop_append_of_le_length (by simp;omega),←At,Cp (by simp[A5];omega)];rw[Bb (by simp[A5];omega),drop_take];rw[show base+elems.length*q.size-base=elems.length*q.size by omega]
    rw[e1];exact(aW.evolve (hE _ _) _ _ q5).append (aW.evolve (hE _ _) _ _ J)
   ·simp only[b6,bF];exact⟨⟨_,_,_,rfl⟩,.inr ⟨e,q.size,_,aK _ _ _,by simp,fun _=>⟨by simp,.inr ⟨b,base,cap,aK _ _ _,by simp⟩⟩⟩⟩
  ·--into a new block
   have I:=run_append_grow (P:=P) w t o.type e inf z hu g1 g6 ⟨b,base,none⟩ elems.length cap ((vs.drop base).take (elems.length*q.size)) (by rw[g3];simp;omega) (by
     intro j v hj;rw[Addr.add_mid,cell_of_row w b _ ⟨vs⟩ e (0,0) q1];rw[Av] at hj;split at hj
     ·rw[Ap] at hj;simpa using hj
     ·cases hj) ad rows.length cc news (by rw[N,g3]) W (by omega) (by omega) (by rw[g4];exact growslice_fits (by omega) hroom)
   refine⟨_,_,w.heap.size,_,(0,grownCap w (elems.length+rows.length) cap e),fQ ho h6 hvy1 I,.inl (le_refl _),WChg.alloc_drew w _,?_,fun o v e=>(by rw[iH hs.inv o] at e;cases e),fun m e=>le_refl _,hE _ _,?_⟩
   ·have:=O _ cap q5 q0;simpa using this
   ·simp only[b6,bF];exact⟨⟨_,_,_,rfl⟩,.inr ⟨e,q.size,_,aK _ _ _,by simp,fun _=>⟨by simp,.inr ⟨w.heap.size,0,_,aK _ _ _,by simp⟩⟩⟩⟩
theorem aFq {y:V}{id te es:Nat}{elems:List (List R)}(hd:o.dst=some d) (J:d<n) {st':St}{G:Ctx}{S:Sto}{μ:Mu}{a:Act}{w:World}{K:Act→World→Prop}{Q:Exit→Act→World→Prop}
  (hs:Sim G n S μ st' a w) (q:∀b c',μ id=some (b,c')→∃ao,st'.h id=some ao) (hk:∀S' μ' N w',Sim G n S' μ' (Eff.apply ⟨some (d,some y),[(id,some (.rarr te es elems))]⟩ st') N w'→K N w')
  (h:∃w' v b I c,(execOp a.eval o).run P w=.ok (.value v) w'∧(w.heap.size≤b∨∃c',μ id=some (b,c'))∧WChg w w' b I∧mW S (upd μ id (some (b,c))) (upd st'.h id (some (.rarr te es elems))) w' id (.rarr te es elems)∧
   (∀o v,S.cell b o=some v→∃vs t fr,I=.cells vs t fr∧vs[o]?=some v)∧(∀m,S.mapo b=some m→w.heap.size≤b)∧Evolve S μ st'.h S (upd μ id (some (b,c))) (upd st'.h id (some (.rarr te es elems)))∧b6 S (upd μ id (some (b,c))) (upd st'.h id (some (.rarr te es elems))) y v):
  ∀ro,o.wpIn (Wd ro) 0 P a w K Q:=by
 obtain⟨w',v,b,I,c,Z,hb,hw,hO,hS,O,W,hv⟩:=h;refine fun ro=>iO Z ?_
 rw[hd];have hi:=hs.inv.chg (id:=id) (cap:=c) (ao:=.rarr te es elems) hw (hb.imp (fun h=>h) fun⟨c',h⟩=>by obtain⟨ao,Y⟩:=q _ _ h;exact⟨_,c',Y,h⟩) W hO hS O;have:=hs.put hi W J (x:=some y) (v:=v) (fun z hz=>by cases hz;exact hv);refine hk S (upd μ id (some (b,c))) _ _ ?_;unfold Eff.apply;rw[dH];exact this
theorem aJz {t e:TypeId}{i q:TI}{x y:Operand}{id I sz N:Nat}{elems rows:List (List R)}(hT:Tok P T) (ho:o.op=.call { callee:=.builtin .append,args:= #[x,y],argTypes:= #[t,t] }) (hd:o.dst=some d) (Z:d<n)
  (hi:T[t]?=some (some i)) (hk:i.k=.sl e) (aa:T[e]?=some (some q)) (ab:Nat.ble 1 q.size=true) (ac:Nat.ble 1 q.bytes=true)
  (hx:opv st x=some (.one (.ra id 0 sz sz))) (hh:st.h id=some (.rarr e q.size elems)) (ad:sz=elems.length) (hy:opv st y=some (.one (.ra I 0 rows.length rows.length))) (ae:st.h I=some (.rarr N q.size rows)) (W:0<rows.length)
  (J:(elems.length+rows.length)*q.bytes≤140737488355328):
  Step P n o st ⟨opr x++opr y,[id,I]⟩ ⟨some (d,some (.one (.ra id 0 (elems.length+rows.length) (elems.length+rows.length)))),[(id,some (.rarr e q.size (elems++rows)))]⟩:=by
 intro st' ha G S μ a w K Q hs ag;have ah:=aQ hs hx fun t ht=>ha.1 t (by simp[ht])
 have ai:=aQ hs hy fun t ht=>ha.1 t (by simp[ht])
 have O:st'.h id=some (.rarr e q.size elems):=by rw[ha.2 id (by simp),hh]
 have Y:st'.h I=some (.rarr N q.size rows):=by rw[ha.2 I (by simp),ae]
 exact aFq hd Z hs (fun _ _ _=>⟨_,O⟩) ag (vK hT ho hi hk aa ab ac ad W J O hs ah ai Y)
theorem Inv.emptyR {G:Ctx}{S:Sto}{μ:Mu}{H:cR}{w:World}{id:Nat}(te es:Nat) (h:Inv G S μ H w) (hid:H id=none):Inv G S (upd μ id none) (upd H id (some (.rarr te es []))) w∧Evolve S μ H S (upd μ id none) (upd H id (some (.rarr te es []))):=by
 have J:Evolve S μ H S (upd μ id none) (upd H id (some (.rarr te es []))):=gV hid _ _;refine⟨⟨h.holds,fun j x hj=>?_,fun i j x x' b c c' hi hj hm q=>?_,fun i x b c hi hm=>?_,h.frame,h.sle,h.sto,h.evo.trans J,h.fre⟩,J⟩
 ·by_cases I:j=id
  ·subst I;rw[aK] at hj;cases hj;exact⟨by simp,.inl ⟨aK _ _ _,rfl⟩⟩
  ·rw[bE _ _ _ I] at hj;exact(h.obj j x hj).evolve J (bE _ _ _ I) fun _ _ _=>⟨rfl,fun _=>rfl,rfl⟩
 ·have h1:i≠id:=fun e=>by subst e;rw[aK] at hm;cases hm
  have h2:j≠id:=fun e=>by subst e;rw[aK] at q;cases q
  rw[bE _ _ _ h1] at hi hm;rw[bE _ _ _ h2] at hj q;exact h.inj i j x x' b c c' hi hj hm q
 ·have h1:i≠id:=fun e=>by subst e;rw[aK] at hm;cases hm
  rw[bE _ _ _ h1] at hi hm;exact h.own i x b c hi hm
theorem aG9 {t e:TypeId}{i q:TI}{x y:Operand}{I Y:Nat}{rows:List (List R)}(id:Nat) (hT:Tok P T) (ho:o.op=.call { callee:=.builtin .append,args:= #[x,y],argTypes:= #[t,t] }) (hd:o.dst=some d) (hdn:d<n)
  (hi:T[t]?=some (some i)) (hk:i.k=.sl e) (hei:T[e]?=some (some q)) (hes:Nat.ble 1 q.size=true) (heb:Nat.ble 1 q.bytes=true)
  (hx:opv st x=some (.one (.c .nl))) (hid:st.h id=none) (hy:opv st y=some (.one (.ra I 0 rows.length rows.length))) (hh2:st.h I=some (.rarr Y q.size rows)) (aa:0<rows.length)
  (W:rows.length*q.bytes≤140737488355328):
  Step P n o st ⟨opr x++opr y,[id,I]⟩ ⟨some (d,some (.one (.ra id 0 rows.length rows.length))),[(id,some (.rarr e q.size rows))]⟩:=by
 intro st' ha G S μ a w K Q hs hk';have N:st'.h id=none:=by rw[ha.2 id (by simp),hid]
 obtain⟨hi',hE⟩:=hs.inv.emptyR e q.size N;have Z:Sim G n S (upd μ id none) ⟨st'.e,upd st'.h id (some (.rarr e q.size [])),st'.d⟩ a w:=⟨hi',hs.size,hs.defers.evolve hE,fun t v e=>b6.evolve hE v _ (hs.env t v e)⟩
 have O:=aQ hs hx fun t ht=>ha.1 t (by simp[ht])
 have hvy:=aQ hs hy fun t ht=>ha.1 t (by simp[ht])
 have J:st'.h I=some (.rarr Y q.size rows):=by rw[ha.2 I (by simp),hh2]
 simp only[b6,bF,Rep] at O;have hvx':b6 S (upd μ id none) (upd st'.h id (some (.rarr e q.size []))) (.one (.ra id 0 0 0)) (a.eval x):=by
  simp only[b6,bF];exact⟨⟨_,_,_,O⟩,.inr ⟨e,q.size,[],aK _ _ _,le_refl _,fun _=>⟨le_refl _,.inl ⟨aK _ _ _,rfl,O⟩⟩⟩⟩
 have hne:I≠id:=fun e=>by subst e;rw[N] at J;cases J
 have:=vK (elems:=[]) (id:=id) hT ho hi hk hei hes heb rfl aa (by simpa using W) (aK _ _ _) Z hvx' (b6.evolve hE _ _ hvy) (by
  show upd st'.h id (some (.rarr e q.size [])) I=_;rw[bE _ _ _ hne]
  exact J)
 refine aFq hd hdn Z (fun _ _ _=>⟨_,aK _ _ _⟩) (fun S' μ' a' w' h=>hk' S' μ' a' w' ?_) this;have e1:Eff.apply ⟨some (d,some (.one (.ra id 0 (([]:List (List R)).length+rows.length) (([]:List (List R)).length+rows.length)))),[(id,some (.rarr e q.size ([]++rows)))]⟩ ⟨st'.e,upd st'.h id (some (.rarr e q.size [])),st'.d⟩
   =Eff.apply ⟨some (d,some (.one (.ra id 0 rows.length rows.length))),[(id,some (.rarr e q.size rows))]⟩ st':=by
  unfold Eff.apply;rw[dH,dH,oO];simp
 rw[e1] at h;exact h
end
section
variable {P:Program}{n:Nat}{o:Oper}{st:St}{d:Nat}{T:TT}
theorem aTq {src dst:TypeId}{i j:TI}{x:Operand}{k k':IntKind}{m:Int}(q:Tok P T) (W:o.op=.convert src dst x) (hd:o.dst=some d) (J:d<n) (hi:T[src]?=some (some i)) (N:i.k=.int k) (hj:T[dst]?=some (some j)) (O:j.k=.int k')
  (hx:opv st x=some (I k m)):Step P n o st ⟨opr x,[]⟩ ⟨some (d,some (I k' (k'.wrap m))),[]⟩:=by
 refine Step.value hd J fun st' ha G S μ a w hs=>?_
 have hv:=fF (aQ hs hx ha.1);refine⟨.int k' (k'.wrap m),?_,by simp[b6,bF,Rep]⟩;have h1:=(q.get hi).int N;have h2:=(q.get hj).int O;simp only[execOp,W,hv,Ae,convert,As h1 w,As h2 w,ε,Conv.intToInt,Af]
theorem aTr {src dst e:TypeId}{i j ei:TI}{x:Operand}{v:V}{ids:List Nat}{rows:List (List C)}{ns:List Int}(W:Tok P T) (ho:o.op=.convert src dst x) (hd:o.dst=some d) (hdn:d<n) (hi:T[src]?=some (some i)) (hik:i.k=.sl e) (hei:T[e]?=some (some ei)) (hek:ei.k=.int .u8)
  (hj:T[dst]?=some (some j)) (hjk:j.k=.str) (hx:opv st x=some v) (Y:Src st 1 ids v rows) (Z:rows=ns.map fun m=>[C.int .u8 m]):Step P n o st ⟨opr x,ids⟩ ⟨some (d,some (Go.AM.T (ns.map fun m=>UInt8.ofNat m.toNat))),[]⟩:=by
 refine Step.value hd hdn fun st' ha G S μ a w hs=>?_
 have hv:=aQ hs hx ha.1;obtain⟨q,c,news,h1,h2,h3,h4,h5⟩:=Y.rel hs ha.2 hv;have J:=(W.get hi).slice hik;have N:=(W.get hei).int hek;have O:=(W.get hj).str hjk;have I:∀(ns:List Int) (news:List Value),dL S (ns.map fun m=>[C.int .u8 m]).flatten news→news=ns.map (Value.int .u8):=by
  intro ns
  induction ns with
  | nil=>intro news h;simpa [dL] using h
  | cons m ns ih=>
   intro news h;simp only[Am,Bi,List.singleton_append,dL,Rep] at h;obtain⟨u,us,rfl,rfl,h⟩:=h;rw[ih us h];rfl
 rw[Z] at h2;have hn:=I ns news h2;have aa:(convert src dst (a.eval x)).run P w=.ok (.string ⟨⟨ns.map fun m=>UInt8.ofNat m.toNat⟩⟩) w:=by
  rw[h1];cases q with
  | none=>
   have h6:=h4 rfl;rw[Z] at h6;have:ns=[]:=by simpa using h6
   subst this;exact run_convert_bytes_nil w src e J N _ _ dst O
  | some q=>
   have hlen:rows.length=ns.length:=by rw[Z];simp
   have hl:(loadCells q ns.length).run P w=.ok (ns.map (Value.int .u8)).toArray w:=by
    have:=run_loadCells_list (P:=P) w q (ns.map (Value.int .u8)) (fun j v hj=>h5 q rfl j v (by rw[hn];exact hj));simpa using this
   rw[hlen,run_convert_bytes_string w src dst e _ _ _ J N O,run_bytesToString w _ _ _ ns hl,foldl_push_bytes];simp[ByteArray.empty,ByteArray.emptyWithCapacity];rfl
 refine⟨.string ⟨⟨ns.map fun m=>UInt8.ofNat m.toNat⟩⟩,?_,by simp[b6,bF,Rep]⟩;simp only[execOp,ho,Ae,aa,ε,Af]
theorem bH.length {S:Sto}{agg:Bool}:∀{l:List (List C)}{es:List MapEntry},bH S agg l es→es.length=l.length
 | [],es,h=>by simp only[bH] at h;subst h;rfl
 | r::rs,es,h=>by
  simp only[bH] at h;obtain⟨e,q,rfl,_,h⟩:=h;simp[bH.length h]
theorem aJw {t Y Z:TypeId}{i:TI}{x:Operand}{id:Nat}{agg:Bool}{ents:List (List C)}(hT:Tok P T) (ho:o.op=.call { callee:=.builtin .len,args:= #[x],argTypes:= #[t] }) (hd:o.dst=some d) (J:d<n) (hi:T[t]?=some (some i)) (hk:i.k=.mp Y Z)
  (hx:opv st x=some (.one (.mr id))) (hh:st.h id=some (.map agg ents)) (N:kL ents):Step P n o st ⟨opr x,[id]⟩ ⟨some (d,some (I .i64 (ents.length:Int))),[]⟩:=by
 refine Step.value hd J fun st' ha G S μ a w hs=>?_
 have hv:=aQ hs hx ha.1;have q:st'.h id=some (.map agg ents):=by rw[ha.2 id (by simp),hh]
 simp only[b6,bF] at hv;obtain⟨agg',W,b,c,h1,h2,h3⟩:=hv;rw[q] at h1;cases h1;obtain⟨b',es,clk,O,q2,q3,q4⟩:=hs.inv.obj id _ q;rw[h2] at O;cases O;have hl:=(q3.rep N).length;refine⟨goInt ents.length,k9 ho h3 ?_,by simp[b6,bF,Rep,goInt]⟩;have hg:(getObj b).run P w=.ok (.map es clk) w:=MapKept.run_getObj_map q2;simp at hl;simp[Builtin.len_,As ((hT.get hi).map hk) w,hg,hl]
end
section
variable {P:Program}{n:Nat}{T:TT}{o:Oper}{st:St}{d:Nat}
theorem rQ {t e:TypeId}{i J:TI}{x y:Operand}{n' es k:Nat}{kk:IntKind}{m:Int}{l r:List R}(hT:Tok P T) (ho:o.op=.indexAddr t x y) (hd:o.dst=some d) (N:d<n) (hi:T[t]?=some (some i)) (hk:i.k=.sl e) (O:T[e]?=some (some J)) (W:J.size=es)
  (hx:opv st x=some (.one (.ras n' es l))) (hy:opv st y=some (I kk m)) (hm:m=(k:Int)) (Y:k<n') (hr:(l.drop (k*es)).take es=r):Step P n o st ⟨opr x++opr y,[]⟩ ⟨some (d,some (.one (.pas r))),[]⟩:=by
 refine Step.value hd N fun st' ha G S μ a w hs=>?_
 have hv:=aQ hs hx (eV ha).1;have Z:=fF (aQ hs hy (eV ha).2);simp only[b6,bF] at hv;obtain⟨q,cap,h1,h2,h3,h4,h5,h6,b,off,h7,vs,h8,h9⟩:=hv;cases q with
 | none=>have:=(h5 rfl).1;omega
 | some q=>
  obtain⟨h10,h10'⟩:=h7 q rfl;have h11:=h6 q rfl;have aa:q=⟨b,off,none⟩:=by cases q;simp_all
  subst aa;subst hm;refine⟨.pointer (some ⟨b,off+k*es,none⟩),?_,?_⟩
  ·simp only[execOp,ho,h1,Z,Ae,kA hT hi hk O w b off n' cap k kk Y,ε,Af,W]
  ·simp only[b6,bF];subst hr;refine⟨b,off+k*es,rfl,(vs.drop (k*es)).take es,(h8.drop (k*es)).take es,fun j v hj=>?_⟩;rw[Av] at hj;split at hj
   ·rw[Ap] at hj;have:=h9 _ v hj;rwa [←B8] at this
   ·cases hj
theorem aG3 {t:TypeId}{i:TI}{x:Operand}{l:List R}{y:V}(J:Tok P T) (N:o.op=.load t x) (hd:o.dst=some d) (q:d<n) (hi:T[t]?=some (some i)) (hx:opv st x=some (.one (.pas l)))
  (hl:i.size≤l.length) (hy:qE i (l.take i.size)=some y):Step P n o st ⟨opr x,[]⟩ ⟨some (d,some y),[]⟩:=by
 refine Step.value hd q fun st' ha G S μ a w hs=>?_
 have hv:=aQ hs hx ha.1;simp only[b6,bF] at hv;obtain⟨b,off,h1,vs,h2,h3⟩:=hv;have W:=h2.length;refine⟨_,?_,lM (h2.take i.size) hy⟩;have O:=n5 hs.inv.holds h3;have I:w.rangeAt b off (vs.take i.size):=fun j v hj=>by
  rw[Av] at hj;split at hj
  ·exact O j v hj
  ·cases hj
 simp only[execOp,N,h1,Ae,run_load (J.get hi) w b off _ I (by simp;omega),ε,Af]
theorem aCe {t I:TypeId}{i J:TI}{fs:List (Nat×TypeId)}{f q:Nat}{x:Operand}{l:List R}(W:Tok P T) (Y:o.op=.fieldAddr t x f) (hd:o.dst=some d) (N:d<n) (hi:T[t]?=some (some i)) (hk:i.k=.st fs) (hf:fs[f]?=some (q,I)) (O:T[I]?=some (some J)) (Z:J.size≠0)
  (hx:opv st x=some (.one (.pas l))):Step P n o st ⟨opr x,[]⟩ ⟨some (d,some (.one (.pas (l.drop q)))),[]⟩:=by
 refine Step.value hd N fun st' ha G S μ a w hs=>?_
 have hv:=aQ hs hx ha.1;simp only[b6,bF] at hv;obtain⟨b,off,h1,vs,h2,h3⟩:=hv;refine⟨.pointer (some ⟨b,off+q,none⟩),?_,?_⟩
 ·simp only[execOp,Y,h1,Ae,iY W hi hk hf O Z,ε,Af]
 ·simp only[b6,bF];refine⟨b,off+q,rfl,vs.drop q,h2.drop q,fun j v hj=>?_⟩;rw[Ap] at hj;have:=h3 (q+j) v hj;rwa [←B8] at this
theorem aJv {t e:TypeId}{i:TI}{x:Operand}{n' es:Nat}{l:List R}(J:Tok P T) (N:o.op=.call { callee:=.builtin .len,args:= #[x],argTypes:= #[t] }) (hd:o.dst=some d) (q:d<n) (hi:T[t]?=some (some i)) (hk:i.k=.sl e)
  (hx:opv st x=some (.one (.ras n' es l))):Step P n o st ⟨opr x,[]⟩ ⟨some (d,some (I .i64 (n':Int))),[]⟩:=by
 refine Step.value hd q fun st' ha G S μ a w hs=>?_
 have hv:=aQ hs hx ha.1;simp only[b6,bF] at hv;obtain⟨O,cap,h1,_⟩:=hv;refine⟨goInt n',k9 N h1 ?_,by simp[b6,bF,Rep,goInt]⟩;simp[Builtin.len_,As ((J.get hi).slice hk) w]
theorem aGz {t te es:Nat}{i:TI}{x y:Operand}{id k fo sz:Nat}{elems:List (List R)}{v:V}{cs r:List R}(hT:Tok P T) (ho:o.op=.store t x y) (hd:o.dst=none) (hi:T[t]?=some (some i)) (hx:opv st x=some (.one (.rp id k fo sz)))
  (hy:opv st y=some v) (hc:iM v=some cs) (hh:st.h id=some (.rarr te es elems)) (hsz:sz=elems.length) (hr:elems[k]?=some r) (hcs:cs.length=i.size) (hl:fo+i.size≤es):
  Step P n o st ⟨opr x++opr y,[id]⟩ ⟨none,[(id,some (.rarr te es (elems.set k (bY r fo cs))))]⟩:=by
 refine Step.turn hd hh (by simp) (by simp[AObj.succ]) fun st' ha J G S μ a w hs=>?_
 have hvx:=aQ hs hx fun t ht=>ha.1 t (by simp[ht])
 have hvy:=aQ hs hy fun t ht=>ha.1 t (by simp[ht])
 simp only[b6,bF] at hvx;obtain⟨_,hv | ⟨te',es',elems',h1,h2,h3⟩⟩:=hvx
 ·rw[J] at hv;cases hv
 rw[J] at h1;cases h1;obtain⟨h4,b,base,cap,h5,h6⟩:=h3 hsz;obtain⟨g0,vs,g1,g2,g3,g4,g5,g6⟩:=(hs.inv.obj id _ J).rarr h5;have O:=eM hvy hc;have W:=O;have hone:=O.one;have hnl:=W.length;have hk:k<elems.length:=(Ab.1 hr).1
 have hres:r.length=es:=g0 r (η hr);have hke:(k+1)*es≤elems.length*es:=Ay _ hk;have hce:elems.length*es≤cap*es:=Ay _ g3;rw[A5] at hke;generalize hnews:(a.eval y).cells.toList=news at *;have hrun:=run_store (hT.get hi) w b (base+k*es+fo) vs news te (a.eval y) g1 hnews (by omega) (by omega) hone;have hE:=kG (S:=S) (μ:=μ) (o':=.rarr te es (elems.set k (bY r fo cs))) J h5 (by simp[AObj.succ]);have Y:=aJh g0 g5 hr;have N:=aCu g0 k r hr;have hlen:(elems.set k (bY r fo cs)).length=elems.length:=by simp
 have hW:=WChg.setRow w b ⟨vs⟩ ⟨vs.take (base+k*es+fo)++news++vs.drop (base+k*es+fo+news.length)⟩ te (0,0) g1;refine⟨_,_,b,(base,cap),?_,h5,hW,⟨?_,.inr ⟨b,base,cap,_,aK _ _ _,hW.new,?_,by rw[hlen];exact g3,g4,?_,g6⟩⟩,fun o v e=>?_,fun m e=>j3 g4.2 m e⟩
 ·simp only[execOp,ho,h6,Ae,hrun,ε,Af]
 ·intro q hq;rcases List.mem_or_eq_of_mem_set hq with hq | rfl
  ·exact g0 q hq
  ·unfold bY;simp;omega
 ·simp only[ω,Au,Bx];omega
 ·rw[hlen];have e1:(elems.set k (bY r fo cs)).flatten=elems.flatten.take (k*es)++(r.take fo++cs++r.drop (fo+cs.length))++elems.flatten.drop (k*es+es):=by
   rw[Cf,ξ hk,flatten_append,Bi,N.1,N.2,←At];rfl
  have e2:((vs.take (base+k*es+fo)++news++vs.drop (base+k*es+fo+news.length)).drop base).take (elems.length*es)=
    ((vs.drop base).take (elems.length*es)).take (k*es)++((((vs.drop (base+k*es)).take es).take fo)++news++(((vs.drop (base+k*es)).take es).drop (fo+cs.length)))++((vs.drop base).take (elems.length*es)).drop (k*es+es):=by
   apply Bt;intro j;simp only[Av,Ap,By,ω,Au,Bx];have hm1:min (k*es) (min (elems.length*es) (vs.length-base))=k*es:=by omega
   have hm2:min (base+k*es+fo) vs.length=base+k*es+fo:=by omega
   have hm3:min fo es=fo:=by omega
   have hm4:min es (vs.length-(base+k*es))=es:=by omega
   simp only[hm1,hm2,hm3,hm4,hnl];by_cases c1:j<k*es
   ·have I:j<elems.length*es:=by omega
    have a2:base+j<base+k*es+fo:=by omega
    have a3:base+j<base+k*es+fo+cs.length:=by omega
    have a4:j<k*es+(fo+cs.length+(es-(fo+cs.length))):=by omega
    simp[c1,I,a2,a3,a4]
   ·by_cases c2:j<k*es+fo
    ·have I:j<elems.length*es:=by omega
     have a2:base+j<base+k*es+fo:=by omega
     have a3:base+j<base+k*es+fo+cs.length:=by omega
     have a4:j<k*es+(fo+cs.length+(es-(fo+cs.length))):=by omega
     have a5:j-k*es<fo+cs.length:=by omega
     have Z:j-k*es<fo:=by omega
     have a7:j-k*es<es:=by omega
     simp[c1,I,a2,a3,a4,a5,Z,a7,show base+k*es+(j-k*es)=base+j by omega]
    ·by_cases c3:j<k*es+fo+cs.length
     ·have I:j<elems.length*es:=by omega
      have a2:¬base+j<base+k*es+fo:=by omega
      have a3:base+j<base+k*es+fo+cs.length:=by omega
      have a4:j<k*es+(fo+cs.length+(es-(fo+cs.length))):=by omega
      have a5:j-k*es<fo+cs.length:=by omega
      have Z:¬j-k*es<fo:=by omega
      simp[c1,I,a2,a3,a4,a5,Z,show base+j-(base+k*es+fo)=j-k*es-fo by omega]
     ·by_cases c4:j<k*es+es
      ·have I:j<elems.length*es:=by omega
       have a3:¬base+j<base+k*es+fo+cs.length:=by omega
       have a4:j<k*es+(fo+cs.length+(es-(fo+cs.length))):=by omega
       have a5:¬j-k*es<fo+cs.length:=by omega
       have Z:fo+cs.length+(j-k*es-(fo+cs.length))<es:=by omega
       simp[c1,I,a3,a4,a5,Z,show base+k*es+fo+cs.length+(base+j-(base+k*es+fo+cs.length))=base+j by omega,show base+k*es+(fo+cs.length+(j-k*es-(fo+cs.length)))=base+j by omega]
      ·have a3:¬base+j<base+k*es+fo+cs.length:=by omega
       have a4:¬j<k*es+(fo+cs.length+(es-(fo+cs.length))):=by omega
       by_cases c5:j<elems.length*es
       ·have a5:k*es+es+(j-(k*es+(fo+cs.length+(es-(fo+cs.length)))))<elems.length*es:=by omega
        simp[a3,a4,c5,a5,show base+k*es+fo+cs.length+(base+j-(base+k*es+fo+cs.length))=base+j by omega,show base+(k*es+es+(j-(k*es+(fo+cs.length+(es-(fo+cs.length))))))=base+j by omega]
       ·have a5:¬k*es+es+(j-(k*es+(fo+cs.length+(es-(fo+cs.length)))))<elems.length*es:=by omega
        simp[a4,c5,a5]
  rw[e1];show aW S _ _ _ (((vs.take (base+k*es+fo)++news++vs.drop (base+k*es+fo+news.length)).drop base).take (elems.length*es));rw[e2];refine aW.evolve hE _ _ ?_;exact((g5.take (k*es)).append (((Y.take fo).append W).append (Y.drop (fo+cs.length)))).append (g5.drop (k*es+es))
 ·--what stays is not touched
  by_cases hb:base≤o
  ·rw[g6 o hb] at e;cases e
  ·obtain⟨vs0,t0,fr0,q1,q2⟩:=hs.inv.holds.1 b o v e;rw[g1] at q1;cases q1;refine⟨_,_,_,rfl,?_⟩;simp only[List.getElem?_toArray] at q2 ⊢;have hlt:o<vs.length:=(Ab.1 q2).1
   rw[At,A9 (by simp;omega),Av,ξ (by omega)];exact q2
end
def frc {α:Type}:List α→Option (List α)
 | []=>some []
 | x::xs=>(frc xs).bind fun l=>some (x::l)
theorem kN {α:Type}:∀l:List α,frc l=some l
 | []=>rfl
 | x::xs=>by simp[frc,kN xs]
def tak {α:Type}:Nat→List α→Option (List α)
 | 0,_=>some []
 | _+1,[]=>none
 | k+1,x::xs=>(tak k xs).bind fun l=>some (x::l)
theorem rC {α:Type}:∀{k:Nat}{l r:List α},tak k l=some r→k≤l.length∧l.take k=r
 | 0,l,r,h=>by simp[tak] at h;simp[h]
 | k+1,[],r,h=>by simp[tak] at h
 | k+1,x::xs,r,h=>by
  simp only[tak,Ah] at h;obtain⟨l,h1,h2⟩:=h;cases h2;obtain⟨h3,h4⟩:=rC h1;exact⟨by simp;omega,by simp[h4]⟩
inductive Tr where
 | leaf (o:Option TI)
 | node (k:Nat) (l r:Tr)
def Tr.get:Tr→Nat→Option TI
 | .leaf o,t=>bif Nat.beq t 0 then o else none
 | .node k l r,t=>bif Nat.blt t k then l.get t else r.get (t-k)
def Tr.flat:Tr→TT
 | .leaf o=>[o]
 | .node _ l r=>l.flat++r.flat
def Tr.wf:Tr→Bool
 | .leaf _=>true
 | .node k l r=>Nat.beq k l.flat.length&&(l.wf&&r.wf)
theorem Tr.get_ok:∀{tr:Tr}{t:Nat}{i:TI},tr.wf=true→tr.get t=some i→tr.flat[t]?=some (some i)
 | .leaf o,t,i,_,h=>by
  simp only[Tr.get] at h;cases hb:Nat.beq t 0 with
  | false=>rw[hb] at h;cases h
  | true=>
   rw[hb] at h;have:=Ac hb;subst this;simp only[Bo] at h;simp[Tr.flat,h]
 | .node k l r,t,i,hw,h=>by
  simp only[Tr.wf,Ai] at hw;have hk:=Ac hw.1;simp only[Tr.get] at h;simp only[Tr.flat,By];cases hb:Nat.blt t k with
  | true=>
   rw[hb] at h;have:t<k:=Aq hb;rw[ξ (by omega)];exact Tr.get_ok hw.2.1 h
  | false=>
   rw[hb] at h;have:¬t<k:=fun q=>by
    have:Nat.blt t k=true:=Nat.ble_eq_true_of_le q;rw[hb] at this;cases this
   rw[φ (by omega),←hk];exact Tr.get_ok hw.2.2 h
def iV:List Prop→Prop
 | []=>True
 | p::l=>p∧iV l
def j2 (md:Bool) (p:Prop) [Decidable p] (ob:List Prop):Option (List Prop):=bif md then some (p::ob) else bif decide p then some ob else none
theorem b9 {md:Bool}{p:Prop} [Decidable p] {ob q:List Prop}(h:j2 md p ob=some q):iV q→iV ob∧p:=by
 unfold j2 at h;cases md with
 | true=>cases h;exact fun h=>⟨h.2,h.1⟩
 | false=>
  simp only[Bq] at h;cases hp:decide p with
  | false=>rw[hp] at h;cases h
  | true=>rw[hp] at h;cases h;exact fun h=>⟨h,ψ hp⟩
inductive Hn where
 | no
 | id (n:Nat)
 | bv (b:Bool)
 | row (k:Nat) (r:List C)
 | all
 | look (r:Option (List C))
 | c (rows:List (List C))
 | byte (k:Nat) (b:UInt8)
 | pc (res:V)
 | fz
 | rr (r:List R)
 | rowR (k:Nat) (r:List R)
def aPq:List (Nat×Hn)→Nat→Hn
 | [],_=>.no
 | (k,h)::l,i=>bif Nat.beq i k then h else aPq l i
abbrev Ans:=Option (Rd×Eff×List Prop)
def Snd (P:Program) (n:Nat) (o:Oper) (st:St) (ob:List Prop) (r:Ans):Prop:=∀rd f ob',r=some (rd,f,ob')→iV ob'→iV ob∧Step P n o st rd f
def val (o:Oper) (n:Nat) (rd:Rd) (v:V) (h:List (Nat×Option AObj)) (ob:List Prop):Ans:=
 match o.dst with
 | some d=>bif Nat.blt d n then some (rd,⟨some (d,some v),h⟩,ob) else none
 | none=>none
def eff (o:Oper) (rd:Rd) (h:List (Nat×Option AObj)) (ob:List Prop):Ans:=
 match o.dst with
 | none=>some (rd,⟨none,h⟩,ob)
 | some _=>none
def opO (st:St):Operand→Option V
 | .tmp t=>st.e t
 | .const v=>match v with
  | .int k n=>some (.one (.c (.int k n)))
  | .bool b=>some (.one (.c (.bool b)))
  | .string ⟨⟨l⟩⟩=>some (.one (.c (.str l)))
  | .slice none 0 0=>some (.one (.c .nl))
  | .pointer none=>some (.one (.c .np))
  | .map none=>some (.one (.c (.zv 0)))
  | .nilFunc=>some (.one (.c (.zv 1)))
  | .nilIface=>some (.one (.c (.zv 2)))
  | _=>none
 | .func f=>some (.one (.clo f []))
 | .global _=>none
theorem cZ (st:St) (x:Operand):opO st x=opv st x:=by
 cases x with
 | const v=>
  cases v with
  | string s=>obtain⟨⟨l⟩⟩:=s;rfl
  | slice a l c=>
   cases a with
   | some _=>rfl
   | none=>
    cases l with
    | zero=>cases c<;>rfl
    | succ _=>rfl
  | pointer p=>cases p<;>rfl
  | map m=>cases m<;>rfl
  | _=>rfl
 | _=>rfl
def aZu (rs:List R):Option V:=match jB rs with | some l=>some (.pa l) | none=>some (.ma rs)
theorem aNk (rs:List R):aZu rs=some (aV5 rs):=by
 unfold aZu aV5;cases jB rs<;>rfl
def aHi (i:TI) (rs:List R):Option V:=bif i.k.agg then aZu rs else match rs with | [r]=>some (.one r) | _=>none
theorem qT (i:TI) (rs:List R):aHi i rs=qE i rs:=by
 unfold aHi qE;cases i.k.agg
 ·rfl
 ·exact aNk rs
def aFm (i:TI) (l:List C):Option V:=bif i.k.agg then some (.pa l) else match l with | [c]=>some (.one (.c c)) | _=>none
theorem zX (i:TI) (l:List C):aFm i l=aHj i l:=by
 unfold aFm aHj;cases i.k.agg<;>rfl
def o9 (v:V):Option (List R):=(iM v).bind frc
theorem j9 (v:V):o9 v=iM v:=by
 unfold o9;cases iM v with
 | none=>rfl
 | some l=>simp[kN]
theorem eJ {α:Type}{b:Bool}{x:Option α}{y:α}(h:(bif b then x else none)=some y):b=true∧x=some y:=by
 cases b
 ·cases h
 ·exact⟨rfl,h⟩
theorem mB {d n:Nat}(h:Nat.blt d n=true):d<n:=Aq h
theorem aWd {o:Oper}{n:Nat}{rd q:Rd}{v:V}{h:List (Nat×Option AObj)}{ob I:List Prop}{f:Eff}(e:val o n rd v h ob=some (q,f,I)):∃d,o.dst=some d∧d<n∧q=rd∧f=⟨some (d,some v),h⟩∧I=ob:=by
 unfold val at e;split at e
 ·rename_i d hd;obtain⟨h1,h2⟩:=eJ e;cases h2;exact⟨d,hd,mB h1,rfl,rfl,rfl⟩
 ·cases e
theorem aYk {o:Oper}{rd q:Rd}{h:List (Nat×Option AObj)}{ob I:List Prop}{f:Eff}(e:eff o rd h ob=some (q,f,I)):o.dst=none∧q=rd∧f=⟨none,h⟩∧I=ob:=by
 unfold eff at e;split at e
 ·rename_i hd;cases e;exact⟨hd,rfl,rfl,rfl⟩
 ·cases e
theorem Snd.val {P:Program}{n:Nat}{o:Oper}{st:St}{ob q:List Prop}{rd:Rd}{v:V}{h:List (Nat×Option AObj)}(hk:∀d,o.dst=some d→d<n→iV q→iV ob∧Step P n o st rd ⟨some (d,some v),h⟩):Snd P n o st ob (Go.AM.val o n rd v h q):=by
 intro J f I e hc;obtain⟨d,h1,h2,rfl,rfl,rfl⟩:=aWd e;exact hk d h1 h2 hc
theorem Snd.eff {P:Program}{n:Nat}{o:Oper}{st:St}{ob q:List Prop}{rd:Rd}{h:List (Nat×Option AObj)}(hk:o.dst=none→iV q→iV ob∧Step P n o st rd ⟨none,h⟩):Snd P n o st ob (Go.AM.eff o rd h q):=by
 intro J f I e hc;obtain⟨h1,rfl,rfl,rfl⟩:=aYk e;exact hk h1 hc
theorem Snd.none {P:Program}{n:Nat}{o:Oper}{st:St}{ob:List Prop}:Snd P n o st ob none:=by
 intro rd f q e;cases e
theorem Snd.bind {P:Program}{n:Nat}{o:Oper}{st:St}{ob:List Prop}{α:Type}{x:Option α}{k:α→Ans}(h:∀y,x=some y→Snd P n o st ob (k y)):Snd P n o st ob (x.bind k):=by
 intro rd f q e;rw[Ah] at e;obtain⟨y,h1,h2⟩:=e;exact h y h1 rd f q h2
theorem Snd.cond {P:Program}{n:Nat}{o:Oper}{st:St}{ob:List Prop}{b:Bool}{r:Ans}(h:b=true→Snd P n o st ob r):Snd P n o st ob (bif b then r else Option.none):=by
 cases b
 ·exact Snd.none
 ·exact h rfl
section
variable {P:Program}{n:Nat}{o:Oper}{st:St}{ob:List Prop}{tr:Tr}{md:Bool}
def aGj (o:Oper) (n:Nat) (st:St) (ob:List Prop) (x:Operand):Ans:=(opO st x).bind fun y=>val o n ⟨opr x,[]⟩ y [] ob
theorem aM1 {x:Operand}(I:o.op=.move x):Snd P n o st ob (aGj o n st ob x):=
 Snd.bind fun y hy=>Snd.val fun _ hd q hc=>⟨hc,aXf I hd q (by rw[←cZ];exact hy)⟩
theorem aC7 {x:Operand}(I:o.op=.assign x):Snd P n o st ob (aGj o n st ob x):=
 Snd.bind fun y hy=>Snd.val fun _ hd q hc=>⟨hc,aO1 I hd q (by rw[←cZ];exact hy)⟩
def aOb (hn:Hn) (b:Bool) (ob:List Prop):Bool×List Prop:=match hn with
 | .bv w=>(w,(b=w)::ob)
 | _=>match b with
  | true=>(true,ob)
  | false=>(false,ob)
theorem qG {hn:Hn}{b w:Bool}{ob q:List Prop}(h:aOb hn b ob=(w,q)):iV q→iV ob∧b=w:=by
 unfold aOb at h;split at h
 ·cases h;exact fun h=>⟨h.2,h.1⟩
 ·cases b<;>(cases h;exact fun h=>⟨h,rfl⟩)
def aSs (o:Oper) (n:Nat) (st:St) (ob:List Prop) (hn:Hn) (c x y:Operand):Ans:=(opO st c).bind fun v=>match v with
 | .one (.c (.bool b))=>match aOb hn b ob with
  | (true,ob')=>(opO st x).bind fun z=>val o n ⟨opr c++opr x,[]⟩ z [] ob'
  | (false,ob')=>(opO st y).bind fun z=>val o n ⟨opr c++opr y,[]⟩ z [] ob'
 | _=>none
theorem aMz {hn:Hn}{c x y:Operand}(J:o.op=.pick c x y):Snd P n o st ob (aSs o n st ob hn c x y):=by
 refine Snd.bind fun v hv=>?_
 rw[cZ] at hv;split
 ·rename_i b;split
  ·rename_i N ht;refine Snd.bind fun z q=>Snd.val fun _ hd I hc=>?_
   rw[cZ] at q;obtain⟨h1,h2⟩:=qG ht hc;exact⟨h1,aOu J hd I hv h2 q⟩
  ·rename_i N ht;refine Snd.bind fun z q=>Snd.val fun _ hd I hc=>?_
   rw[cZ] at q;obtain⟨h1,h2⟩:=qG ht hc;exact⟨h1,aOv J hd I hv h2 q⟩
 ·exact Snd.none
def aA5 (o:Oper) (n:Nat) (st:St) (ob:List Prop) (x:Operand) (i:Nat):Ans:=(opO st x).bind fun v=>match v with
 | .tup l=>(l[i]?).bind fun z=>val o n ⟨opr x,[]⟩ z [] ob
 | _=>none
theorem aA4 {x:Operand}{i:Nat}(I:o.op=.extract x i):Snd P n o st ob (aA5 o n st ob x i):=by
 refine Snd.bind fun v hv=>?_
 rw[cZ] at hv;split
 ·exact Snd.bind fun z J=>Snd.val fun _ hd q hc=>⟨hc,aJx I hd q hv J⟩
 ·exact Snd.none
def aNb (tr:Tr) (o:Oper) (n:Nat) (st:St) (ob:List Prop) (id:Nat) (t:TypeId):Ans:=(tr.get t).bind fun i=>(frc (i.zero.map R.c)).bind fun z=>match st.h id with
 | none=>val o n ⟨[],[id]⟩ (.one (.vp id 0)) [(id,some (.var t z))] ob
 | some _=>none
theorem aH1 {id:Nat}{t:TypeId}(hw:tr.wf=true) (J:Tok P tr.flat) (N:o.op=.alloc t):Snd P n o st ob (aNb tr o n st ob id t):=by
 refine Snd.bind fun i hi=>Snd.bind fun z q=>?_
 rw[kN] at q;cases q;split
 ·rename_i hid;exact Snd.val fun _ hd I hc=>⟨hc,aTu id J N hd I (Tr.get_ok hw hi) hid⟩
 ·exact Snd.none
def aZd (o:Oper) (n:Nat) (st:St) (ob:List Prop) (id:Nat) (t:TypeId) (x:Operand):Ans:=(opO st x).bind fun v=>(o9 v).bind fun rs=>match st.h id with
 | none=>val o n ⟨opr x,[id]⟩ (.one (.vp id 0)) [(id,some (.var t rs))] ob
 | some _=>none
theorem aQl {id:Nat}{t:TypeId}{x:Operand}(J:o.op=.box t x):Snd P n o st ob (aZd o n st ob id t x):=by
 refine Snd.bind fun v hv=>Snd.bind fun rs q=>?_
 rw[cZ] at hv;rw[j9] at q;split
 ·rename_i hid;exact Snd.val fun _ hd I hc=>⟨hc,a0h id J hd I hv q hid⟩
 ·exact Snd.none
def aVl (tr:Tr) (o:Oper) (n:Nat) (st:St) (ob:List Prop) (id:Nat) (t:TypeId) (r:Option Operand):Ans:=match r with
 | some _=>none
 | none=>(tr.get t).bind fun i=>match i.k with
  | .mp _ e=>(tr.get e).bind fun ei=>match st.h id with
   | none=>val o n ⟨[],[id]⟩ (.one (.mr id)) [(id,some (.map ei.k.agg []))] ob
   | some _=>none
  | _=>none
theorem aQh {id:Nat}{t:TypeId}{r:Option Operand}(I:o.op=.makeMap t r):Snd P n o st ob (aVl tr o n st ob id t r):=by
 unfold aVl;split
 ·exact Snd.none
 ·refine Snd.bind fun i hi=>?_
  split
  ·refine Snd.bind fun N J=>?_
   split
   ·rename_i hid;exact Snd.val fun _ hd q hc=>⟨hc,aJp id _ I hd q hid⟩
   ·exact Snd.none
  ·exact Snd.none
def aWz (hn:Hn) (elems:List (List C)) (k:Nat) (ob:List Prop):Option (List C×List Prop):=match hn with
 | .row _ r=>some (r,(elems[k]?=some r)::ob)
 | _=>match elems[k]? with
  | some r=>some (r,ob)
  | none=>none
theorem aCa {hn:Hn}{elems:List (List C)}{k:Nat}{ob q:List Prop}{r:List C}(h:aWz hn elems k ob=some (r,q)):iV q→iV ob∧elems[k]?=some r:=by
 unfold aWz at h;split at h
 ·cases h;exact fun h=>⟨h.2,h.1⟩
 ·split at h
  ·rename_i h1;cases h;exact fun h=>⟨h,h1⟩
  ·cases h
def aOo (hn:Hn) (elems:List (List R)) (k:Nat) (ob:List Prop):Option (List R×List Prop):=match hn with
 | .rr r=>some (r,(elems[k]?=some r)::ob)
 | _=>match elems[k]? with
  | some r=>some (r,ob)
  | none=>none
theorem aEl {hn:Hn}{elems:List (List R)}{k:Nat}{ob q:List Prop}{r:List R}(h:aOo hn elems k ob=some (r,q)):iV q→iV ob∧elems[k]?=some r:=by
 unfold aOo at h;split at h
 ·cases h;exact fun h=>⟨h.2,h.1⟩
 ·split at h
  ·rename_i h1;cases h;exact fun h=>⟨h,h1⟩
  ·cases h
def aSt (tr:Tr) (md:Bool) (o:Oper) (n:Nat) (st:St) (ob:List Prop) (hn:Hn) (t:TypeId) (x:Operand):Ans:=(tr.get t).bind fun i=>(opO st x).bind fun v=>match v with
 | .one (.vp id off)=>match st.h id with
  | some (.var _ cells)=>bif Nat.ble (off+i.size) cells.length then(tak i.size (cells.drop off)).bind fun rs=>(aHi i rs).bind fun y=>val o n ⟨opr x,[id]⟩ y [] ob else none
  | _=>none
 | .one (.c (.pt l))=>(tak i.size l).bind fun cs=>(aFm i cs).bind fun y=>val o n ⟨opr x,[]⟩ y [] ob
 | .one (.pas l)=>(tak i.size l).bind fun cs=>(aHi i cs).bind fun y=>val o n ⟨opr x,[]⟩ y [] ob
 | .one (.ep id k fo sz)=>match st.h id with
  | some (.arr _ es elems _)=>(j2 md (sz=elems.length) ob).bind fun ob1=>(aWz hn elems k ob1).bind fun(r,ob2)=>
   bif Nat.ble (fo+i.size) es then(tak i.size (r.drop fo)).bind fun cs=>(aFm i cs).bind fun y=>val o n ⟨opr x,[id]⟩ y [] ob2 else none
  | _=>none
 | .one (.rp id k fo sz)=>match st.h id with
  | some (.rarr _ es elems)=>(j2 md (sz=elems.length) ob).bind fun ob1=>(aOo hn elems k ob1).bind fun(r,ob2)=>
   bif Nat.ble (fo+i.size) es then(tak i.size (r.drop fo)).bind fun cs=>(aHi i cs).bind fun y=>val o n ⟨opr x,[id]⟩ y [] ob2 else none
  | _=>none
 | _=>none
theorem aM2 {hn:Hn}{t:TypeId}{x:Operand}(hw:tr.wf=true) (J:Tok P tr.flat) (N:o.op=.load t x):Snd P n o st ob (aSt tr md o n st ob hn t x):=by
 refine Snd.bind fun i hi=>Snd.bind fun v hv=>?_
 rw[cZ] at hv
 replace hi:=Tr.get_ok hw hi
 split
 ·rename_i id off;split
  ·rename_i tv cells hh;refine Snd.cond fun hb=>Snd.bind fun rs O=>Snd.bind fun y hy=>Snd.val fun _ hd q hc=>⟨hc,?_⟩
   obtain⟨h1,h2⟩:=rC O;rw[qT,←h2] at hy;exact aXg J N hd q hi hv hh hb hy
  ·exact Snd.none
 ·rename_i l;refine Snd.bind fun cs I=>Snd.bind fun y hy=>Snd.val fun _ hd q hc=>⟨hc,?_⟩
  obtain⟨h1,h2⟩:=rC I;rw[zX,←h2] at hy;exact aJs J N hd q hi hv h1 hy
 ·rename_i l;refine Snd.bind fun cs I=>Snd.bind fun y hy=>Snd.val fun _ hd q hc=>⟨hc,?_⟩
  obtain⟨h1,h2⟩:=rC I;rw[qT,←h2] at hy;exact aG3 J N hd q hi hv h1 hy
 ·rename_i id k fo sz;split
  ·rename_i te es elems fz hh;refine Snd.bind fun W h1=>Snd.bind fun p h2=>?_
   obtain⟨r,Y⟩:=p;refine Snd.cond fun h3=>Snd.bind fun cs I=>Snd.bind fun y hy=>Snd.val fun _ hd q hc=>?_
   obtain⟨g1,g2⟩:=aCa h2 hc;obtain⟨g3,g4⟩:=b9 h1 g1;obtain⟨h4,h5⟩:=rC I;rw[zX,←h5] at hy;exact⟨g3,aJt J N hd q hi hv hh g4 g2 (Aq h3) hy⟩
  ·exact Snd.none
 ·rename_i id k fo sz;split
  ·rename_i te es elems hh;refine Snd.bind fun W h1=>Snd.bind fun p h2=>?_
   obtain⟨r,Y⟩:=p;refine Snd.cond fun h3=>Snd.bind fun cs I=>Snd.bind fun y hy=>Snd.val fun _ hd q hc=>?_
   obtain⟨g1,g2⟩:=aEl h2 hc;obtain⟨g3,g4⟩:=b9 h1 g1;obtain⟨h4,h5⟩:=rC I;rw[qT,←h5] at hy;exact⟨g3,aJr J N hd q hi hv hh g4 g2 (Aq h3) hy⟩
  ·exact Snd.none
 ·exact Snd.none
def aVw {α:Type}(l:List α) (off:Nat) (new:List α):Option (List α):=frc (bY l off new)
def aMw (tr:Tr) (md:Bool) (o:Oper) (st:St) (ob:List Prop) (hn:Hn) (t:TypeId) (x y:Operand):Ans:=(tr.get t).bind fun i=>(opO st x).bind fun v=>(opO st y).bind fun u=>(o9 u).bind fun rs=>bif Nat.beq rs.length i.size then(match v with
 | .one (.vp id off)=>match st.h id with
  | some (.var tv cells)=>bif Nat.ble (off+i.size) cells.length then(aVw cells off rs).bind fun cs=>eff o ⟨opr x++opr y,[id]⟩ [(id,some (.var tv cs))] ob else none
  | _=>none
 | .one (.ep id k fo sz)=>match st.h id with
  | some (.arr te es elems 0)=>(jB rs).bind fun cs=>(j2 md (sz=elems.length) ob).bind fun ob1=>(aWz hn elems k ob1).bind fun(r,ob2)=>
   bif Nat.ble (fo+i.size) es then(aVw r fo cs).bind fun r'=>eff o ⟨opr x++opr y,[id]⟩ [(id,some (.arr te es (elems.set k r') 0))] ob2 else none
  | _=>none
 | .one (.rp id k fo sz)=>match st.h id with
  | some (.rarr te es elems)=>(j2 md (sz=elems.length) ob).bind fun ob1=>(aOo hn elems k ob1).bind fun(r,ob2)=>
   bif Nat.ble (fo+i.size) es then(aVw r fo rs).bind fun r'=>eff o ⟨opr x++opr y,[id]⟩ [(id,some (.rarr te es (elems.set k r')))] ob2 else none
  | _=>none
 | _=>none) else none
theorem aHv {hn:Hn}{t:TypeId}{x y:Operand}(hw:tr.wf=true) (O:Tok P tr.flat) (W:o.op=.store t x y):Snd P n o st ob (aMw tr md o st ob hn t x y):=by
 refine Snd.bind fun i hi=>Snd.bind fun v hv=>Snd.bind fun u hu=>Snd.bind fun rs J=>Snd.cond fun hl=>?_
 rw[cZ] at hv hu;rw[j9] at J
 replace hi:=Tr.get_ok hw hi
 have N:=Ac hl;split
 ·rename_i id off;split
  ·rename_i tv cells hh;refine Snd.cond fun hb=>Snd.bind fun cs I=>Snd.eff fun hd hc=>⟨hc,?_⟩
   unfold aVw at I;rw[kN] at I;cases I;exact aTl O W hd hi hv hu J hh N hb
  ·exact Snd.none
 ·rename_i id k fo sz;split
  ·rename_i te es elems hh;refine Snd.bind fun cs I=>Snd.bind fun Y h1=>Snd.bind fun p h2=>?_
   obtain⟨r,Z⟩:=p;refine Snd.cond fun h3=>Snd.bind fun r' q=>Snd.eff fun hd hc=>?_
   obtain⟨g1,g2⟩:=aCa h2 hc;obtain⟨g3,g4⟩:=b9 h1 g1;unfold aVw at q;rw[kN] at q;cases q;refine⟨g3,aG0 O W hd hi hv hu J I hh g4 g2 ?_ (Aq h3)⟩;have:=nV I;rw[this] at N;simpa using N
  ·exact Snd.none
 ·rename_i id k fo sz;split
  ·rename_i te es elems hh;refine Snd.bind fun Y h1=>Snd.bind fun p h2=>?_
   obtain⟨r,Z⟩:=p;refine Snd.cond fun h3=>Snd.bind fun r' q=>Snd.eff fun hd hc=>?_
   obtain⟨g1,g2⟩:=aEl h2 hc;obtain⟨g3,g4⟩:=b9 h1 g1;unfold aVw at q;rw[kN] at q;cases q;exact⟨g3,aGz O W hd hi hv hu J hh g4 g2 N (Aq h3)⟩
  ·exact Snd.none
 ·exact Snd.none
def sZ (tr:Tr) (md:Bool) (o:Oper) (n:Nat) (st:St) (ob:List Prop) (t:TypeId) (x:Operand) (f:Nat):Ans:=(tr.get t).bind fun i=>match i.k with
 | .st fs=>(fs[f]?).bind fun(foff,ft)=>(tr.get ft).bind fun fi=>bif Nat.ble 1 fi.size then((opO st x).bind fun v=>match v with
  | .one (.vp id off)=>val o n ⟨opr x,[]⟩ (.one (.vp id (off+foff))) [] ob
  | .one (.c (.pt l))=>val o n ⟨opr x,[]⟩ (.one (.c (.pt (l.drop foff)))) [] ob
  | .one (.pas l)=>val o n ⟨opr x,[]⟩ (.one (.pas (l.drop foff))) [] ob
  | .one (.ep id k fo sz)=>match st.h id with
   | some (.arr _ _ elems _)=>(j2 md (sz=elems.length) ob).bind fun ob1=>val o n ⟨opr x,[id]⟩ (.one (.ep id k (fo+foff) sz)) [] ob1
   | _=>none
  | .one (.rp id k fo sz)=>match st.h id with
   | some (.rarr _ _ elems)=>(j2 md (sz=elems.length) ob).bind fun ob1=>val o n ⟨opr x,[id]⟩ (.one (.rp id k (fo+foff) sz)) [] ob1
   | _=>none
  | _=>none) else none
 | _=>none
theorem tX {t:TypeId}{x:Operand}{f:Nat}(hw:tr.wf=true) (N:Tok P tr.flat) (O:o.op=.fieldAddr t x f):Snd P n o st ob (sZ tr md o n st ob t x f):=by
 refine Snd.bind fun i hi=>?_
 replace hi:=Tr.get_ok hw hi
 split
 ·rename_i fs hk;refine Snd.bind fun p hf=>?_
  obtain⟨Y,ft⟩:=p;refine Snd.bind fun Z I=>Snd.cond fun hz=>Snd.bind fun v hv=>?_
  replace I:=Tr.get_ok hw I
  have J:Z.size≠0:=by have:=Aq hz;omega
  rw[cZ] at hv;split
  ·exact Snd.val fun _ hd q hc=>⟨hc,aG5 N O hd q hi hk hf I J hv⟩
  ·exact Snd.val fun _ hd q hc=>⟨hc,aG7 N O hd q hi hk hf I J hv⟩
  ·exact Snd.val fun _ hd q hc=>⟨hc,aCe N O hd q hi hk hf I J hv⟩
  ·split
   ·rename_i hh;exact Snd.bind fun W h1=>Snd.val fun _ hd q hc=>⟨(b9 h1 hc).1,aG8 N O hd q hi hk hf I J hv hh (b9 h1 hc).2⟩
   ·exact Snd.none
  ·split
   ·rename_i hh;exact Snd.bind fun W h1=>Snd.val fun _ hd q hc=>⟨(b9 h1 hc).1,aG6 N O hd q hi hk hf I J hv hh (b9 h1 hc).2⟩
   ·exact Snd.none
  ·exact Snd.none
 ·exact Snd.none
def aM6 (tr:Tr) (o:Oper) (n:Nat) (st:St) (ob:List Prop) (t:TypeId) (x:Operand) (f:Nat):Ans:=(tr.get t).bind fun i=>match i.k with
 | .st fs=>(fs[f]?).bind fun(foff,ft)=>(tr.get ft).bind fun fi=>(opO st x).bind fun v=>(o9 v).bind fun rs=>
  bif (match v with | .pa _=>true | .ma _=>true | _=>false) then bif Nat.ble (foff+fi.size) rs.length then(tak fi.size (rs.drop foff)).bind fun l=>(aHi fi l).bind fun y=>val o n ⟨opr x,[]⟩ y [] ob else none else none
 | _=>none
theorem aHz {t:TypeId}{x:Operand}{f:Nat}(hw:tr.wf=true) (W:Tok P tr.flat) (Y:o.op=.field t x f):Snd P n o st ob (aM6 tr o n st ob t x f):=by
 refine Snd.bind fun i hi=>?_
 replace hi:=Tr.get_ok hw hi
 split
 ·rename_i fs hk;refine Snd.bind fun p hf=>?_
  obtain⟨Z,ft⟩:=p;refine Snd.bind fun fi q=>Snd.bind fun v hv=>Snd.bind fun rs I=>Snd.cond fun J=>Snd.cond fun hl=>Snd.bind fun l N=>Snd.bind fun y hy=>?_
  replace q:=Tr.get_ok hw q
  rw[cZ] at hv;rw[j9] at I;rw[qT,←(rC N).2] at hy;exact Snd.val fun _ hd O hc=>⟨hc,aTo W Y hd O hi hk hf q hv (by cases v<;>first | rfl | exact J) I hl hy⟩
 ·exact Snd.none
def atO (hn:Hn) (m:Int) (ob:List Prop):Option (Nat×List Prop):=match hn with
 | .row k _=>some (k,(m=(k:Int))::ob)
 | .rowR k _=>some (k,(m=(k:Int))::ob)
 | _=>match m with
  | .ofNat k=>some (k,ob)
  | .negSucc _=>none
theorem vI {hn:Hn}{m:Int}{k:Nat}{ob q:List Prop}(h:atO hn m ob=some (k,q)):iV q→iV ob∧m=(k:Int):=by
 unfold atO at h;split at h
 ·cases h;exact fun h=>⟨h.2,h.1⟩
 ·cases h;exact fun h=>⟨h.2,h.1⟩
 ·split at h
  ·cases h;exact fun h=>⟨h,rfl⟩
  ·cases h
def aZv (a b:Nat):Option Nat:=match a with
 | 0=>some b
 | a+1=>some (a+1+b)
theorem aNl {a b c:Nat}(h:aZv a b=some c):a+b=c:=by
 unfold aZv at h;split at h<;>cases h
 ·exact Be _
 ·rfl
def sY (tr:Tr) (md:Bool) (o:Oper) (n:Nat) (st:St) (ob:List Prop) (hn:Hn) (t:TypeId) (x y:Operand):Ans:=(tr.get t).bind fun i=>match i.k with
 | .sl e=>(tr.get e).bind fun ei=>(opO st x).bind fun v=>(opO st y).bind fun u=>match u with
  | .one (.c (.int _ m))=>(atO hn m ob).bind fun(k,ob1)=>match v with
   | .one (.c (.sl es l))=>bif Nat.beq ei.size es then(aWz hn l k ob1).bind fun(r,ob2)=>val o n ⟨opr x++opr y,[]⟩ (.one (.c (.pt r))) [] ob2 else none
   | .one (.hs id off len sz)=>match st.h id with
    | some (.arr _ es elems _)=>bif Nat.beq ei.size es then(j2 md (sz=elems.length) ob1).bind fun ob2=>(j2 md (k<len) ob2).bind fun ob3=>(aZv off k).bind fun j=>val o n ⟨opr x++opr y,[id]⟩ (.one (.ep id j 0 sz)) [] ob3 else none
    | _=>none
   | .one (.ra id off len sz)=>match st.h id with
    | some (.rarr _ es elems)=>bif Nat.beq ei.size es then(j2 md (sz=elems.length) ob1).bind fun ob2=>(j2 md (k<len) ob2).bind fun ob3=>(aZv off k).bind fun j=>val o n ⟨opr x++opr y,[id]⟩ (.one (.rp id j 0 sz)) [] ob3 else none
    | _=>none
   | .one (.ras n' es l)=>bif Nat.beq ei.size es then(j2 md (k<n') ob1).bind fun ob2=>match hn with
    | .rowR _ r=>val o n ⟨opr x++opr y,[]⟩ (.one (.pas r)) [] (((l.drop (k*es)).take es=r)::ob2)
    | _=>(frc ((l.drop (k*es)).take es)).bind fun r=>val o n ⟨opr x++opr y,[]⟩ (.one (.pas r)) [] ob2 else none
   | _=>none
  | _=>none
 | .ar m' e=>(tr.get e).bind fun ei=>(opO st x).bind fun v=>(opO st y).bind fun u=>match u with
  | .one (.c (.int _ m))=>(atO hn m ob).bind fun(k,ob1)=>match v with
   | .one (.vp id off)=>(j2 md (k<m') ob1).bind fun ob2=>val o n ⟨opr x++opr y,[]⟩ (.one (.vp id (off+k*ei.size))) [] ob2
   | _=>none
  | _=>none
 | _=>none
theorem tV {hn:Hn}{t:TypeId}{x y:Operand}(hw:tr.wf=true) (O:Tok P tr.flat) (W:o.op=.indexAddr t x y):Snd P n o st ob (sY tr md o n st ob hn t x y):=by
 refine Snd.bind fun i hi=>?_
 replace hi:=Tr.get_ok hw hi
 split
 ·rename_i e hk;refine Snd.bind fun ei q=>Snd.bind fun v hv=>Snd.bind fun u hu=>?_
  replace q:=Tr.get_ok hw q
  rw[cZ] at hv hu;split
  ·rename_i kk m;refine Snd.bind fun p hp=>?_
   obtain⟨k,Y⟩:=p;dsimp only;split
   ·rename_i es l;refine Snd.cond fun J=>Snd.bind fun p h2=>?_
    obtain⟨r,N⟩:=p;refine Snd.val fun _ hd I hc=>?_
    obtain⟨g1,g2⟩:=aCa h2 hc;obtain⟨g3,g4⟩:=vI hp g1;exact⟨g3,aTn O W hd I hi hk q (Ac J) hv hu g4 g2⟩
   ·rename_i id off len sz;split
    ·rename_i te es elems fz hh;refine Snd.cond fun J=>Snd.bind fun N h2=>Snd.bind fun Z h3=>Snd.bind fun j hj=>Snd.val fun _ hd I hc=>?_
     have hj:=aNl hj;subst hj;obtain⟨g1,g2⟩:=b9 h3 hc;obtain⟨g3,g4⟩:=b9 h2 g1;obtain⟨g5,g6⟩:=vI hp g3;exact⟨g5,uI O W hd I hi hk q (Ac J) hv hh g4 hu g6 g2⟩
    ·exact Snd.none
   ·rename_i id off len sz;split
    ·rename_i te es elems hh;refine Snd.cond fun J=>Snd.bind fun N h2=>Snd.bind fun Z h3=>Snd.bind fun j hj=>Snd.val fun _ hd I hc=>?_
     have hj:=aNl hj;subst hj;obtain⟨g1,g2⟩:=b9 h3 hc;obtain⟨g3,g4⟩:=b9 h2 g1;obtain⟨g5,g6⟩:=vI hp g3;exact⟨g5,aG4 O W hd I hi hk q (Ac J) hv hh g4 hu g6 g2⟩
    ·exact Snd.none
   ·rename_i n' es l;refine Snd.cond fun J=>Snd.bind fun N h2=>?_
    have J:=Ac J;split
    ·refine Snd.val fun _ hd I hc=>?_
     obtain⟨c1,c2⟩:=hc;obtain⟨g1,g2⟩:=b9 h2 c2;obtain⟨g3,g4⟩:=vI hp g1;exact⟨g3,rQ O W hd I hi hk q J hv hu g4 g2 c1⟩
    ·refine Snd.bind fun r hr=>Snd.val fun _ hd I hc=>?_
     rw[kN] at hr;cases hr;obtain⟨g1,g2⟩:=b9 h2 hc;obtain⟨g3,g4⟩:=vI hp g1;exact⟨g3,rQ O W hd I hi hk q J hv hu g4 g2 rfl⟩
   ·exact Snd.none
  ·exact Snd.none
 ·rename_i m' e hk;refine Snd.bind fun ei q=>Snd.bind fun v hv=>Snd.bind fun u hu=>?_
  replace q:=Tr.get_ok hw q
  rw[cZ] at hv hu;split
  ·rename_i kk m;refine Snd.bind fun p hp=>?_
   obtain⟨k,Y⟩:=p;dsimp only;split
   ·rename_i id off;refine Snd.bind fun N h2=>Snd.val fun _ hd I hc=>?_
    obtain⟨g1,g2⟩:=b9 h2 hc;obtain⟨g3,g4⟩:=vI hp g1;exact⟨g3,aCd O W hd I hi hk q hv hu g4 g2⟩
   ·exact Snd.none
  ·exact Snd.none
 ·exact Snd.none
def aZb (md:Bool) (o:Oper) (n:Nat) (st:St) (ob:List Prop) (x:Operand):Ans:=(opO st x).bind fun v=>match v with
 | .one (.ep id k fo sz)=>match st.h id with
  | some (.arr _ _ elems _)=>(j2 md (sz=elems.length) ob).bind fun ob1=>val o n ⟨opr x,[id]⟩ (.one (.ep id k fo sz)) [] ob1
  | _=>none
 | .one (.rp id k fo sz)=>match st.h id with
  | some (.rarr _ _ elems)=>(j2 md (sz=elems.length) ob).bind fun ob1=>val o n ⟨opr x,[id]⟩ (.one (.rp id k fo sz)) [] ob1
  | _=>none
 | v=>bif notNil v then val o n ⟨opr x,[]⟩ v [] ob else none
theorem aQg {x:Operand}(I:o.op=.nilCheck x):Snd P n o st ob (aZb md o n st ob x):=by
 refine Snd.bind fun v hv=>?_
 rw[cZ] at hv;split
 ·split
  ·rename_i hh;exact Snd.bind fun J h1=>Snd.val fun _ hd q hc=>⟨(b9 h1 hc).1,wO I hd q hv hh (b9 h1 hc).2⟩
  ·exact Snd.none
 ·split
  ·rename_i hh;exact Snd.bind fun J h1=>Snd.val fun _ hd q hc=>⟨(b9 h1 hc).1,wN I hd q hv hh (b9 h1 hc).2⟩
  ·exact Snd.none
 ·exact Snd.cond fun h=>Snd.val fun _ hd q hc=>⟨hc,aG1 I hd q hv h⟩
def rW (tr:Tr):List (Nat×TypeId)→Option (List (Nat×Nat))
 | []=>some []
 | (off,t)::fs=>(tr.get t).bind fun i=>(rW tr fs).bind fun l=>some ((off,i.size)::l)
theorem uM {tr:Tr}(hw:tr.wf=true):∀{fs:List (Nat×TypeId)}{l:List (Nat×Nat)},rW tr fs=some l→lC tr.flat fs=some l
 | [],l,h=>by simpa [rW,lC] using h
 | (off,t)::fs,l,h=>by
  simp only[rW,Ah] at h;obtain⟨i,hi,l',q,h⟩:=h;simp only[lC,Tr.get_ok hw hi,uM hw q,h]
def aE2 (st:St):List (Nat×Operand)→Option (List (Nat×List R))
 | []=>some []
 | (i,x)::ps=>(opO st x).bind fun v=>(o9 v).bind fun rs=>(aE2 st ps).bind fun l=>some ((i,rs)::l)
theorem zL (st:St):∀ps:List (Nat×Operand),aE2 st ps=pP st ps
 | []=>rfl
 | (i,x)::ps=>by
  simp only[aE2,pP,cZ,j9,zL st ps];cases opv st x with
  | none=>rfl
  | some v=>
   simp only[Ck];cases iM v with
   | none=>rfl
   | some rs=>
    simp only[Ck];cases pP st ps<;>rfl
def aP2 (st:St):List Operand→Option (List R)
 | []=>some []
 | x::xs=>(opO st x).bind fun v=>match v with
  | .one r=>(aP2 st xs).bind fun l=>some (r::l)
  | _=>none
theorem aF7 (st:St):∀xs:List Operand,aP2 st xs=aAl st xs
 | []=>rfl
 | x::xs=>by
  simp only[aP2,aAl,cZ,aF7 st xs];cases opv st x with
  | none=>rfl
  | some v=>
   simp only[Ck];cases v<;>try rfl
   cases aAl st xs<;>rfl
def aNa (tr:Tr) (o:Oper) (n:Nat) (st:St) (ob:List Prop) (t:TypeId) (parts:Array (Nat×Operand)):Ans:=(tr.get t).bind fun i=>match i.k with
 | .st fs=>(rW tr fs).bind fun places=>(aE2 st parts.toList).bind fun ps=>(aHo places (i.zero.map R.c) ps).bind fun out=>(frc out).bind fun out=>(aZu out).bind fun y=>val o n ⟨gN parts.toList,[]⟩ y [] ob
 | _=>none
theorem aH0 {t:TypeId}{parts:Array (Nat×Operand)}(hw:tr.wf=true) (O:Tok P tr.flat) (W:o.op=.build t parts):Snd P n o st ob (aNa tr o n st ob t parts):=by
 refine Snd.bind fun i hi=>?_
 replace hi:=Tr.get_ok hw hi
 split
 ·rename_i fs hk;refine Snd.bind fun places q=>Snd.bind fun ps I=>Snd.bind fun out hf=>Snd.bind fun Y J=>Snd.bind fun y hy=>Snd.val fun _ hd N hc=>⟨hc,?_⟩
  replace q:=uM hw q
  rw[zL] at I;rw[kN] at J;cases J;rw[aNk] at hy;cases hy;exact aTt O W hd N hi hk q I hf
 ·exact Snd.none
def oA (tr:Tr):Nat→List TypeId→List Nat
 | 0,_=>[]
 | _+1,[]=>[]
 | f+1,t::ts=>match tr.get t with
  | some i=>match i.k with
   | .sl e=>match tr.get e with
    | some ei=>(ei.size+1)::oA tr f ts
    | none=>0::oA tr f ts
   | .st fs=>oA tr f (fs.map (·.2)++ts)
   | _=>0::oA tr f ts
  | none=>0::oA tr f ts
def nrm:List Nat→List C→List C
 | _,[]=>[]
 | [],cs=>cs
 | 0::es,c::cs=>c::nrm es cs
 | (e+1)::es,c::cs=>(match c with | .nl=>.sl e [] | c=>c)::nrm es cs
theorem mJ {h:cR}:∀(es:List Nat) (cs:List C),PureL h [] (cs.map R.c) (nrm es cs)
 | es,[]=>by cases es<;>exact .nil
 | [],c::cs=>.of_pure
 | 0::es,c::cs=>.c .refl (mJ es cs)
 | (e+1)::es,c::cs=>by
  simp only[nrm,Am];split
  ·exact .c .nl (mJ es cs)
  ·exact .c .refl (mJ es cs)
def aH9:List Nat→List C→Option (List C)
 | _,[]=>some []
 | [],cs=>frc cs
 | 0::es,c::cs=>(aH9 es cs).bind fun l=>some (c::l)
 | (e+1)::es,c::cs=>match c with
  | .nl=>(aH9 es cs).bind fun l=>some (.sl e []::l)
  | c=>(aH9 es cs).bind fun l=>some (c::l)
theorem s5:∀(es:List Nat) (cs:List C),aH9 es cs=some (nrm es cs)
 | es,[]=>by cases es with
  | nil=>simp[aH9,nrm]
  | cons e es=>cases e<;>simp[aH9,nrm]
 | [],c::cs=>by simp[aH9,nrm,kN]
 | 0::es,c::cs=>by simp[aH9,nrm,s5 es cs]
 | (e+1)::es,c::cs=>by
  simp only[aH9,nrm,s5 es cs,Ck];split<;>rfl
def aJg (st:St) (tys:List Nat) (es:Nat):Nat→List (Nat×Operand)→Option (List (List C))
 | _,[]=>some []
 | k,(i,x)::ps=>bif Nat.beq i k then(opO st x).bind fun v=>(o9 v).bind fun rs=>(jB rs).bind fun cs=>bif Nat.beq rs.length es then(aH9 tys cs).bind fun cs=>(aJg st tys es (k+1) ps).bind fun l=>some (cs::l) else none else none
theorem aEk {st:St}{tys:List Nat}{es:Nat}:∀{ps:List (Nat×Operand)}{k:Nat}{l:List (List C)},aJg st tys es k ps=some l→RowsV st es k [] ps l
 | [],k,l,h=>by simp[aJg] at h;subst h;exact .nil
 | (i,x)::ps,k,l,h=>by
  simp only[aJg] at h;obtain⟨h0,h⟩:=eJ h;have:=Ac h0;subst this;rw[Ah] at h;obtain⟨v,hv,h⟩:=h;rw[Ah] at h;obtain⟨rs,I,h⟩:=h;rw[Ah] at h;obtain⟨cs,J,h⟩:=h;obtain⟨hl,h⟩:=eJ h;rw[Ah] at h;obtain⟨O,q,h⟩:=h;rw[s5] at q;cases q;rw[Ah] at h;obtain⟨l',N,h⟩:=h;cases h;rw[cZ] at hv;rw[j9] at I;have hp:PureL st.h [] rs (nrm tys cs):=by rw[nV J];exact mJ tys cs
  exact .cons (ids:=[]) hv I hp hl (aEk N)
def aMx (tr:Tr) (o:Oper) (n:Nat) (st:St) (ob:List Prop) (hn:Hn) (id:Nat) (t:TypeId) (len:Nat) (parts:Array (Nat×Operand)):Ans:=(tr.get t).bind fun i=>match i.k with
 | .sl e=>(tr.get e).bind fun ei=>bif Nat.beq len parts.size&&(Nat.ble (len*ei.size) 16777216&&Nat.ble len 16777216) then(match st.h id with
  | none=>match aJg st (oA tr 300 [e]) ei.size 0 parts.toList with
   | some rows=>match hn with
    | .all=>val o n ⟨gN parts.toList,[id]⟩ (.one (.c (.sl ei.size rows))) [(id,some (.arr e ei.size rows 2))] ob
    | _=>val o n ⟨gN parts.toList,[id]⟩ (.one (.hs id 0 len len)) [(id,some (.arr e ei.size rows 0))] ob
   | none=>(wL st ei.size 0 parts.toList).bind fun rows=>val o n ⟨gN parts.toList,[id]⟩ (.one (.ra id 0 len len)) [(id,some (.rarr e ei.size rows))] ob
  | some _=>none) else none
 | _=>none
theorem aHw {hn:Hn}{id:Nat}{t:TypeId}{len:Nat}{parts:Array (Nat×Operand)}(hw:tr.wf=true) (O:Tok P tr.flat) (W:o.op=.buildSlice t len parts):Snd P n o st ob (aMx tr o n st ob hn id t len parts):=by
 refine Snd.bind fun i hi=>?_
 replace hi:=Tr.get_ok hw hi
 split
 ·rename_i e hk;refine Snd.bind fun Y q=>Snd.cond fun hb=>?_
  replace q:=Tr.get_ok hw q
  simp only[Ai] at hb;split
  ·rename_i hid;split
   ·rename_i rows J;have N:=aEk J;split
    ·exact Snd.val fun _ hd I hc=>⟨hc,aOt id O W hd I hi hk q N hb.1 hb.2.1 hb.2.2 hid⟩
    ·exact Snd.val fun _ hd I hc=>⟨hc,aJo id O W hd I hi hk q N hb.1 hb.2.1 hb.2.2 hid⟩
   ·exact Snd.bind fun rows N=>Snd.val fun _ hd I hc=>⟨hc,aOs id O W hd I hi hk q N hb.1 hb.2.1 hb.2.2 hid⟩
  ·exact Snd.none
 ·exact Snd.none
def aM5 (o:Oper) (n:Nat) (st:St) (ob:List Prop) (f:Fn) (first caps:Array Operand):Ans:=match f with
 | .func f=>match first.toList with
  | []=>(aP2 st caps.toList).bind fun l=>val o n ⟨dP caps.toList,[]⟩ (.one (.clo f l)) [] ob
  | [x]=>match caps.toList with
   | []=>(opO st x).bind fun v=>match v with
    | .one c=>val o n ⟨opr x,[]⟩ (.one (.mth f c)) [] ob
    | _=>none
   | _=>none
  | _=>none
 | _=>none
theorem toList_nil {α:Type}{a:Array α}(h:a.toList=[]):a= #[]:=by
 cases a;simp at h;simp[h]
theorem aGw {α:Type}{a:Array α}{x:α}(h:a.toList=[x]):a= #[x]:=by
 cases a;simp at h;simp[h]
theorem aM4 {f:Fn}{first caps:Array Operand}(I:o.op=.makeFunc f first caps):Snd P n o st ob (aM5 o n st ob f first caps):=by
 unfold aM5;split
 ·rename_i f;split
  ·rename_i h1;have:=toList_nil h1;subst this;refine Snd.bind fun l hl=>Snd.val fun _ hd q hc=>⟨hc,aG2 I hd q (by rw[←aF7];exact hl)⟩
  ·rename_i x h1;have:=aGw h1;subst this;split
   ·rename_i h2;have:=toList_nil h2;subst this;refine Snd.bind fun v hv=>?_
    split
    ·exact Snd.val fun _ hd q hc=>⟨hc,z8 I hd q (by rw[←cZ];exact hv)⟩
    ·exact Snd.none
   ·exact Snd.none
  ·exact Snd.none
 ·exact Snd.none
def aV3 (st:St) (m:Nat):Option Operand→Option Nat
 | none=>some m
 | some x=>(opO st x).bind fun v=>match v with
  | .one (.c (.int _ (.ofNat k)))=>some k
  | _=>none
theorem mA {m k:Nat}{x:Option Operand}(h:aV3 st m x=some k):BndV st x m k:=by
 cases x with
 | none=>cases h;exact .no
 | some x=>
  simp only[aV3,Ah,cZ] at h;obtain⟨v,hv,h⟩:=h;split at h
  ·cases h;exact .yes hv
  ·cases h
def aZs {α:Type}(l:List α) (lo hi:Nat) (low high:Option Operand):Option (List α):=match low,high with
 | none,none=>some l
 | none,some _=>some (l.take hi)
 | some _,none=>some (l.drop lo)
 | some _,some _=>some ((l.take hi).drop lo)
theorem aMc {α:Type}{l r:List α}{lo hi:Nat}{low high:Option Operand}(h1:BndV st low 0 lo) (h2:BndV st high l.length hi) (h:aZs l lo hi low high=some r):r=(l.take hi).drop lo:=by
 cases h1<;>cases h2<;>simp[aZs] at h<;>simp[h]
def aVn (tr:Tr) (md:Bool) (o:Oper) (n:Nat) (st:St) (ob:List Prop) (t:TypeId) (x:Operand) (low high mx:Option Operand):Ans:=match mx with
 | some _=>none
 | none=>(tr.get t).bind fun i=>(opO st x).bind fun v=>match i.k with
  | .sl e=>(tr.get e).bind fun ei=>match v with
   | .one (.c (.sl es l))=>bif Nat.beq ei.size es then(aV3 st 0 low).bind fun lo=>(aV3 st l.length high).bind fun hi=>(j2 md (lo≤hi) ob).bind fun ob1=>(j2 md (hi≤l.length) ob1).bind fun ob2=>
     (aZs l lo hi low high).bind fun r=>val o n ⟨opr x++aQe low++aQe high,[]⟩ (.one (.c (.sl es r))) [] ob2 else none
   | _=>none
  | .str=>match v with
   | .one (.c (.str s))=>(aV3 st 0 low).bind fun lo=>(aV3 st s.length high).bind fun hi=>(j2 md (lo≤hi) ob).bind fun ob1=>(j2 md (hi≤s.length) ob1).bind fun ob2=>
     (aZs s lo hi low high).bind fun r=>val o n ⟨opr x++aQe low++aQe high,[]⟩ (.one (.c (.str r))) [] ob2
   | _=>none
  | _=>none
theorem aQk {t:TypeId}{x:Operand}{low high Y:Option Operand}(hw:tr.wf=true) (Z:Tok P tr.flat) (ho:o.op=.slice t x low high Y):Snd P n o st ob (aVn tr md o n st ob t x low high Y):=by
 unfold aVn;split
 ·exact Snd.none
 ·refine Snd.bind fun i J=>Snd.bind fun v hv=>?_
  replace J:=Tr.get_ok hw J
  rw[cZ] at hv;split
  ·rename_i e hk;refine Snd.bind fun ei N=>?_
   replace N:=Tr.get_ok hw N
   split
   ·rename_i es l;refine Snd.cond fun hes=>Snd.bind fun lo q=>Snd.bind fun hi I=>Snd.bind fun ob1 h1=>Snd.bind fun ob2 h2=>Snd.bind fun r W=>Snd.val fun _ hd O hc=>?_
    obtain⟨g1,g2⟩:=b9 h2 hc;obtain⟨g3,g4⟩:=b9 h1 g1;rw[aMc (mA q) (mA I) W];exact⟨g3,a0g Z ho hd O J hk N (Ac hes) hv (mA q) (mA I) g4 g2⟩
   ·exact Snd.none
  ·rename_i hk;split
   ·rename_i s;refine Snd.bind fun lo q=>Snd.bind fun hi I=>Snd.bind fun ob1 h1=>Snd.bind fun ob2 h2=>Snd.bind fun r W=>Snd.val fun _ hd O hc=>?_
    obtain⟨g1,g2⟩:=b9 h2 hc;obtain⟨g3,g4⟩:=b9 h1 g1;rw[aMc (mA q) (mA I) W];exact⟨g3,aW5 Z ho hd O J hk hv (mA q) (mA I) g4 g2⟩
   ·exact Snd.none
  ·exact Snd.none
def aM3 (tr:Tr) (o:Oper) (n:Nat) (st:St) (ob:List Prop) (hn:Hn) (t:TypeId) (x y:Operand):Ans:=(tr.get t).bind fun i=>match i.k with
 | .str=>(opO st x).bind fun v=>(opO st y).bind fun u=>match v,u with
  | .one (.c (.str s)),.one (.c (.int _ m))=>match hn with
   | .byte k b=>val o n ⟨opr x++opr y,[]⟩ (.one (.c (.int .u8 ((b.toNat:Nat):Int)))) [] ((m=(k:Int)∧s[k]?=some b)::ob)
   | _=>match m with
    | .ofNat k=>(s[k]?).bind fun b=>val o n ⟨opr x++opr y,[]⟩ (.one (.c (.int .u8 ((b.toNat:Nat):Int)))) [] ob
    | _=>none
  | _,_=>none
 | _=>none
theorem aHx {hn:Hn}{t:TypeId}{x y:Operand}(hw:tr.wf=true) (I:Tok P tr.flat) (J:o.op=.index t x y):Snd P n o st ob (aM3 tr o n st ob hn t x y):=by
 refine Snd.bind fun i hi=>?_
 replace hi:=Tr.get_ok hw hi
 split
 ·rename_i hk;refine Snd.bind fun v hv=>Snd.bind fun u hu=>?_
  rw[cZ] at hv hu;split
  ·split
   ·exact Snd.val fun _ hd q hc=>⟨hc.2,aRc I J hd q hi hk hv hu hc.1.1 hc.1.2⟩
   ·split
    ·exact Snd.bind fun b hb=>Snd.val fun _ hd q hc=>⟨hc,aRc I J hd q hi hk hv hu rfl hb⟩
    ·exact Snd.none
  ·exact Snd.none
 ·exact Snd.none
def aKs:List (List C)→Bool
 | []=>true
 | (.str _::_)::r=>aKs r
 | _::_=>false
theorem zO:∀l:List (List C),aKs l=true↔kL l
 | []=>by simp[aKs,kL]
 | []::r=>by simp[aKs,kL]
 | (c::vs)::r=>by
  cases c<;>simp[aKs,kL];exact zO r
instance (l:List (List C)):Decidable (kL l):=decidable_of_iff _ (zO l)
def aP0 (st:St) (agg:Bool):V→Option (List Nat×List (List C))
 | .one (.mr id)=>match st.h id with
  | some (.map a ents)=>bif a==agg then some ([id],ents) else none
  | _=>none
 | .one (.c (.mp a ents))=>bif a==agg then some ([],ents) else none
 | .one (.c (.zv 0))=>some ([],[])
 | _=>none
theorem xQ {st:St}{agg:Bool}{v:V}{ids:List Nat}{ents:List (List C)}(h:aP0 st agg v=some (ids,ents)):MapE st ids v agg ents:=by
 unfold aP0 at h;split at h
 ·split at h
  ·rename_i hh;obtain⟨h1,h2⟩:=eJ h;cases h2;exact .mr (by rw[hh,eq_of_beq h1])
  ·cases h
 ·obtain⟨h1,h2⟩:=eJ h;cases h2;rw[eq_of_beq h1];exact .mp
 ·cases h;exact .nil
 ·cases h
def aUm (md:Bool) (hn:Hn) (k:List UInt8) (ents:List (List C)) (ob:List Prop):Option (Option (List C)×List Prop):=match hn with
 | .look r=>some (r,(jC k ents=r)::ob)
 | _=>bif md then some (jC k ents,ob) else match jC k ents with
  | some r=>some (some r,ob)
  | none=>some (none,ob)
theorem aFy {md:Bool}{hn:Hn}{k:List UInt8}{ents:List (List C)}{ob q:List Prop}{r:Option (List C)}(h:aUm md hn k ents ob=some (r,q)):iV q→iV ob∧jC k ents=r:=by
 unfold aUm at h;split at h
 ·cases h;exact fun h=>⟨h.2,h.1⟩
 ·cases md
  ·simp only[Bq] at h;split at h
   ·rename_i h1;cases h;exact fun h=>⟨h,h1⟩
   ·rename_i h1;cases h;exact fun h=>⟨h,h1⟩
  ·cases h;exact fun h=>⟨h,rfl⟩
def aA3 (tr:Tr) (md:Bool) (o:Oper) (n:Nat) (st:St) (ob:List Prop) (hn:Hn) (t:TypeId) (x y:Operand) (ok:Bool):Ans:=(tr.get t).bind fun i=>match i.k with
 | .mp kt et=>(tr.get kt).bind fun ki=>(tr.get et).bind fun ei=>match ki.k with
  | .str=>(opO st x).bind fun v=>(aP0 st ei.k.agg v).bind fun(ids,ents)=>(opO st y).bind fun u=>match u with
   | .one (.c (.str k))=>(j2 md (kL ents) ob).bind fun ob1=>(aUm md hn k ents ob1).bind fun(r,ob2)=>match ok with
    | true=>val o n ⟨opr x++opr y,ids⟩ (.tup [qD ei r,.one (.c (.bool (aHh r)))]) [] ob2
    | false=>val o n ⟨opr x++opr y,ids⟩ (qD ei r) [] ob2
   | _=>none
  | _=>none
 | _=>none
theorem aA2 {hn:Hn}{t:TypeId}{x y:Operand}{ok:Bool}(hw:tr.wf=true) (O:Tok P tr.flat) (W:o.op=.lookup t x y ok):Snd P n o st ob (aA3 tr md o n st ob hn t x y ok):=by
 refine Snd.bind fun i hi=>?_
 replace hi:=Tr.get_ok hw hi
 split
 ·rename_i kt et hk;refine Snd.bind fun ki q=>Snd.bind fun ei I=>?_
  replace q:=Tr.get_ok hw q
  replace I:=Tr.get_ok hw I
  split
  ·rename_i N;refine Snd.bind fun v hv=>Snd.bind fun p hp=>?_
   obtain⟨ids,ents⟩:=p;refine Snd.bind fun u hu=>?_
   rw[cZ] at hv hu;split
   ·rename_i k;refine Snd.bind fun Y h1=>Snd.bind fun p h2=>?_
    obtain⟨r,Z⟩:=p;dsimp only;split
    ·refine Snd.val fun _ hd J hc=>?_
     obtain⟨g1,g2⟩:=aFy h2 hc;obtain⟨g3,g4⟩:=b9 h1 g1;have:=wP O W hd J hi hk q N I rfl hv (xQ hp) g4 hu g2;exact⟨g3,by simpa using this⟩
    ·refine Snd.val fun _ hd J hc=>?_
     obtain⟨g1,g2⟩:=aFy h2 hc;obtain⟨g3,g4⟩:=b9 h1 g1;have:=wP O W hd J hi hk q N I rfl hv (xQ hp) g4 hu g2;exact⟨g3,by simpa using this⟩
   ·exact Snd.none
  ·exact Snd.none
 ·exact Snd.none
def aA1 (tr:Tr) (md:Bool) (o:Oper) (n:Nat) (st:St) (ob:List Prop) (w:V) (t:TypeId) (x y:Operand):Ans:=(tr.get t).bind fun i=>match i.k with
 | .mp kt et=>(tr.get kt).bind fun ki=>(tr.get et).bind fun ei=>match ki.k with
  | .str=>(opO st x).bind fun v=>(aP0 st ei.k.agg v).bind fun(ids,ents)=>(opO st y).bind fun u=>match u with
   | .one (.c (.str k))=>(j2 md (kL ents) ob).bind fun ob1=>val o n ⟨opr x++opr y,ids⟩ w [] ((qD ei (jC k ents)=w)::ob1)
   | _=>none
  | _=>none
 | _=>none
theorem aA0 {w:V}{t:TypeId}{x y:Operand}(hw:tr.wf=true) (O:Tok P tr.flat) (W:o.op=.lookup t x y false):Snd P n o st ob (aA1 tr md o n st ob w t x y):=by
 refine Snd.bind fun i hi=>?_
 replace hi:=Tr.get_ok hw hi
 split
 ·rename_i Z et hk;refine Snd.bind fun ki q=>Snd.bind fun ei I=>?_
  replace q:=Tr.get_ok hw q
  replace I:=Tr.get_ok hw I
  split
  ·rename_i J;refine Snd.bind fun v hv=>Snd.bind fun p hp=>?_
   obtain⟨ids,ents⟩:=p;refine Snd.bind fun u hu=>?_
   rw[cZ] at hv hu;split
   ·rename_i k;refine Snd.bind fun Y h1=>Snd.val fun _ hd N hc=>?_
    obtain⟨g3,g4⟩:=b9 h1 hc.2;have:=wP O W hd N hi hk q J I rfl hv (xQ hp) g4 hu rfl;refine⟨g3,?_⟩;rw[←hc.1];simpa using this
   ·exact Snd.none
  ·exact Snd.none
 ·exact Snd.none
def y4 (tr:Tr) (md:Bool) (o:Oper) (n:Nat) (st:St) (ob:List Prop) (hn:Hn) (t:TypeId) (x y:Operand) (ok:Bool):Ans:=match ok,hn with
 | false,.pc w=>aA1 tr md o n st ob w t x y
 | ok,hn=>aA3 tr md o n st ob hn t x y ok
theorem aC4 {hn:Hn}{t:TypeId}{x y:Operand}{ok:Bool}(hw:tr.wf=true) (q:Tok P tr.flat) (I:o.op=.lookup t x y ok):Snd P n o st ob (y4 tr md o n st ob hn t x y ok):=by
 unfold y4;split
 ·exact aA0 hw q I
 ·exact aA2 hw q I
def aXr (md:Bool) (k:List UInt8) (cs:List C) (ents:List (List C)):Option (List (List C)):=bif md then some (aHd k cs ents) else frc (aHd k cs ents)
theorem aE6 (md:Bool) (k:List UInt8) (cs:List C) (ents:List (List C)):aXr md k cs ents=some (aHd k cs ents):=by
 cases md
 ·exact kN _
 ·rfl
def kI (tr:Tr) (md:Bool) (o:Oper) (st:St) (ob:List Prop) (t:TypeId) (x y z:Operand):Ans:=(tr.get t).bind fun i=>match i.k with
 | .mp kt _=>(tr.get kt).bind fun ki=>match ki.k with
  | .str=>(opO st x).bind fun v=>match v with
   | .one (.mr id)=>match st.h id with
    | some (.map agg ents)=>(opO st y).bind fun u=>match u with
     | .one (.c (.str k))=>(opO st z).bind fun v=>bif (match v with | .one _=>!agg | .pa _=>agg | .ma _=>agg | _=>false) then(o9 v).bind fun rs=>
      (j2 md (kL ents) ob).bind fun ob1=>(aXr md k (aXm rs) ents).bind fun e'=>eff o ⟨opr x++opr y++opr z,[id]⟩ [(id,some (.map agg e'))] ob1 else none
     | _=>none
    | _=>none
   | _=>none
  | _=>none
 | _=>none
theorem tU {t:TypeId}{x y z:Operand}(hw:tr.wf=true) (W:Tok P tr.flat) (Y:o.op=.mapUpdate t x y z):Snd P n o st ob (kI tr md o st ob t x y z):=by
 refine Snd.bind fun i hi=>?_
 replace hi:=Tr.get_ok hw hi
 split
 ·rename_i kt et hk;refine Snd.bind fun ki q=>?_
  replace q:=Tr.get_ok hw q
  split
  ·rename_i J;refine Snd.bind fun v hv=>?_
   rw[cZ] at hv;split
   ·rename_i id;split
    ·rename_i agg ents hh;refine Snd.bind fun u hu=>?_
     rw[cZ] at hu;split
     ·rename_i k;refine Snd.bind fun z N=>Snd.cond fun O=>Snd.bind fun rs I=>Snd.bind fun Z h1=>Snd.bind fun e' he=>Snd.eff fun hd hc=>?_
      rw[cZ] at N;rw[j9] at I;rw[aE6] at he;cases he;obtain⟨g1,g2⟩:=b9 h1 hc;exact⟨g1,aCc (ids:=[]) W Y hd hi hk q J hv hh g2 hu N (by cases z<;>first | rfl | exact O) I .ofA⟩
     ·exact Snd.none
    ·exact Snd.none
   ·exact Snd.none
  ·exact Snd.none
 ·exact Snd.none
theorem aC5 {t:TypeId}{x y z:Operand}(hw:tr.wf=true) (W:Tok P tr.flat) (Y:o.op=.insert t x y z):Snd P n o st ob (kI tr md o st ob t x y z):=by
 refine Snd.bind fun i hi=>?_
 replace hi:=Tr.get_ok hw hi
 split
 ·rename_i kt et hk;refine Snd.bind fun ki q=>?_
  replace q:=Tr.get_ok hw q
  split
  ·rename_i J;refine Snd.bind fun v hv=>?_
   rw[cZ] at hv;split
   ·rename_i id;split
    ·rename_i agg ents hh;refine Snd.bind fun u hu=>?_
     rw[cZ] at hu;split
     ·rename_i k;refine Snd.bind fun z N=>Snd.cond fun O=>Snd.bind fun rs I=>Snd.bind fun Z h1=>Snd.bind fun e' he=>Snd.eff fun hd hc=>?_
      rw[cZ] at N;rw[j9] at I;rw[aE6] at he;cases he;obtain⟨g1,g2⟩:=b9 h1 hc;exact⟨g1,aO0 (ids:=[]) W Y hd hi hk q J hv hh g2 hu N (by cases z<;>first | rfl | exact O) I .ofA⟩
     ·exact Snd.none
    ·exact Snd.none
   ·exact Snd.none
  ·exact Snd.none
 ·exact Snd.none
end
end Go.AM
