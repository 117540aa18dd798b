/-
  Texts Am21 to Am23 in one.
-/
import Derived.Test.YtglfogjcijokpaaGreatDoorM3
import Derived.ProofKit
import Derived.SizedLaws
import Derived.OpenShut
import Derived.Carry
import Derived.Laws.BytesArg
open List (append_assoc append_nil drop_drop drop_take drop_zero eq_nil_of_length_eq_zero flatten_append flatten_cons length_append length_cons length_drop length_nil length_take map_cons map_nil map_toArray mem_append mem_cons mem_of_mem_take mem_or_eq_of_mem_set set_eq_take_append_cons_drop size_toArray take_append_of_le_length take_left' take_of_length_le take_take)
open Nat (add_assoc add_mul add_zero eq_of_beq_eq_true le_of_ble_eq_true le_refl le_trans min_eq_left mul_le_mul_left mul_le_mul_right sub_zero zero_add zero_le)
namespace Go.AM
open Go
theorem eJ.of {α:Type}{p:α→Prop}:∀{l:List α},(∀x∈l,p x)→eJ p l
 | [],_=>trivial
 | x::l,h=>⟨h x (by simp),eJ.of fun y q=>h y (by simp[q])⟩
def aDj (W:World):Sto:=
 ⟨fun b o=>match W.heap[b]? with | some (.cells vs _ _)=>vs[o]? | _=>none,fun b=>match W.heap[b]? with | some (.map es clk)=>some (.all es clk) | _=>none⟩
theorem aJs (W:World):Holds (aDj W) W:=by
 refine⟨fun b o v h=>?_,fun b mk h=>?_⟩
 ·simp only[aDj] at h;split at h
  ·rename_i vs t fr q;exact⟨vs,t,fr,q,h⟩
  ·cases h
 ·simp only[aDj] at h;split at h
  ·rename_i q;cases h;exact q
  ·cases h
theorem aSo (W:World):(aDj W).noTop:=fun b m e=>by
 simp only[aDj] at e;split at e
 ·cases e;exact⟨_,_,rfl⟩
 ·cases e
theorem aNx (W:World):(aDj W).free:=fun b te lo hi e=>by
 obtain⟨_,_,h⟩:=aSo W b _ e;cases h
theorem aNy {W:World}{a:Addr}{v:Value}(h:W.cell? a=some v):(aDj W).cell a.block a.off=some v:=by
 unfold World.cell? at h;simp only[aDj];split at h
 ·rename_i q;rw[q];split at h
  ·cases h
  ·exact h
 ·cases h
theorem aN9 {P:Program}{f:FuncId}{args:List V}{vals:List Value}{res:V}(h:aU P f args [] res []) (W:World) (I:bS (aDj W) (fun _=>none) (look []) args vals) (ht:aTz W:=by first | assumption | (intro g h;cases h)):
  Calls P f ⟨vals⟩ W fun e W'=>∃v S μ,e=.returned v∧RowKit.Below W.heap.size W W'∧aZ S μ (look []) res v:=by
 have J:Inv ⟨W,aDj W,vF (fun _=>none) (look []),fun _=>none,look []⟩ (aDj W) (fun _=>none) (look []) W:=
  ⟨aJs W,(fun _ _ h=>by cases h),(fun _ _ _ _ _ _ _ h=>by cases h),(fun _ _ _ _ h=>by cases h),FrameW.refl _ _ ⟨ht,fun g _ ⟨_,_,_,h,_⟩=>by cases h⟩,Sto.le_refl _,fun _ _ _=>⟨fun _=>rfl,rfl⟩,Evolve.refl _ _ _,aNx W⟩
 refine(h (aDj W) (fun _=>none) W vals J I).mono ?_;rintro e W' ⟨S',μ',v,he,q,O⟩;refine⟨v,S',μ',he,⟨q.frame.os,q.frame.tape,q.frame.output,q.frame.size,fun k hk=>q.frame.block k hk ?_⟩,O⟩;rintro⟨id,o,c,h1,_⟩;cases h1
theorem aZd {S:Sto}{μ:Mu}{H:cK}{b:Bool}{v:Value}(h:aZ S μ H (B b) v):v=.bool b:=by simpa [aZ,b9,Rep] using h
def mP (l:List Int):List (List C):=l.map fun m=>[.int .i64 m]
theorem aRu {W:World}{a:Addr}{len cap:Nat}{l:List Int}(hs:cap≠0→a.spot=none) (hl:l.length=len) (hc:len≤cap) (hm:cap≤maxLen) (q:∀i,i<len→W.cell? (a.add i)=some (.int .i64 (l.getD i 0))):
  Rep (aDj W) (.sl 1 (mP l)) (.slice (some a) len cap):=by
 simp only[Rep];refine⟨some a,len,cap,rfl,by simp[mP,hl],hc,hm,(by intro h;cases h),(by intro J h;cases h;exact hs),a.block,a.off,(by intro J h;cases h;exact⟨rfl,rfl⟩),?_⟩;have key:∀(r:List Int) (k:Nat),(∀i,i<r.length→W.cell? (a.add (k+i))=some (.int .i64 (r.getD i 0)))→bJ (aDj W) 1 a.block (mP r) (a.off+k):=by
  intro r
  induction r with
  | nil=>intro k _;simp[mP,bJ]
  | cons x r O=>
   intro k I;simp only[mP,Al,bJ];refine⟨rfl,⟨[.int .i64 x],by simp[cB,Rep],fun i v hi=>?_⟩,?_⟩
   ·have h0:=aNy (I 0 (by simp));have hb:(a.add (k+0)).block=a.block:=by unfold Addr.add;split<;>rfl
    have Y:(a.add (k+0)).off=a.off+k:=by
     unfold Addr.add;split
     ·rename_i h;omega
     ·rfl
    rw[hb,Y] at h0;cases i with
    | zero=>simp at hi;subst hi;simpa using h0
    | succ i=>simp at hi
   ·have:=O (k+1) fun i hi=>by
     have:=I (i+1) (by simp;omega);rw[show k+(i+1)=k+1+i by omega] at this;simpa using this
    rw[Ci];exact this
 have:=key l 0 fun i hi=>by rw[Ba];exact q i (by omega)
 simpa using this
theorem aAv {W:World}:Rep (aDj W) (.sl 1 (mP [])) (.slice none 0 0):=by
 simp only[Rep];exact⟨none,0,0,rfl,rfl,le_refl _,Ak _,(fun _=>⟨rfl,rfl⟩),(by intro q h;cases h),0,0,(by intro q h;cases h),by simp[mP,bJ]⟩
theorem aJm {H:Type}{enc:TypeId×Value→H}{P:Program}{W:World}{t e:TypeId}{v:Value}{d:DataW H}{ps:List MemPlace}{base:Nat}(ht:P.underlying t=some (.slice e)) (he:P.underlying e=some (.int .i64)) (hc:P.cellsOf e=1)
  (hok:Value.okWide P W .any base t v) (h:DataW.Trod enc P W 0 (fun _=>true) true t v d ps):
  ∃l:List Int,Rep (aDj W) (.sl 1 (mP l)) v∧(∀m∈l,-9223372036854775808≤m∧m≤9223372036854775807)∧(∃x y,(d=.nil∧l=[])∨(d=.slice x y∧x.length=l.length)):=by
 obtain⟨fuel,hf⟩:=h;obtain⟨a0,q,I,rfl⟩:=WideShapes.okWide_slice ht hok;rcases ChangeShapes.open_ints ht he hc hf with⟨h1,h2⟩ | ⟨a,len,cap,J,h1,_,h3,h4,h5,Y,Z,h8⟩
 ·have O:Value.slice a0 q I=.slice none 0 0:=by
   simp only[Value.cells] at h1;simpa using h1
  cases O;refine⟨[],aAv,by simp,[],[],.inl ⟨?_,rfl⟩⟩;have:=congrArg Prod.fst h2;simpa using this
 ·have O:Value.slice a0 q I=.slice (some a) len cap:=by
   simp only[Value.cells] at h1;simpa using h1
  cases O;have hs:a.spot=none:=by
   simp only[Value.okWide,ht,Cell.okWide,Cell.ok] at hok;exact hok.2.2.2.1
  have hlen:q≤J.length:=by rw[h5];split<;>omega
  refine⟨J.take q,aRu (fun _=>hs) (by simp;omega) h3 h4 (fun i hi=>?_),fun m hm=>?_,ChangeShapes.lits .i64 (J.take q),ChangeShapes.lits .i64 (J.drop q),.inr ⟨?_,?_⟩⟩
  ·rw[Z i (by omega)];congr 2;simp[List.getD_eq_getElem?_getD,hi]
  ·have:=h8 m (Br hm);simp only[Lit.wf,ε,Bu] at this;exact this
  ·have:=congrArg Prod.fst Y;simpa using this
  ·simp[ChangeShapes.lits]
inductive BndV (st:St):Option Operand→Nat→Nat→Prop
 | no {m}:BndV st none m m
 | yes {x kk m k}:opv st x=some (I kk ((k:Nat):Int))→BndV st (some x) m k
def aTm:Option Operand→List Nat
 | none=>[]
 | some x=>opr x
section
variable {P:Program}{n:Nat}{o:Oper}{st:St}{d:Nat}{T:TT}
theorem BndV.val {G:Ctx}{S:Sto}{μ:Mu}{st':St}{a:Act}{w:World}{x:Option Operand}{m k:Nat}(h:BndV st x m k) (hs:Sim G n S μ st' a w) (ha:∀t∈aTm x,st'.e t=st.e t):
  (x=none∧k=m)∨∃kk,x.map a.eval=some (.int kk ((k:Nat):Int)):=by
 cases h with
 | no=>exact .inl ⟨rfl,rfl⟩
 | @yes x kk _ _ h=>exact .inr ⟨kk,by rw[Option.map_some,fN (aQ hs h ha)]⟩
theorem vS {w:World}{b:Bool}{len cap lo hi:Nat}{low high:Option Value}(hl:(low=none∧lo=0)∨∃kk,low=some (.int kk ((lo:Nat):Int))) (hh:(high=none∧hi=len)∨∃kk,high=some (.int kk ((hi:Nat):Int))) (h1:lo≤hi) (h2:hi≤len) (h3:len≤cap):
  (Instr.sliceBounds b len cap low high none).run P w=.ok (lo,hi,cap) w:=by
 have h4:hi≤cap:=le_trans h2 h3;rcases hl with⟨rfl,rfl⟩ | ⟨q,rfl⟩<;>rcases hh with⟨rfl,rfl⟩ | ⟨I,rfl⟩<;>simp[Instr.sliceBounds,Instr.sliceBound,asIntOf,h1,h4]
theorem a5o {t e:TypeId}{i ei:TI}{x:Operand}{low high:Option Operand}{es lo hi:Nat}{l:List (List C)}(I:Tok P T) (ho:o.op=.slice t x low high none) (hd:o.dst=some d) (J:d<n) (O:T[t]?=some (some i)) (hk:i.k=.sl e) (W:T[e]?=some (some ei)) (Y:ei.size=es)
  (hx:opv st x=some (.one (.c (.sl es l)))) (Z:BndV st low 0 lo) (aa:BndV st high l.length hi) (h1:lo≤hi) (h2:hi≤l.length):
  Step P n o st ⟨opr x++aTm low++aTm high,[]⟩ ⟨some (d,some (.one (.c (.sl es ((l.take hi).drop lo))))),[]⟩:=by
 refine Step.value hd J fun st' ha G S μ a w hs=>?_
 have hv:=aQ hs hx fun t ht=>ha.1 t (by simp[ht])
 have hl:=Z.val hs fun t ht=>ha.1 t (by simp[ht])
 have hh:=aa.val hs fun t ht=>ha.1 t (by simp[ht])
 simp only[aZ,b9,Rep] at hv;obtain⟨q,len,cap,p1,p2,p3,p4,p5,p6,b,of,p7,p8⟩:=hv;subst p2;have hb:=vS (P:=P) (w:=w) (b:=true) (low:=low.map a.eval) (high:=high.map a.eval) (len:=l.length) (cap:=cap) (by rcases hl with⟨rfl,h⟩ | h;exact .inl ⟨rfl,h⟩;exact .inr h) (by rcases hh with⟨rfl,h⟩ | h;exact .inl ⟨rfl,h⟩;exact .inr h) h1 h2 p3;refine⟨.slice (if cap=lo then q else q.map (·.add (lo*ei.size))) (hi-lo) (cap-lo),?_,?_⟩
 ·have hu:=Ap ((I.get O).slice hk) w;simp only[execOp,ho,p1,C5,Ag,Instr.sliceAt,hu,ω,Instr.slice,hb,(I.get W).size_run w,Ai]
 ·simp only[aZ,b9,Rep];have hlen:((l.take hi).drop lo).length=hi-lo:=by simp;omega
  refine⟨_,_,_,rfl,hlen.symm,by omega,by omega,?_,?_,?_⟩
  ·intro e;have:q=none:=by
    split at e
    ·exact e
    ·cases q<;>simp at e;rfl
   obtain⟨h3,h4⟩:=p5 this;omega
  ·intro y e hcc;split at e
   ·omega
   ·cases q with
    | none=>cases e
    | some z=>
     simp at e;subst e;have:=p6 z rfl (by omega);obtain⟨zb,zo,zs⟩:=z;simp at this;subst this;rw[Addr.add_mid]
  ·by_cases hc:cap=lo
   ·have:(l.take hi).drop lo=[]:=Bb (by omega);rw[this];refine⟨b,of,fun y e=>p7 y (by rwa [ξ hc] at e),by simp[bJ]⟩
   ·refine⟨b,of+lo*es,fun y e=>?_,(p8.take hi).drop lo⟩;rw[ψ hc] at e;cases q with
    | none=>cases e
    | some z=>
     simp at e;subst e;obtain⟨h3,h4⟩:=p7 z rfl;have:=p6 z rfl (by omega);obtain⟨zb,zo,zs⟩:=z;simp at this h3 h4;subst this h3 h4;rw[Addr.add_mid,Y];exact⟨rfl,rfl⟩
theorem extract_mk (s:List UInt8) (lo hi:Nat):(ByteArray.mk ⟨s⟩).extract lo hi=⟨⟨(s.take hi).drop lo⟩⟩:=by
 apply ByteArray.ext;simp;rw[drop_take]
theorem a1f {t:TypeId}{i:TI}{x:Operand}{low high:Option Operand}{lo hi:Nat}{s:List UInt8}(Y:Tok P T) (Z:o.op=.slice t x low high none) (hd:o.dst=some d) (q:d<n) (I:T[t]?=some (some i)) (hk:i.k=.str)
  (hx:opv st x=some (Go.AM.T s)) (J:BndV st low 0 lo) (O:BndV st high s.length hi) (h1:lo≤hi) (h2:hi≤s.length):
  Step P n o st ⟨opr x++aTm low++aTm high,[]⟩ ⟨some (d,some (Go.AM.T ((s.take hi).drop lo))),[]⟩:=by
 refine Step.value hd q fun st' ha G S μ a w hs=>?_
 have hv:=kX (aQ hs hx fun t ht=>ha.1 t (by simp[ht]));have hl:=J.val hs fun t ht=>ha.1 t (by simp[ht])
 have hh:=O.val hs fun t ht=>ha.1 t (by simp[ht])
 have hb:=vS (P:=P) (w:=w) (b:=false) (low:=low.map a.eval) (high:=high.map a.eval) (len:=s.length) (cap:=s.length) (by rcases hl with⟨rfl,h⟩ | h;exact .inl ⟨rfl,h⟩;exact .inr h) (by rcases hh with⟨rfl,h⟩ | h;exact .inl ⟨rfl,h⟩;exact .inr h) h1 h2 (le_refl _);refine⟨.string ⟨⟨(s.take hi).drop lo⟩⟩,?_,by simp[aZ,b9,Rep]⟩;have hu:=Ap ((Y.get I).str hk) w;have W:(ByteArray.mk ⟨s⟩).size=s.length:=rfl;simp only[execOp,Z,hv,C5,Ag,Instr.sliceAt,hu,ω,Instr.slice,W,hb,Option.isSome_none,Bc,B3,Ai,extract_mk]
theorem aUr {t:TypeId}{i:TI}{x y:Operand}{s:List UInt8}{kk:IntKind}{m:Int}{k:Nat}{b:UInt8}(Y:Tok P T) (Z:o.op=.index t x y) (hd:o.dst=some d) (q:d<n) (J:T[t]?=some (some i)) (hk:i.k=.str)
  (hx:opv st x=some (Go.AM.T s)) (hy:opv st y=some (I kk m)) (hm:m=(k:Int)) (hb:s[k]?=some b):Step P n o st ⟨opr x++opr y,[]⟩ ⟨some (d,some (I .u8 ((b.toNat:Nat):Int))),[]⟩:=by
 refine Step.value hd q fun st' ha G S μ a w hs=>?_
 have hv:=kX (aQ hs hx fun t ht=>ha.1 t (by simp[ht]));have h2:=fN (aQ hs hy fun t ht=>ha.1 t (by simp[ht]));subst hm;refine⟨.int .u8 ((b.toNat:Nat):Int),?_,by simp[aZ,b9,Rep]⟩;have hu:=Ap ((Y.get J).str hk) w;have hg:(ByteArray.mk ⟨s⟩)[k]?=some b:=by
  have O:=(τ.1 hb).1
  have W:(ByteArray.mk ⟨s⟩).size=s.length:=rfl;rw[getElem?_pos (ByteArray.mk ⟨s⟩) k (by rw[W];exact O)];have:=(τ.1 hb).2
  rw[←this];rfl
 simp only[execOp,Z,hv,h2,Ag,Instr.index,asIntOf,Ai,ω,hu];simp[hg]
theorem a5h {t1 t2:TypeId}{x y:Operand}{k:IntKind}{a b r:Int}(J:o.op=.call { callee:=.builtin .min,args:= #[x,y],argTypes:= #[t1,t2] }) (hd:o.dst=some d) (q:d<n) (hx:opv st x=some (I k a)) (O:opv st y=some (I k b)) (W:(if b<a then b else a)=r):
  Step P n o st ⟨opr x++opr y,[]⟩ ⟨some (d,some (I k r)),[]⟩:=by
 refine Step.value hd q fun st' ha G S μ ac w hs=>?_
 have h1:=fN (aQ hs hx fun t h=>ha.1 t (by simp[h]));have h2:=fN (aQ hs O fun t h=>ha.1 t (by simp[h]));refine⟨.int k r,?_,by simp[aZ,b9,Rep]⟩;simp only[execOp,J,resolve,map_toArray,Al,Bj,h1,h2,Ag,Ai,ω,invoke,builtin,Builtin.min_,List.foldlM_cons,List.foldlM_nil,Builtin.min2,W]
end
section
variable {P:Program}{n:Nat}{o:Oper}{st:St}{d:Nat}{T:TT}
theorem mW.rarr {S:Sto}{μ:Mu}{H:cK}{w:World}{id:Nat}{te es:Nat}{elems:List (List R)}(h:mW S μ H w id (.rarr te es elems)) {b base cap:Nat}(hm:μ id=some (b,base,cap)):
  (∀r∈elems,r.length=es)∧∃vs,w.heap[b]?=some (.cells ⟨vs⟩ te (0,0))∧base+cap*es≤vs.length∧elems.length≤cap∧(cap≤maxLen∧S.mapo b=none)∧aW S μ H elems.flatten ((vs.drop base).take (elems.length*es))∧(∀o,base≤o→S.cell b o=none):=by
 obtain⟨h0,h1 | ⟨W,q,I,vs,h1,h2,h3,h4,h5,J,O⟩⟩:=h
 ·rw[h1.1] at hm;cases hm
 ·rw[h1] at hm;cases hm;exact⟨h0,vs,h2,h3,h4,h5,J,O⟩
def xT (st:St) (es:Nat):Nat→List (Nat×Operand)→Option (List (List R))
 | _,[]=>some []
 | k,(i,x)::ps=>bif Nat.beq i k then(opv st x).bind fun v=>(iV v).bind fun rs=>bif Nat.beq rs.length es then(xT st es (k+1) ps).bind fun l=>some (rs::l) else none else none
theorem aAu {es:Nat}:∀{ps:List (Nat×Operand)}{k:Nat}{l:List (List R)},xT st es k ps=some l→l.length=ps.length∧∀r∈l,r.length=es
 | [],k,l,h=>by simp[xT] at h;subst h;simp
 | (i,x)::ps,k,l,h=>by
  simp only[xT] at h;cases hi:Nat.beq i k with
  | false=>rw[hi] at h;cases h
  | true=>
   rw[hi] at h;simp only[Bn,Aj] at h;obtain⟨v,O,rs,J,h⟩:=h;cases hl:Nat.beq rs.length es with
   | false=>rw[hl] at h;cases h
   | true=>
    rw[hl] at h;simp only[Bn,Aj] at h;obtain⟨l',I,h⟩:=h;cases h;obtain⟨h1,h2⟩:=aAu I;refine⟨by simp[h1],fun r q=>?_⟩;rcases Ah.1 q with rfl | q
    ·exact Ac hl
    ·exact h2 r q
theorem aI7 {G:Ctx}{S:Sto}{μ:Mu}{st':St}{a:Act}{w:World}(hs:Sim G n S μ st' a w) {es:Nat}:∀{k:Nat}{ps:List (Nat×Operand)}{rows:List (List R)},xT st es k ps=some rows→(∀t∈iB ps,st'.e t=st.e t)→
  ∀(cells:Array Value),cells.size=(k+ps.length)*es→∃out:Array Value,Instr.fill (fun i=>some (i*es,es)) cells (ps.map fun(i,x)=>(i,a.eval x))=some out∧out.size=cells.size∧
   ∃us,aW S μ st'.h rows.flatten us∧out.toList=cells.toList.take (k*es)++us:=by
 intro k ps
 induction ps generalizing k with
 | nil=>
  intro rows h _ cells hc;simp only[xT] at h;cases h;refine⟨cells,rfl,rfl,[],by simp[aW],?_⟩;rw[A8,Ax];simp at hc;simp[hc]
 | cons p ps ih=>
  obtain⟨i,x⟩:=p;intro rows h ha cells J;simp only[xT] at h;cases hi:Nat.beq i k with
  | false=>rw[hi] at h;cases h
  | true=>
   rw[hi] at h;have Z:=Ac hi;subst Z;simp only[Bn,Aj] at h;obtain⟨v,hv,rs,aa,h⟩:=h;cases hl:Nat.beq rs.length es with
   | false=>rw[hl] at h;cases h
   | true=>
    rw[hl] at h;simp only[Bn,Aj] at h;obtain⟨l',W,h⟩:=h;cases h;have hl':=Ac hl;have q:=eG (aQ hs hv fun t ht=>ha t (by simp[iB,ht])) aa;have ab:=q.length;simp only[Bd] at ab;simp only[Am] at J;have hke:(i+(ps.length+1))*es=i*es+es+ps.length*es:=by
     rw[Av,Av];omega
    have Y:=p9 (i*es) (a.eval x).cells.toList 0 cells (by simp only[Bd];omega);have O:(bX cells.toList (i*es) (a.eval x).cells.toList).length=cells.size:=by
     unfold bX;simp;omega
    obtain⟨out,h1,h2,us,h3,h4⟩:=ih W (fun t ht=>ha t (by simp[iB,ht])) ⟨bX cells.toList (i*es) (a.eval x).cells.toList⟩ (by
     simp only[size_toArray,O,J];congr 1
     omega)
    refine⟨out,?_,by rw[h2];simpa using O,(a.eval x).cells.toList++us,?_,?_⟩
    ·simp only[Al,Instr.fill];have I:((a.eval x).cells.size≠es || decide (i*es+(a.eval x).cells.size>cells.size))=false:=by
      simp only[Cw,B7];exact⟨by simp;omega,by omega⟩
     simp only[I,Bc,B3];have ac:((a.eval x).cells.zipIdx.foldl (fun cs (x:Value×Nat)=>cs.setIfInBounds (i*es+x.2) x.1) cells)=⟨bX cells.toList (i*es) (a.eval x).cells.toList⟩:=by
      rw[←Array.foldl_toList,Array.toList_zipIdx];simpa using Y
     rw[←h1];congr 1
    ·rw[Bk];exact q.append h3
    ·rw[h4];have:(bX cells.toList (i*es) (a.eval x).cells.toList).take ((i+1)*es)=cells.toList.take (i*es)++(a.eval x).cells.toList:=by
      unfold bX;apply take_left';simp;rw[Av];omega
     show(bX cells.toList (i*es) (a.eval x).cells.toList).take ((i+1)*es)++us=_;rw[this,A0]
theorem aRw {t e:TypeId}{i ei:TI}{len:Nat}{parts:Array (Nat×Operand)}{rows:List (List R)}(id:Nat) (J:Tok P T) (ho:o.op=.buildSlice t len parts) (hd:o.dst=some d) (ae:d<n) (hi:T[t]?=some (some i)) (hk:i.k=.sl e) (q:T[e]?=some (some ei))
  (I:xT st ei.size 0 parts.toList=some rows) (hlen:Nat.beq len parts.size=true) (O:Nat.ble (len*ei.size) 16777216=true) (aa:Nat.ble len 16777216=true) (hid:st.h id=none):
  Step P n o st ⟨iB parts.toList,[id]⟩ ⟨some (d,some (.one (.ra id 0 len len))),[(id,some (.rarr e ei.size rows))]⟩:=by
 refine Step.new hd ae hid (by simp) fun st' ha ab G S μ a w hs=>?_
 have Y:=Ac hlen;have hsm:=Aq O;obtain⟨z,hz,ag,_⟩:=(J.get q).zero_run;have Z:=(ag S).length;rw[(J.get q).len] at Z;simp only[Bd] at Z;obtain⟨ah,ai⟩:=aAu I;simp only[Bd] at ah;have key:∀(cells:Array Value),cells.size=len*ei.size→∃out:Array Value,Instr.fill (fun i=>some (i*ei.size,ei.size)) cells (parts.map fun(i,x)=>(i,a.eval x)).toList=some out∧out.size=len*ei.size∧aW S μ st'.h rows.flatten out.toList:=by
  intro cells hc;obtain⟨out,h1,h2,us,h3,h4⟩:=aI7 hs I ha.1 cells (by rw[hc,Y];simp);refine⟨out,by rw[←h1];simp,by rw[h2,hc],?_⟩;simp at h4;rw[h4];exact h3
 have ac:∃out:Array Value,(Instr.buildSlice t len (parts.map fun(i,x)=>(i,a.eval x))).run P w=.ok (.slice (some ⟨w.heap.size,0,none⟩) len len) (w.alloc (.cells out e))∧out.size=len*ei.size∧aW S μ st'.h rows.flatten out.toList:=by
  by_cases h0:len*ei.size=0
  ·obtain⟨out,h1,h2,h3⟩:=key ((Array.range (len*ei.size)).map ((#[]:Array Value)[· %(#[]:Array Value).size]!)) (by simp);refine⟨out,?_,h2,h3⟩;have W:¬len*ei.size>2^24:=by omega
   simp only[Instr.buildSlice,Ag,Ap ((J.get hi).slice hk) w,ω,(J.get q).size_run w];rw[ψ W,ξ h0];simp only[Ag,ω,Ai,h1,j5]
  ·obtain⟨out,h1,h2,h3⟩:=key ((Array.range (len*ei.size)).map (z.cells[· %z.cells.size]!)) (by simp);refine⟨out,?_,h2,h3⟩;have W:¬len*ei.size>2^24:=by omega
   simp only[Instr.buildSlice,Ag,Ap ((J.get hi).slice hk) w,ω,(J.get q).size_run w];rw[ψ W,ψ h0];simp only[Ag,hz w,ω,Ai,h1,j5]
 obtain⟨out,h1,h2,h3⟩:=ac;have aj:len≤maxLen:=by
  have:=Aq aa;unfold maxLen;omega
 have ad:rows.length=len:=by omega
 refine⟨_,_,.slice (some ⟨w.heap.size,0,none⟩) len len,(0,len),?_,WChg.alloc w (.cells out e),?_,?_⟩
 ·simp only[execOp,ho,Ag,h1,ω,Ai]
 ·refine⟨ai,.inr ⟨w.heap.size,0,len,out.toList,aI _ _ _,Bz w _,by simp[h2],by omega,⟨aj,oT hs.inv⟩,?_,fun o _=>fI hs.inv o⟩⟩;simp only[B4];rw[Ax (by simp[h2,ad])];exact aW.evolve (gO ab _ _) _ _ h3
 ·simp only[aZ,b9];exact⟨⟨_,_,_,rfl⟩,.inr ⟨e,ei.size,rows,aI _ _ _,by omega,fun _=>⟨by omega,.inr ⟨w.heap.size,0,len,aI _ _ _,by simp⟩⟩⟩⟩
theorem aJe {t e:TypeId}{i ei:TI}{x y:Operand}{te es k id off len sz:Nat}{kk:IntKind}{m:Int}{elems:List (List R)}(hT:Tok P T) (ho:o.op=.indexAddr t x y) (hd:o.dst=some d) (Y:d<n) (hi:T[t]?=some (some i)) (hk:i.k=.sl e) (Z:T[e]?=some (some ei)) (aa:ei.size=es)
  (hx:opv st x=some (.one (.ra id off len sz))) (hh:st.h id=some (.rarr te es elems)) (O:sz=elems.length) (hy:opv st y=some (I kk m)) (hm:m=(k:Int)) (ab:k<len):Step P n o st ⟨opr x++opr y,[id]⟩ ⟨some (d,some (.one (.rp id (off+k) 0 sz))),[]⟩:=by
 refine Step.value hd Y fun st' ha G S μ a w hs=>?_
 have q:=aQ hs hx fun t ht=>ha.1 t (by simp[ht])
 have ac:=fN (aQ hs hy fun t ht=>ha.1 t (by simp[ht]));have J:st'.h id=some (.rarr te es elems):=by rw[ha.2 id (by simp),hh]
 simp only[aZ,b9] at q;obtain⟨_,q | ⟨te',es',elems',h1,h2,h3⟩⟩:=q
 ·rw[J] at q;cases q
 rw[J] at h1;cases h1;obtain⟨h4,⟨h5,W,h7⟩ | ⟨b,base,cap,h5,W⟩⟩:=h3 O
 ·subst W;simp at O;omega
 subst hm;refine⟨.pointer (some ⟨b,base+(off+k)*es+0,none⟩),?_,?_⟩
 ·simp only[execOp,ho,W,ac,Ag,kU hT hi hk Z w b (base+off*es) len _ k kk ab,ω,Ai,aa,B0];rw[show base+off*es+k*es=base+(off+k)*es by rw[Av];omega]
 ·simp only[aZ,b9];exact⟨⟨_,rfl⟩,.inr ⟨te,es,elems,J,h2,fun _=>⟨by omega,b,base,cap,h5,rfl⟩⟩⟩
theorem aJg {t O:TypeId}{i W:TI}{fs:List (Nat×TypeId)}{f q:Nat}{x:Operand}{id k fo sz:Nat}(hT:Tok P T) (ho:o.op=.fieldAddr t x f) (hd:o.dst=some d) (Y:d<n) (hi:T[t]?=some (some i)) (hk:i.k=.st fs) (hf:fs[f]?=some (q,O)) (Z:T[O]?=some (some W)) (hz:W.size≠0)
  {te es:Nat} {elems:List (List R)} (hx:opv st x=some (.one (.rp id k fo sz))) (hh:st.h id=some (.rarr te es elems)) (aa:sz=elems.length):Step P n o st ⟨opr x,[id]⟩ ⟨some (d,some (.one (.rp id k (fo+q) sz))),[]⟩:=by
 refine Step.value hd Y fun st' ha G S μ a w hs=>?_
 have I:=aQ hs hx ha.1;have J:st'.h id=some (.rarr te es elems):=by rw[ha.2 id (by simp),hh]
 simp only[aZ,b9] at I;obtain⟨_,I | ⟨te',es',elems',h1,h2,h3⟩⟩:=I
 ·rw[J] at I;cases I
 rw[J] at h1;cases h1;obtain⟨h4,b,base,cap,h5,h6⟩:=h3 aa;refine⟨.pointer (some ⟨b,base+k*es+fo+q,none⟩),?_,?_⟩
 ·simp only[execOp,ho,h6,Ag,j9 hT hi hk hf Z hz,ω,Ai]
 ·simp only[aZ,b9];exact⟨⟨_,rfl⟩,.inr ⟨te,es,elems,J,h2,fun _=>⟨h4,b,base,cap,h5,by rw[Ci]⟩⟩⟩
theorem aR2 {t e:TypeId}{i:TI}{x:Operand}{te es id off len sz:Nat}{elems:List (List R)}(Y:Tok P T) (Z:o.op=.call { callee:=.builtin .len,args:= #[x],argTypes:= #[t] }) (hd:o.dst=some d) (aa:d<n) (hi:T[t]?=some (some i)) (hk:i.k=.sl e)
  (hx:opv st x=some (.one (.ra id off len sz))) (hh:st.h id=some (.rarr te es elems)) (J:sz=elems.length):Step P n o st ⟨opr x,[id]⟩ ⟨some (d,some (I .i64 (len:Int))),[]⟩:=by
 refine Step.value hd aa fun st' ha G S μ a w hs=>?_
 have q:=aQ hs hx ha.1;have O:st'.h id=some (.rarr te es elems):=by rw[ha.2 id (by simp),hh]
 simp only[aZ,b9] at q;obtain⟨_,q | ⟨te',es',elems',h1,h2,h3⟩⟩:=q
 ·rw[O] at q;cases q
 rw[O] at h1;cases h1;obtain⟨h4,⟨h5,W,h7⟩ | ⟨b,base,cap,h5,W⟩⟩:=h3 J
 ·have hl:len=0:=by subst W;simp at J;omega
  subst hl;refine⟨goInt 0,kT Z h7 ?_,by simp[aZ,b9,Rep,goInt]⟩;simp[Builtin.len_,Ap ((Y.get hi).slice hk) w]
 ·refine⟨goInt len,kT Z W ?_,by simp[aZ,b9,Rep,goInt]⟩;simp[Builtin.len_,Ap ((Y.get hi).slice hk) w]
theorem aLz {S:Sto}{μ:Mu}{H:cK}{es base:Nat}{elems:List (List R)}{vs:List Value}(h0:∀r∈elems,r.length=es) (h:aW S μ H elems.flatten ((vs.drop base).take (elems.length*es))) {k:Nat}{r:List R}(hk:elems[k]?=some r):
  aW S μ H r ((vs.drop (base+k*es)).take es):=by
 have q:k<elems.length:=(τ.1 hk).1
 have hmul:(k+1)*es≤elems.length*es:=Ar _ q;rw[Av] at hmul;have h1:=(h.drop (k*es)).take es;rw[eW h0 k r hk] at h1;rw[drop_take,take_take,drop_drop,Ch (by omega)] at h1;exact h1
theorem aL9 {t te es:Nat}{i:TI}{x:Operand}{id k fo sz:Nat}{elems:List (List R)}{r:List R}{y:V}(hT:Tok P T) (ho:o.op=.load t x) (hd:o.dst=some d) (Y:d<n) (hi:T[t]?=some (some i)) (hx:opv st x=some (.one (.rp id k fo sz)))
  (hh:st.h id=some (.rarr te es elems)) (Z:sz=elems.length) (hr:elems[k]?=some r) (hl:fo+i.size≤es) (hy:rB i ((r.drop fo).take i.size)=some y):Step P n o st ⟨opr x,[id]⟩ ⟨some (d,some y),[]⟩:=by
 refine Step.value hd Y fun st' ha G S μ a w hs=>?_
 have I:=aQ hs hx ha.1;have J:st'.h id=some (.rarr te es elems):=by rw[ha.2 id (by simp),hh]
 simp only[aZ,b9] at I;obtain⟨_,I | ⟨te',es',elems',h1,h2,h3⟩⟩:=I
 ·rw[J] at I;cases I
 rw[J] at h1;cases h1;obtain⟨h4,b,base,cap,h5,h6⟩:=h3 Z;obtain⟨g0,vs,g1,g2,g3,g4,g5,g6⟩:=(hs.inv.obj id _ J).rarr h5;have W:=aLz g0 g5 hr;have q:=(W.drop fo).take i.size;rw[drop_take,take_take,drop_drop,Ch (by omega)] at q;have hlt:k<elems.length:=(τ.1 hr).1
 have hmul:(k+1)*es≤cap*es:=Ar _ (by omega);rw[Av] at hmul;have hcl:((vs.drop (base+k*es+fo)).take i.size).length=i.size:=a6b (by omega);have hrg:=kW g1 (base+k*es+fo) i.size;refine⟨_,?_,mJ q hy⟩;have O:=run_load (hT.get hi) w b (base+k*es+fo) _ hrg hcl;simp only[execOp,ho,h6,Ag,Ai] at O ⊢;rw[O];rfl
theorem xW {x:Operand}{te es id k fo sz:Nat}{elems:List (List C)}{fz:Nat}(W:o.op=.nilCheck x) (hd:o.dst=some d) (J:d<n) (hx:opv st x=some (.one (.ep id k fo sz))) (hh:st.h id=some (.arr te es elems fz)) (O:sz=elems.length):
  Step P n o st ⟨opr x,[id]⟩ ⟨some (d,some (.one (.ep id k fo sz))),[]⟩:=by
 refine Step.value hd J fun st' ha G S μ a w hs=>⟨a.eval x,?_,aQ hs hx ha.1⟩
 have q:=aQ hs hx ha.1;have I:st'.h id=some (.arr te es elems fz):=by rw[ha.2 id (by simp),hh]
 simp only[aZ,b9] at q;obtain⟨_,q | ⟨Z,aa,elems',ab,h1,h2,h3⟩⟩:=q
 ·rw[I] at q;cases q
 rw[I] at h1;cases h1;obtain⟨h4,b,base,cap,h5,Y⟩:=h3 O;simp[execOp,W,Y]
theorem xV {x:Operand}{te es id k fo sz:Nat}{elems:List (List R)}(W:o.op=.nilCheck x) (hd:o.dst=some d) (J:d<n) (hx:opv st x=some (.one (.rp id k fo sz))) (hh:st.h id=some (.rarr te es elems)) (O:sz=elems.length):
  Step P n o st ⟨opr x,[id]⟩ ⟨some (d,some (.one (.rp id k fo sz))),[]⟩:=by
 refine Step.value hd J fun st' ha G S μ a w hs=>⟨a.eval x,?_,aQ hs hx ha.1⟩
 have q:=aQ hs hx ha.1;have I:st'.h id=some (.rarr te es elems):=by rw[ha.2 id (by simp),hh]
 simp only[aZ,b9] at q;obtain⟨_,q | ⟨Z,aa,elems',h1,h2,h3⟩⟩:=q
 ·rw[I] at q;cases q
 rw[I] at h1;cases h1;obtain⟨h4,b,base,cap,h5,Y⟩:=h3 O;simp[execOp,W,Y]
end
section
variable {P:Program}{n:Nat}{o:Oper}{st:St}{d:Nat}{T:TT}
theorem x7 {t e:TypeId}{i ei:TI}{x y:Operand}{id id2 sz te2:Nat}{elems rows:List (List R)}{st':St}{G:Ctx}{S:Sto}{μ:Mu}{a:Act}{w:World}(hT:Tok P T) (ho:o.op=.call { callee:=.builtin .append,args:= #[x,y],argTypes:= #[t,t] })
  (hi:T[t]?=some (some i)) (hk:i.k=.sl e) (hei:T[e]?=some (some ei)) (hes:Nat.ble 1 ei.size=true) (heb:Nat.ble 1 ei.bytes=true)
  (hsz:sz=elems.length) (hpos:0<rows.length) (hroom:(elems.length+rows.length)*ei.bytes≤140737488355328) (hh':st'.h id=some (.rarr e ei.size elems)) (hs:Sim G n S μ st' a w)
  (hvx:aZ S μ st'.h (.one (.ra id 0 sz sz)) (a.eval x)) (hvy:aZ S μ st'.h (.one (.ra id2 0 rows.length rows.length)) (a.eval y)) (hh2:st'.h id2=some (.rarr te2 ei.size rows)):
  ∃w' v b bo c,(execOp a.eval o).run P w=.ok (.value v) w'∧(w.heap.size≤b∨∃c',μ id=some (b,c'))∧WChg w w' b bo∧
   mW S (upd μ id (some (b,c))) (upd st'.h id (some (.rarr e ei.size (elems++rows)))) w' id (.rarr e ei.size (elems++rows))∧(∀o v,S.cell b o=some v→∃vs t fr,bo=.cells vs t fr∧vs[o]?=some v)∧(∀m,S.mapo b=some m→w.heap.size≤b)∧
   Evolve S μ st'.h S (upd μ id (some (b,c))) (upd st'.h id (some (.rarr e ei.size (elems++rows))))∧
   aZ S (upd μ id (some (b,c))) (upd st'.h id (some (.rarr e ei.size (elems++rows)))) (.one (.ra id 0 (elems.length+rows.length) (elems.length+rows.length))) v:=by
 subst hsz;have hes':=Aq hes;have heb':=Aq heb
 have hE:∀b c,Evolve S μ st'.h S (upd μ id (some (b,c))) (upd st'.h id (some (.rarr e ei.size (elems++rows)))):=fun b c=>⟨S.le_refl,fun j x I=>by
  by_cases hne:j=id
  ·subst hne;rw[hh'] at I;cases I;exact⟨_,aI _ _ _,by simp only[AObj.succ,true_and];exact⟨by simp,fun e=>by rw[Ab] at e;omega⟩⟩
  ·exact⟨x,by rw[aS _ _ _ hne];exact I,x.succ_refl (aS _ _ _ hne)⟩⟩
 obtain⟨ad,cc,news,hvy1,J,hrl,Y⟩:∃ad cc news,a.eval y=.slice (some ad) rows.length cc∧aW S μ st'.h rows.flatten news∧(∀r∈rows,r.length=ei.size)∧∀j u,news[j]?=some u→w.cell? (ad.add j)=some u:=by
  simp only[aZ,b9] at hvy;obtain⟨_,hv | ⟨te',es',elems',h1,h2,h3⟩⟩:=hvy
  ·rw[hh2] at hv;cases hv
  rw[hh2] at h1;cases h1;obtain⟨h4,⟨h5,Z,h7⟩ | ⟨b,base,cap,h5,Z⟩⟩:=h3 rfl
  ·rw[Z] at hpos;simp at hpos
  obtain⟨g0,vs,g1,g2,g3,g4,g5,g6⟩:=(hs.inv.obj id2 _ hh2).rarr h5;refine⟨_,_,_,Z,g5,g0,fun j u I=>?_⟩;rw[Addr.add_mid,cell_of_row w b _ ⟨vs⟩ te2 (0,0) g1];rw[Au] at I;split at I
  ·rw[An] at I;simpa using I
  ·cases I
 have O:news.length=rows.length*ei.size:=by rw[J.length,jE hrl]
 obtain⟨inf,dd,z,g1,g2,g3,g4,g5,g6,g7,g8⟩:=(hT.get hei).ex;have hu:=(hT.get hi).slice hk;have hzs:z.cells.size=ei.size:=by
  have h1:=(iJ (S:=S) g7).length;rw[(hT.get hei).len] at h1;simpa using h1
 simp only[aZ,b9] at hvx;obtain⟨_,hv | ⟨te',es',elems',h1,h2,h3⟩⟩:=hvx
 ·rw[hh'] at hv;cases hv
 rw[hh'] at h1;cases h1;obtain⟨h4,hcase⟩:=h3 rfl;have hbig:elems.length+rows.length≤140737488355328:=by
  have:(elems.length+rows.length)*1≤(elems.length+rows.length)*ei.bytes:=B9 _ heb';omega
 have hone:∀u∈news,u.oneCell'=true:=J.one;have hcap:∀old,elems.length+rows.length≤grownCap w (elems.length+rows.length) old e∧grownCap w (elems.length+rows.length) old e≤maxLen:=fun old=>
  ⟨grownCap_ge _ _ _ _,grownCap_le_maxLen _ _ _ _ (by unfold maxLen;omega)⟩
 have hlen':(elems++rows).length=elems.length+rows.length:=by simp
 have W:∀(aa:List Value) (old:Nat),aW S μ st'.h elems.flatten aa→∀g0:(∀r∈elems,r.length=ei.size),
   mW S (upd μ id (some (w.heap.size,0,grownCap w (elems.length+rows.length) old e))) (upd st'.h id (some (.rarr e ei.size (elems++rows))))
    (w.drew.alloc (.cells (aa.toArray++news.toArray++Builtin.zeroCells z.cells (grownCap w (elems.length+rows.length) old e-(elems.length+rows.length))) e)) id (.rarr e ei.size (elems++rows)):=by
  intro aa old hol g0;obtain⟨hc1,hc2⟩:=hcap old;have ab:=hol.length;rw[jE g0] at ab;refine⟨?_,.inr ⟨w.heap.size,0,grownCap w (elems.length+rows.length) old e,(aa.toArray++news.toArray++Builtin.zeroCells z.cells (grownCap w (elems.length+rows.length) old e-(elems.length+rows.length))).toList,aI _ _ _,Bz w.drew _,?_,by simpa using hc1,⟨hc2,oT hs.inv⟩,?_,fun o _=>fI hs.inv o⟩⟩
  ·intro r q;rcases χ.1 q with q | q
   ·exact g0 r q
   ·exact hrl r q
  ·simp only[Cy,Ab,Bd,size_zeroCells,hzs];simp only[ab,O,Ba,←Av];exact Ar _ (by omega)
  ·simp only[Cy,B4,Ab,flatten_append];rw[Cx (by simp[ab,O,Av]),Ax (by simp[ab,O,Av])];exact(aW.evolve (hE _ _) _ _ hol).append (aW.evolve (hE _ _) _ _ J)
 rcases hcase with⟨h5,Z,h7⟩ | ⟨b,base,cap,h5,Z⟩
 ·--the first elements
  subst Z;simp only[length_nil,Ba] at hroom hbig W hcap;have q:=run_append_nil (P:=P) w t o.type e inf z hu g1 g6 ad rows.length cc news (by rw[O,g3]) Y (by omega) (by omega) (by rw[g4];omega);refine⟨_,_,w.heap.size,_,(0,grownCap w rows.length 0 e),gM ho h7 hvy1 q,.inl (le_refl _),WChg.alloc_drew w _,?_,fun o v e=>(by rw[fI hs.inv o] at e;cases e),fun m e=>le_refl _,hE _ _,?_⟩
  ·have:=W [] 0 (by simp[aW]) (by simp);simpa using this
  ·simp only[aZ,b9];exact⟨⟨_,_,_,rfl⟩,.inr ⟨e,ei.size,_,aI _ _ _,by simp,fun _=>⟨by simp,.inr ⟨w.heap.size,0,_,aI _ _ _,by simp⟩⟩⟩⟩
 ·obtain⟨q0,vs,q1,q2,q3,q4,q5,q6⟩:=(hs.inv.obj id _ hh').rarr h5;have hce:elems.length*ei.size≤cap*ei.size:=Ar _ q3;simp only[sub_zero,Nat.zero_mul,B0] at Z;by_cases ac:elems.length+rows.length≤cap
  ·--there is room
   have hce2:(elems.length+rows.length)*ei.size≤cap*ei.size:=Ar _ ac;rw[Av] at hce2;have q:=lL (P:=P) w t o.type e inf hu g1 b base elems.length cap ⟨vs⟩ q1 ad rows.length cc news (by rw[O,g3]) Y hone ac (by rw[g3,O];simp only[size_toArray];omega);rw[g3] at q;have hW:=WChg.setRow w b ⟨vs⟩ ⟨vs.take (base+elems.length*ei.size)++news++vs.drop (base+elems.length*ei.size+news.length)⟩ e (0,0) q1
   refine⟨_,_,b,_,(base,cap),gM ho Z hvy1 q,.inr ⟨_,h5⟩,hW,⟨?_,.inr ⟨b,base,cap,_,aI _ _ _,hW.new,?_,by rw[hlen'];omega,q4,?_,q6⟩⟩,fun o v e=>(by
     by_cases hb:base≤o
     ·rw[q6 o hb] at e;cases e
     ·obtain⟨vs0,t0,fr0,p1,p2⟩:=hs.inv.holds.1 b o v e;rw[q1] at p1;cases p1;refine⟨_,_,_,rfl,?_⟩;simp only[List.getElem?_toArray] at p2 ⊢;have hlt:o<vs.length:=(τ.1 p2).1
      rw[A0,Be (by simp;omega),Au,ξ (by omega)]
      exact p2),fun m e=>jC q4.2 m e,hE _ _,?_⟩
   ·intro r q;rcases χ.1 q with q | q
    ·exact q0 r q
    ·exact hrl r q
   ·simp only[Ab,At,B5];omega
   ·rw[hlen',flatten_append];have e1:((vs.take (base+elems.length*ei.size)++news++vs.drop (base+elems.length*ei.size+news.length)).drop base).take ((elems.length+rows.length)*ei.size)=(vs.drop base).take (elems.length*ei.size)++news:=by
     rw[A0,List.drop_append_of_le_length (by simp;omega),←A0,Cx (by simp[Av];omega)];rw[Ax (by simp[Av];omega),drop_take];rw[show base+elems.length*ei.size-base=elems.length*ei.size by omega]
    rw[e1];exact(aW.evolve (hE _ _) _ _ q5).append (aW.evolve (hE _ _) _ _ J)
   ·simp only[aZ,b9];exact⟨⟨_,_,_,rfl⟩,.inr ⟨e,ei.size,_,aI _ _ _,by simp,fun _=>⟨by simp,.inr ⟨b,base,cap,aI _ _ _,by simp⟩⟩⟩⟩
  ·--into a new block
   have q:=run_append_grow (P:=P) w t o.type e inf z hu g1 g6 ⟨b,base,none⟩ elems.length cap ((vs.drop base).take (elems.length*ei.size)) (by rw[g3];simp;omega) (by
     intro j v I;rw[Addr.add_mid,cell_of_row w b _ ⟨vs⟩ e (0,0) q1];rw[Au] at I;split at I
     ·rw[An] at I;simpa using I
     ·cases I) ad rows.length cc news (by rw[O,g3]) Y (by omega) (by omega) (by rw[g4];exact growslice_fits (by omega) hroom)
   refine⟨_,_,w.heap.size,_,(0,grownCap w (elems.length+rows.length) cap e),gM ho Z hvy1 q,.inl (le_refl _),WChg.alloc_drew w _,?_,fun o v e=>(by rw[fI hs.inv o] at e;cases e),fun m e=>le_refl _,hE _ _,?_⟩
   ·have:=W _ cap q5 q0;simpa using this
   ·simp only[aZ,b9];exact⟨⟨_,_,_,rfl⟩,.inr ⟨e,ei.size,_,aI _ _ _,by simp,fun _=>⟨by simp,.inr ⟨w.heap.size,0,_,aI _ _ _,by simp⟩⟩⟩⟩
theorem aHy {y:V}{id te es:Nat}{elems:List (List R)}(hd:o.dst=some d) (J:d<n) {st':St}{G:Ctx}{S:Sto}{μ:Mu}{a:Act}{w:World}{K:Act→World→Prop}{Q:Exit→Act→World→Prop}
  (hs:Sim G n S μ st' a w) (q:∀b c',μ id=some (b,c')→∃ao,st'.h id=some ao) (hk:∀S' μ' O w',Sim G n S' μ' (Eff.apply ⟨some (d,some y),[(id,some (.rarr te es elems))]⟩ st') O w'→K O w')
  (h:∃w' v b I c,(execOp a.eval o).run P w=.ok (.value v) w'∧(w.heap.size≤b∨∃c',μ id=some (b,c'))∧WChg w w' b I∧mW S (upd μ id (some (b,c))) (upd st'.h id (some (.rarr te es elems))) w' id (.rarr te es elems)∧
   (∀o v,S.cell b o=some v→∃vs t fr,I=.cells vs t fr∧vs[o]?=some v)∧(∀m,S.mapo b=some m→w.heap.size≤b)∧Evolve S μ st'.h S (upd μ id (some (b,c))) (upd st'.h id (some (.rarr te es elems)))∧aZ S (upd μ id (some (b,c))) (upd st'.h id (some (.rarr te es elems))) y v):
  ∀ro,o.wpIn (Wd ro) 0 P a w K Q:=by
 obtain⟨w',v,b,I,c,hr,hb,hw,hO,hS,W,Y,hv⟩:=h;refine fun ro=>j1 hr ?_
 rw[hd];have hi:=hs.inv.chg (id:=id) (cap:=c) (ao:=.rarr te es elems) hw (hb.imp (fun h=>h) fun⟨c',h⟩=>by obtain⟨ao,Z⟩:=q _ _ h;exact⟨_,c',Z,h⟩) Y hO hS W;have:=hs.put hi Y J (x:=some y) (v:=v) (fun z hz=>by cases hz;exact hv);refine hk S (upd μ id (some (b,c))) _ _ ?_;unfold Eff.apply;rw[c7];exact this
theorem aMh {t e:TypeId}{i ei:TI}{x y:Operand}{id q sz J:Nat}{elems rows:List (List R)}(hT:Tok P T) (ho:o.op=.call { callee:=.builtin .append,args:= #[x,y],argTypes:= #[t,t] }) (hd:o.dst=some d) (Z:d<n)
  (hi:T[t]?=some (some i)) (hk:i.k=.sl e) (aa:T[e]?=some (some ei)) (ab:Nat.ble 1 ei.size=true) (ac:Nat.ble 1 ei.bytes=true)
  (hx:opv st x=some (.one (.ra id 0 sz sz))) (hh:st.h id=some (.rarr e ei.size elems)) (ad:sz=elems.length) (hy:opv st y=some (.one (.ra q 0 rows.length rows.length))) (ae:st.h q=some (.rarr J ei.size rows)) (W:0<rows.length)
  (I:(elems.length+rows.length)*ei.bytes≤140737488355328):
  Step P n o st ⟨opr x++opr y,[id,q]⟩ ⟨some (d,some (.one (.ra id 0 (elems.length+rows.length) (elems.length+rows.length)))),[(id,some (.rarr e ei.size (elems++rows)))]⟩:=by
 intro st' ha G S μ a w K Q hs ag;have ah:=aQ hs hx fun t ht=>ha.1 t (by simp[ht])
 have ai:=aQ hs hy fun t ht=>ha.1 t (by simp[ht])
 have O:st'.h id=some (.rarr e ei.size elems):=by rw[ha.2 id (by simp),hh]
 have Y:st'.h q=some (.rarr J ei.size rows):=by rw[ha.2 q (by simp),ae]
 exact aHy hd Z hs (fun _ _ _=>⟨_,O⟩) ag (x7 hT ho hi hk aa ab ac ad W I O hs ah ai Y)
theorem Inv.emptyR {G:Ctx}{S:Sto}{μ:Mu}{H:cK}{w:World}{id:Nat}(te es:Nat) (h:Inv G S μ H w) (hid:H id=none):Inv G S (upd μ id none) (upd H id (some (.rarr te es []))) w∧Evolve S μ H S (upd μ id none) (upd H id (some (.rarr te es []))):=by
 have O:Evolve S μ H S (upd μ id none) (upd H id (some (.rarr te es []))):=gO hid _ _;refine⟨⟨h.holds,fun j x q=>?_,fun i j x x' b c c' hi q hm I=>?_,fun i x b c hi hm=>?_,h.frame,h.sle,h.sto,h.evo.trans O,h.fre⟩,O⟩
 ·by_cases J:j=id
  ·subst J;rw[aI] at q;cases q;exact⟨by simp,.inl ⟨aI _ _ _,rfl⟩⟩
  ·rw[aS _ _ _ J] at q;exact(h.obj j x q).evolve O (aS _ _ _ J) fun _ _ _=>⟨rfl,fun _=>rfl,rfl⟩
 ·have h1:i≠id:=fun e=>by subst e;rw[aI] at hm;cases hm
  have h2:j≠id:=fun e=>by subst e;rw[aI] at I;cases I
  rw[aS _ _ _ h1] at hi hm;rw[aS _ _ _ h2] at q I;exact h.inj i j x x' b c c' hi q hm I
 ·have h1:i≠id:=fun e=>by subst e;rw[aI] at hm;cases hm
  rw[aS _ _ _ h1] at hi hm;exact h.own i x b c hi hm
theorem aJj {t e:TypeId}{i ei:TI}{x y:Operand}{q Y:Nat}{rows:List (List R)}(id:Nat) (hT:Tok P T) (ho:o.op=.call { callee:=.builtin .append,args:= #[x,y],argTypes:= #[t,t] }) (hd:o.dst=some d) (hdn:d<n)
  (hi:T[t]?=some (some i)) (hk:i.k=.sl e) (hei:T[e]?=some (some ei)) (hes:Nat.ble 1 ei.size=true) (heb:Nat.ble 1 ei.bytes=true)
  (hx:opv st x=some (.one (.c .nl))) (hid:st.h id=none) (hy:opv st y=some (.one (.ra q 0 rows.length rows.length))) (hh2:st.h q=some (.rarr Y ei.size rows)) (aa:0<rows.length)
  (W:rows.length*ei.bytes≤140737488355328):
  Step P n o st ⟨opr x++opr y,[id,q]⟩ ⟨some (d,some (.one (.ra id 0 rows.length rows.length))),[(id,some (.rarr e ei.size rows))]⟩:=by
 intro st' ha G S μ a w K Q hs hk';have J:st'.h id=none:=by rw[ha.2 id (by simp),hid]
 obtain⟨hi',hE⟩:=hs.inv.emptyR e ei.size J;have Z:Sim G n S (upd μ id none) ⟨st'.e,upd st'.h id (some (.rarr e ei.size [])),st'.d⟩ a w:=⟨hi',hs.size,hs.defers.evolve hE,fun t v e=>aZ.evolve hE v _ (hs.env t v e)⟩
 have O:=aQ hs hx fun t ht=>ha.1 t (by simp[ht])
 have hvy:=aQ hs hy fun t ht=>ha.1 t (by simp[ht])
 have I:st'.h q=some (.rarr Y ei.size rows):=by rw[ha.2 q (by simp),hh2]
 simp only[aZ,b9,Rep] at O;have hvx':aZ S (upd μ id none) (upd st'.h id (some (.rarr e ei.size []))) (.one (.ra id 0 0 0)) (a.eval x):=by
  simp only[aZ,b9];exact⟨⟨_,_,_,O⟩,.inr ⟨e,ei.size,[],aI _ _ _,le_refl _,fun _=>⟨le_refl _,.inl ⟨aI _ _ _,rfl,O⟩⟩⟩⟩
 have hne:q≠id:=fun e=>by subst e;rw[J] at I;cases I
 have:=x7 (elems:=[]) (id:=id) hT ho hi hk hei hes heb rfl aa (by simpa using W) (aI _ _ _) Z hvx' (aZ.evolve hE _ _ hvy) (by
  show upd st'.h id (some (.rarr e ei.size [])) q=_;rw[aS _ _ _ hne]
  exact I)
 refine aHy hd hdn Z (fun _ _ _=>⟨_,aI _ _ _⟩) (fun S' μ' a' w' h=>hk' S' μ' a' w' ?_) this;have e1:Eff.apply ⟨some (d,some (.one (.ra id 0 (([]:List (List R)).length+rows.length) (([]:List (List R)).length+rows.length)))),[(id,some (.rarr e ei.size ([]++rows)))]⟩ ⟨st'.e,upd st'.h id (some (.rarr e ei.size [])),st'.d⟩
   =Eff.apply ⟨some (d,some (.one (.ra id 0 rows.length rows.length))),[(id,some (.rarr e ei.size rows))]⟩ st':=by
  unfold Eff.apply;rw[c7,c7,nW];simp
 rw[e1] at h;exact h
end
section
variable {P:Program}{n:Nat}{o:Oper}{st:St}{d:Nat}{T:TT}
theorem aXa {src dst:TypeId}{i j:TI}{x:Operand}{k k':IntKind}{m:Int}(q:Tok P T) (Y:o.op=.convert src dst x) (hd:o.dst=some d) (J:d<n) (hi:T[src]?=some (some i)) (O:i.k=.int k) (Z:T[dst]?=some (some j)) (W:j.k=.int k')
  (hx:opv st x=some (I k m)):Step P n o st ⟨opr x,[]⟩ ⟨some (d,some (I k' (k'.wrap m))),[]⟩:=by
 refine Step.value hd J fun st' ha G S μ a w hs=>?_
 have hv:=fN (aQ hs hx ha.1);refine⟨.int k' (k'.wrap m),?_,by simp[aZ,b9,Rep]⟩;have h1:=(q.get hi).int O;have h2:=(q.get Z).int W;simp only[execOp,Y,hv,Ag,convert,Ap h1 w,Ap h2 w,ω,Conv.intToInt,Ai]
theorem aXb {src dst e:TypeId}{i j ei:TI}{x:Operand}{v:V}{ids:List Nat}{rows:List (List C)}{ns:List Int}(Y:Tok P T) (ho:o.op=.convert src dst x) (hd:o.dst=some d) (hdn:d<n) (hi:T[src]?=some (some i)) (hik:i.k=.sl e) (hei:T[e]?=some (some ei)) (hek:ei.k=.int .u8)
  (Z:T[dst]?=some (some j)) (hjk:j.k=.str) (hx:opv st x=some v) (aa:Src st 1 ids v rows) (hr:rows=ns.map fun m=>[C.int .u8 m]):Step P n o st ⟨opr x,ids⟩ ⟨some (d,some (Go.AM.T (ns.map fun m=>UInt8.ofNat m.toNat))),[]⟩:=by
 refine Step.value hd hdn fun st' ha G S μ a w hs=>?_
 have hv:=aQ hs hx ha.1;obtain⟨q,c,news,h1,h2,h3,h4,h5⟩:=aa.rel hs ha.2 hv;have J:=(Y.get hi).slice hik;have O:=(Y.get hei).int hek;have W:=(Y.get Z).str hjk;have I:∀(ns:List Int) (news:List Value),cB S (ns.map fun m=>[C.int .u8 m]).flatten news→news=ns.map (Value.int .u8):=by
  intro ns
  induction ns with
  | nil=>intro news h;simpa [cB] using h
  | cons m ns ih=>
   intro news h;simp only[Al,Bk,List.singleton_append,cB,Rep] at h;obtain⟨u,us,rfl,rfl,h⟩:=h;rw[ih us h];rfl
 rw[hr] at h2;have hn:=I ns news h2;have hrun:(convert src dst (a.eval x)).run P w=.ok (.string ⟨⟨ns.map fun m=>UInt8.ofNat m.toNat⟩⟩) w:=by
  rw[h1];cases q with
  | none=>
   have h6:=h4 rfl;rw[hr] at h6;have:ns=[]:=by simpa using h6
   subst this;exact run_convert_bytes_nil w src e J O _ _ dst W
  | some q=>
   have hlen:rows.length=ns.length:=by rw[hr];simp
   have hl:(loadCells q ns.length).run P w=.ok (ns.map (Value.int .u8)).toArray w:=by
    have:=run_loadCells_list (P:=P) w q (ns.map (Value.int .u8)) (fun j v Z=>h5 q rfl j v (by rw[hn];exact Z));simpa using this
   rw[hlen,run_convert_bytes_string w src dst e _ _ _ J O W,run_bytesToString w _ _ _ ns hl,foldl_push_bytes];simp[ByteArray.empty,ByteArray.emptyWithCapacity];rfl
 refine⟨.string ⟨⟨ns.map fun m=>UInt8.ofNat m.toNat⟩⟩,?_,by simp[aZ,b9,Rep]⟩;simp only[execOp,ho,Ag,hrun,ω,Ai]
theorem bB.length {S:Sto}{agg:Bool}:∀{l:List (List C)}{es:List MapEntry},bB S agg l es→es.length=l.length
 | [],es,h=>by simp only[bB] at h;subst h;rfl
 | r::rs,es,h=>by
  simp only[bB] at h;obtain⟨e,q,rfl,_,h⟩:=h;simp[bB.length h]
theorem aMe {t Z et:TypeId}{i:TI}{x:Operand}{id:Nat}{agg:Bool}{ents:List (List C)}(hT:Tok P T) (ho:o.op=.call { callee:=.builtin .len,args:= #[x],argTypes:= #[t] }) (hd:o.dst=some d) (J:d<n) (hi:T[t]?=some (some i)) (hk:i.k=.mp Z et)
  (hx:opv st x=some (.one (.mr id))) (hh:st.h id=some (.map agg ents)) (O:iA ents):Step P n o st ⟨opr x,[id]⟩ ⟨some (d,some (I .i64 (ents.length:Int))),[]⟩:=by
 refine Step.value hd J fun st' ha G S μ a w hs=>?_
 have W:=aQ hs hx ha.1;have q:st'.h id=some (.map agg ents):=by rw[ha.2 id (by simp),hh]
 simp only[aZ,b9] at W;obtain⟨agg',ents',b,c,h1,h2,h3⟩:=W;rw[q] at h1;cases h1;obtain⟨b',es,clk,Y,q2,q3,q4⟩:=hs.inv.obj id _ q;rw[h2] at Y;cases Y;have hl:=(q3.rep O).length;refine⟨goInt ents.length,kT ho h3 ?_,by simp[aZ,b9,Rep,goInt]⟩;have hg:(getObj b).run P w=.ok (.map es clk) w:=MapKept.run_getObj_map q2;simp at hl;simp[Builtin.len_,Ap ((hT.get hi).map hk) w,hg,hl]
end
section
variable {P:Program}{n:Nat}{T:TT}{o:Oper}{st:St}{d:Nat}
theorem tD {t e:TypeId}{i ei:TI}{x y:Operand}{O es k:Nat}{kk:IntKind}{m:Int}{l r:List R}(hT:Tok P T) (ho:o.op=.indexAddr t x y) (hd:o.dst=some d) (W:d<n) (hi:T[t]?=some (some i)) (hk:i.k=.sl e) (Y:T[e]?=some (some ei)) (Z:ei.size=es)
  (hx:opv st x=some (.one (.ras O es l))) (hy:opv st y=some (I kk m)) (hm:m=(k:Int)) (aa:k<O) (hr:(l.drop (k*es)).take es=r):Step P n o st ⟨opr x++opr y,[]⟩ ⟨some (d,some (.one (.pas r))),[]⟩:=by
 refine Step.value hd W fun st' ha G S μ a w hs=>?_
 have hv:=aQ hs hx (eI ha).1;have hv2:=fN (aQ hs hy (eI ha).2);simp only[aZ,b9] at hv;obtain⟨q,cap,h1,h2,h3,h4,h5,h6,b,off,h7,vs,h8,h9⟩:=hv;cases q with
 | none=>have:=(h5 rfl).1;omega
 | some q=>
  obtain⟨h10,h10'⟩:=h7 q rfl;have h11:=h6 q rfl;have had:q=⟨b,off,none⟩:=by cases q;simp_all
  subst had;subst hm;refine⟨.pointer (some ⟨b,off+k*es,none⟩),?_,?_⟩
  ·simp only[execOp,ho,h1,hv2,Ag,kU hT hi hk Y w b off O cap k kk aa,ω,Ai,Z]
  ·simp only[aZ,b9];subst hr;refine⟨b,off+k*es,rfl,(vs.drop (k*es)).take es,(h8.drop (k*es)).take es,fun j v J=>?_⟩;rw[Au] at J;split at J
   ·rw[An] at J;have:=h9 _ v J;rwa [←Ci] at this
   ·cases J
theorem aJd {t:TypeId}{i:TI}{x:Operand}{l:List R}{y:V}(W:Tok P T) (Y:o.op=.load t x) (hd:o.dst=some d) (I:d<n) (hi:T[t]?=some (some i)) (hx:opv st x=some (.one (.pas l)))
  (hl:i.size≤l.length) (Z:rB i (l.take i.size)=some y):Step P n o st ⟨opr x,[]⟩ ⟨some (d,some y),[]⟩:=by
 refine Step.value hd I fun st' ha G S μ a w hs=>?_
 have J:=aQ hs hx ha.1;simp only[aZ,b9] at J;obtain⟨b,off,h1,vs,h2,h3⟩:=J;have hvl:=h2.length;refine⟨_,?_,mJ (h2.take i.size) Z⟩;have hr:=nP hs.inv.holds h3;have O:w.rangeAt b off (vs.take i.size):=fun j v q=>by
  rw[Au] at q;split at q
  ·exact hr j v q
  ·cases q
 simp only[execOp,Y,h1,Ag,run_load (W.get hi) w b off _ O (by simp;omega),ω,Ai]
theorem aEb {t I:TypeId}{i J:TI}{fs:List (Nat×TypeId)}{f q:Nat}{x:Operand}{l:List R}(hT:Tok P T) (ho:o.op=.fieldAddr t x f) (hd:o.dst=some d) (O:d<n) (hi:T[t]?=some (some i)) (hk:i.k=.st fs) (hf:fs[f]?=some (q,I)) (W:T[I]?=some (some J)) (hz:J.size≠0)
  (hx:opv st x=some (.one (.pas l))):Step P n o st ⟨opr x,[]⟩ ⟨some (d,some (.one (.pas (l.drop q)))),[]⟩:=by
 refine Step.value hd O fun st' ha G S μ a w hs=>?_
 have Y:=aQ hs hx ha.1;simp only[aZ,b9] at Y;obtain⟨b,off,h1,vs,h2,h3⟩:=Y;refine⟨.pointer (some ⟨b,off+q,none⟩),?_,?_⟩
 ·simp only[execOp,ho,h1,Ag,j9 hT hi hk hf W hz,ω,Ai]
 ·simp only[aZ,b9];refine⟨b,off+q,rfl,vs.drop q,h2.drop q,fun j v Z=>?_⟩;rw[An] at Z;have:=h3 (q+j) v Z;rwa [←Ci] at this
theorem aMd {t e:TypeId}{i:TI}{x:Operand}{q es:Nat}{l:List R}(W:Tok P T) (Y:o.op=.call { callee:=.builtin .len,args:= #[x],argTypes:= #[t] }) (hd:o.dst=some d) (J:d<n) (hi:T[t]?=some (some i)) (hk:i.k=.sl e)
  (hx:opv st x=some (.one (.ras q es l))):Step P n o st ⟨opr x,[]⟩ ⟨some (d,some (I .i64 (q:Int))),[]⟩:=by
 refine Step.value hd J fun st' ha G S μ a w hs=>?_
 have O:=aQ hs hx ha.1;simp only[aZ,b9] at O;obtain⟨Z,cap,h1,_⟩:=O;refine⟨goInt q,kT Y h1 ?_,by simp[aZ,b9,Rep,goInt]⟩;simp[Builtin.len_,Ap ((W.get hi).slice hk) w]
theorem aI8 {t te es:Nat}{i:TI}{x y:Operand}{id k fo sz:Nat}{elems:List (List R)}{v:V}{cs r:List R}(hT:Tok P T) (ho:o.op=.store t x y) (hd:o.dst=none) (hi:T[t]?=some (some i)) (hx:opv st x=some (.one (.rp id k fo sz)))
  (hy:opv st y=some v) (hc:iV v=some cs) (hh:st.h id=some (.rarr te es elems)) (hsz:sz=elems.length) (hr:elems[k]?=some r) (hcs:cs.length=i.size) (hl:fo+i.size≤es):
  Step P n o st ⟨opr x++opr y,[id]⟩ ⟨none,[(id,some (.rarr te es (elems.set k (bX r fo cs))))]⟩:=by
 refine Step.turn hd hh (by simp) (by simp[AObj.succ]) fun st' ha J G S μ a w hs=>?_
 have hvx:=aQ hs hx fun t ht=>ha.1 t (by simp[ht])
 have hvy:=aQ hs hy fun t ht=>ha.1 t (by simp[ht])
 simp only[aZ,b9] at hvx;obtain⟨_,hv | ⟨te',es',elems',h1,h2,h3⟩⟩:=hvx
 ·rw[J] at hv;cases hv
 rw[J] at h1;cases h1;obtain⟨h4,b,base,cap,h5,h6⟩:=h3 hsz;obtain⟨g0,vs,g1,g2,g3,g4,g5,g6⟩:=(hs.inv.obj id _ J).rarr h5;have W:=eG hvy hc;have Y:=W;have hone:=W.one;have hnl:=Y.length;have hk:k<elems.length:=(τ.1 hr).1
 have hres:r.length=es:=g0 r (δ hr);have hke:(k+1)*es≤elems.length*es:=Ar _ hk;have hce:elems.length*es≤cap*es:=Ar _ g3;rw[Av] at hke;generalize hnews:(a.eval y).cells.toList=news at *;have hrun:=run_store (hT.get hi) w b (base+k*es+fo) vs news te (a.eval y) g1 hnews (by omega) (by omega) hone;have hE:=l8 (S:=S) (μ:=μ) (o':=.rarr te es (elems.set k (bX r fo cs))) J h5 (by simp[AObj.succ]);have Z:=aLz g0 g5 hr;have O:=aEs g0 k r hr;have hlen:(elems.set k (bX r fo cs)).length=elems.length:=by simp
 have hW:=WChg.setRow w b ⟨vs⟩ ⟨vs.take (base+k*es+fo)++news++vs.drop (base+k*es+fo+news.length)⟩ te (0,0) g1;refine⟨_,_,b,(base,cap),?_,h5,hW,⟨?_,.inr ⟨b,base,cap,_,aI _ _ _,hW.new,?_,by rw[hlen];exact g3,g4,?_,g6⟩⟩,fun o v e=>?_,fun m e=>jC g4.2 m e⟩
 ·simp only[execOp,ho,h6,Ag,hrun,ω,Ai]
 ·intro q hq;rcases Cv hq with hq | rfl
  ·exact g0 q hq
  ·unfold bX;simp;omega
 ·simp only[Ab,At,B5];omega
 ·rw[hlen];have e1:(elems.set k (bX r fo cs)).flatten=elems.flatten.take (k*es)++(r.take fo++cs++r.drop (fo+cs.length))++elems.flatten.drop (k*es+es):=by
   rw[Cj,ξ hk,flatten_append,Bk,O.1,O.2,←A0];rfl
  have e2:((vs.take (base+k*es+fo)++news++vs.drop (base+k*es+fo+news.length)).drop base).take (elems.length*es)=
    ((vs.drop base).take (elems.length*es)).take (k*es)++((((vs.drop (base+k*es)).take es).take fo)++news++(((vs.drop (base+k*es)).take es).drop (fo+cs.length)))++((vs.drop base).take (elems.length*es)).drop (k*es+es):=by
   apply Bx;intro j;simp only[Au,An,B6,Ab,At,B5];have hm1:min (k*es) (min (elems.length*es) (vs.length-base))=k*es:=by omega
   have hm2:min (base+k*es+fo) vs.length=base+k*es+fo:=by omega
   have hm3:min fo es=fo:=by omega
   have hm4:min es (vs.length-(base+k*es))=es:=by omega
   simp only[hm1,hm2,hm3,hm4,hnl];by_cases c1:j<k*es
   ·have I:j<elems.length*es:=by omega
    have a2:base+j<base+k*es+fo:=by omega
    have a3:base+j<base+k*es+fo+cs.length:=by omega
    have a4:j<k*es+(fo+cs.length+(es-(fo+cs.length))):=by omega
    simp[c1,I,a2,a3,a4]
   ·by_cases c2:j<k*es+fo
    ·have I:j<elems.length*es:=by omega
     have a2:base+j<base+k*es+fo:=by omega
     have a3:base+j<base+k*es+fo+cs.length:=by omega
     have a4:j<k*es+(fo+cs.length+(es-(fo+cs.length))):=by omega
     have a5:j-k*es<fo+cs.length:=by omega
     have a6:j-k*es<fo:=by omega
     have a7:j-k*es<es:=by omega
     simp[c1,I,a2,a3,a4,a5,a6,a7,show base+k*es+(j-k*es)=base+j by omega]
    ·by_cases c3:j<k*es+fo+cs.length
     ·have I:j<elems.length*es:=by omega
      have a2:¬base+j<base+k*es+fo:=by omega
      have a3:base+j<base+k*es+fo+cs.length:=by omega
      have a4:j<k*es+(fo+cs.length+(es-(fo+cs.length))):=by omega
      have a5:j-k*es<fo+cs.length:=by omega
      have a6:¬j-k*es<fo:=by omega
      simp[c1,I,a2,a3,a4,a5,a6,show base+j-(base+k*es+fo)=j-k*es-fo by omega]
     ·by_cases c4:j<k*es+es
      ·have I:j<elems.length*es:=by omega
       have a3:¬base+j<base+k*es+fo+cs.length:=by omega
       have a4:j<k*es+(fo+cs.length+(es-(fo+cs.length))):=by omega
       have a5:¬j-k*es<fo+cs.length:=by omega
       have a6:fo+cs.length+(j-k*es-(fo+cs.length))<es:=by omega
       simp[c1,I,a3,a4,a5,a6,show base+k*es+fo+cs.length+(base+j-(base+k*es+fo+cs.length))=base+j by omega,show base+k*es+(fo+cs.length+(j-k*es-(fo+cs.length)))=base+j by omega]
      ·have a3:¬base+j<base+k*es+fo+cs.length:=by omega
       have a4:¬j<k*es+(fo+cs.length+(es-(fo+cs.length))):=by omega
       by_cases c5:j<elems.length*es
       ·have a5:k*es+es+(j-(k*es+(fo+cs.length+(es-(fo+cs.length)))))<elems.length*es:=by omega
        simp[a3,a4,c5,a5,show base+k*es+fo+cs.length+(base+j-(base+k*es+fo+cs.length))=base+j by omega,show base+(k*es+es+(j-(k*es+(fo+cs.length+(es-(fo+cs.length))))))=base+j by omega]
       ·have a5:¬k*es+es+(j-(k*es+(fo+cs.length+(es-(fo+cs.length)))))<elems.length*es:=by omega
        simp[a4,c5,a5]
  rw[e1];show aW S _ _ _ (((vs.take (base+k*es+fo)++news++vs.drop (base+k*es+fo+news.length)).drop base).take (elems.length*es));rw[e2];refine aW.evolve hE _ _ ?_;exact((g5.take (k*es)).append (((Z.take fo).append Y).append (Z.drop (fo+cs.length)))).append (g5.drop (k*es+es))
 ·--what stays is not touched
  by_cases hb:base≤o
  ·rw[g6 o hb] at e;cases e
  ·obtain⟨vs0,t0,fr0,q1,q2⟩:=hs.inv.holds.1 b o v e;rw[g1] at q1;cases q1;refine⟨_,_,_,rfl,?_⟩;simp only[List.getElem?_toArray] at q2 ⊢;have hlt:o<vs.length:=(τ.1 q2).1
   rw[A0,Be (by simp;omega),Au,ξ (by omega)];exact q2
end
def frc {α:Type}:List α→Option (List α)
 | []=>some []
 | x::xs=>(frc xs).bind fun l=>some (x::l)
theorem lO {α:Type}:∀l:List α,frc l=some l
 | []=>rfl
 | x::xs=>by simp[frc,lO xs]
def tak {α:Type}:Nat→List α→Option (List α)
 | 0,_=>some []
 | _+1,[]=>none
 | k+1,x::xs=>(tak k xs).bind fun l=>some (x::l)
theorem sO {α:Type}:∀{k:Nat}{l r:List α},tak k l=some r→k≤l.length∧l.take k=r
 | 0,l,r,h=>by simp[tak] at h;simp[h]
 | k+1,[],r,h=>by simp[tak] at h
 | k+1,x::xs,r,h=>by
  simp only[tak,Aj] at h;obtain⟨l,h1,h2⟩:=h;cases h2;obtain⟨h3,h4⟩:=sO h1;exact⟨by simp;omega,by simp[h4]⟩
inductive Tr where
 | leaf (o:Option TI)
 | node (k:Nat) (l r:Tr)
def Tr.get:Tr→Nat→Option TI
 | .leaf o,t=>bif Nat.beq t 0 then o else none
 | .node k l r,t=>bif Nat.blt t k then l.get t else r.get (t-k)
def Tr.flat:Tr→TT
 | .leaf o=>[o]
 | .node _ l r=>l.flat++r.flat
def Tr.wf:Tr→Bool
 | .leaf _=>true
 | .node k l r=>Nat.beq k l.flat.length&&(l.wf&&r.wf)
theorem Tr.get_ok:∀{tr:Tr}{t:Nat}{i:TI},tr.wf=true→tr.get t=some i→tr.flat[t]?=some (some i)
 | .leaf o,t,i,_,h=>by
  simp only[Tr.get] at h;cases hb:Nat.beq t 0 with
  | false=>rw[hb] at h;cases h
  | true=>
   rw[hb] at h;have:=Ac hb;subst this;simp only[Bn] at h;simp[Tr.flat,h]
 | .node k l r,t,i,hw,h=>by
  simp only[Tr.wf,ε] at hw;have hk:=Ac hw.1;simp only[Tr.get] at h;simp only[Tr.flat,B6];cases hb:Nat.blt t k with
  | true=>
   rw[hb] at h;have:t<k:=Aq hb;rw[ξ (by omega)];exact Tr.get_ok hw.2.1 h
  | false=>
   rw[hb] at h;have:¬t<k:=fun q=>by
    have:Nat.blt t k=true:=Nat.ble_eq_true_of_le q;rw[hb] at this;cases this
   rw[ψ (by omega),←hk];exact Tr.get_ok hw.2.2 h
def j7:List Prop→Prop
 | []=>True
 | p::l=>p∧j7 l
def jB (md:Bool) (p:Prop) [Decidable p] (ob:List Prop):Option (List Prop):=bif md then some (p::ob) else bif decide p then some ob else none
theorem bA {md:Bool}{p:Prop} [Decidable p] {ob q:List Prop}(h:jB md p ob=some q):j7 q→j7 ob∧p:=by
 unfold jB at h;cases md with
 | true=>cases h;exact fun h=>⟨h.2,h.1⟩
 | false=>
  simp only[Bs] at h;cases hp:decide p with
  | false=>rw[hp] at h;cases h
  | true=>rw[hp] at h;cases h;exact fun h=>⟨h,θ hp⟩
inductive Hn where
 | no
 | id (n:Nat)
 | bv (b:Bool)
 | row (k:Nat) (r:List C)
 | all
 | look (r:Option (List C))
 | c (rows:List (List C))
 | byte (k:Nat) (b:UInt8)
 | pc (res:V)
 | fz
 | rr (r:List R)
 | rowR (k:Nat) (r:List R)
def aQx:List (Nat×Hn)→Nat→Hn
 | [],_=>.no
 | (k,h)::l,i=>bif Nat.beq i k then h else aQx l i
abbrev Ans:=Option (Rd×Eff×List Prop)
def Snd (P:Program) (n:Nat) (o:Oper) (st:St) (ob:List Prop) (r:Ans):Prop:=∀rd f ob',r=some (rd,f,ob')→j7 ob'→j7 ob∧Step P n o st rd f
def val (o:Oper) (n:Nat) (rd:Rd) (v:V) (h:List (Nat×Option AObj)) (ob:List Prop):Ans:=
 match o.dst with
 | some d=>bif Nat.blt d n then some (rd,⟨some (d,some v),h⟩,ob) else none
 | none=>none
def eff (o:Oper) (rd:Rd) (h:List (Nat×Option AObj)) (ob:List Prop):Ans:=
 match o.dst with
 | none=>some (rd,⟨none,h⟩,ob)
 | some _=>none
def opO (st:St):Operand→Option V
 | .tmp t=>st.e t
 | .const v=>match v with
  | .int k n=>some (.one (.c (.int k n)))
  | .bool b=>some (.one (.c (.bool b)))
  | .string ⟨⟨l⟩⟩=>some (.one (.c (.str l)))
  | .slice none 0 0=>some (.one (.c .nl))
  | .pointer none=>some (.one (.c .np))
  | .map none=>some (.one (.c (.zv 0)))
  | .nilFunc=>some (.one (.c (.zv 1)))
  | .nilIface=>some (.one (.c (.zv 2)))
  | _=>none
 | .func f=>some (.one (.clo f []))
 | .global _=>none
theorem cV (st:St) (x:Operand):opO st x=opv st x:=by
 cases x with
 | const v=>
  cases v with
  | string s=>obtain⟨⟨l⟩⟩:=s;rfl
  | slice a l c=>
   cases a with
   | some _=>rfl
   | none=>
    cases l with
    | zero=>cases c<;>rfl
    | succ _=>rfl
  | pointer p=>cases p<;>rfl
  | map m=>cases m<;>rfl
  | _=>rfl
 | _=>rfl
def a4z (rs:List R):Option V:=match jL rs with | some l=>some (.pa l) | none=>some (.ma rs)
theorem aQd (rs:List R):a4z rs=some (aZ5 rs):=by
 unfold a4z aZ5;cases jL rs<;>rfl
def aJt (i:TI) (rs:List R):Option V:=bif i.k.agg then a4z rs else match rs with | [r]=>some (.one r) | _=>none
theorem s4 (i:TI) (rs:List R):aJt i rs=rB i rs:=by
 unfold aJt rB;cases i.k.agg
 ·rfl
 ·exact aQd rs
def aHu (i:TI) (l:List C):Option V:=bif i.k.agg then some (.pa l) else match l with | [c]=>some (.one (.c c)) | _=>none
theorem aBs (i:TI) (l:List C):aHu i l=aJu i l:=by
 unfold aHu aJu;cases i.k.agg<;>rfl
def pD (v:V):Option (List R):=(iV v).bind frc
theorem jI (v:V):pD v=iV v:=by
 unfold pD;cases iV v with
 | none=>rfl
 | some l=>simp[lO]
theorem eY {α:Type}{b:Bool}{x:Option α}{y:α}(h:(bif b then x else none)=some y):b=true∧x=some y:=by
 cases b
 ·cases h
 ·exact⟨rfl,h⟩
theorem fU {d n:Nat}(h:Nat.blt d n=true):d<n:=Aq h
theorem a0m {o:Oper}{n:Nat}{rd q:Rd}{v:V}{h:List (Nat×Option AObj)}{ob I:List Prop}{f:Eff}(e:val o n rd v h ob=some (q,f,I)):∃d,o.dst=some d∧d<n∧q=rd∧f=⟨some (d,some v),h⟩∧I=ob:=by
 unfold val at e;split at e
 ·rename_i d hd;obtain⟨h1,h2⟩:=eY e;cases h2;exact⟨d,hd,fU h1,rfl,rfl,rfl⟩
 ·cases e
theorem a2z {o:Oper}{rd q:Rd}{h:List (Nat×Option AObj)}{ob I:List Prop}{f:Eff}(e:eff o rd h ob=some (q,f,I)):o.dst=none∧q=rd∧f=⟨none,h⟩∧I=ob:=by
 unfold eff at e;split at e
 ·rename_i hd;cases e;exact⟨hd,rfl,rfl,rfl⟩
 ·cases e
theorem Snd.val {P:Program}{n:Nat}{o:Oper}{st:St}{ob q:List Prop}{rd:Rd}{v:V}{h:List (Nat×Option AObj)}(hk:∀d,o.dst=some d→d<n→j7 q→j7 ob∧Step P n o st rd ⟨some (d,some v),h⟩):Snd P n o st ob (Go.AM.val o n rd v h q):=by
 intro J f I e hc;obtain⟨d,h1,h2,rfl,rfl,rfl⟩:=a0m e;exact hk d h1 h2 hc
theorem Snd.eff {P:Program}{n:Nat}{o:Oper}{st:St}{ob q:List Prop}{rd:Rd}{h:List (Nat×Option AObj)}(hk:o.dst=none→j7 q→j7 ob∧Step P n o st rd ⟨none,h⟩):Snd P n o st ob (Go.AM.eff o rd h q):=by
 intro J f I e hc;obtain⟨h1,rfl,rfl,rfl⟩:=a2z e;exact hk h1 hc
theorem Snd.none {P:Program}{n:Nat}{o:Oper}{st:St}{ob:List Prop}:Snd P n o st ob none:=by
 intro rd f q e;cases e
theorem Snd.bind {P:Program}{n:Nat}{o:Oper}{st:St}{ob:List Prop}{α:Type}{x:Option α}{k:α→Ans}(h:∀y,x=some y→Snd P n o st ob (k y)):Snd P n o st ob (x.bind k):=by
 intro rd f q e;rw[Aj] at e;obtain⟨y,h1,h2⟩:=e;exact h y h1 rd f q h2
theorem Snd.cond {P:Program}{n:Nat}{o:Oper}{st:St}{ob:List Prop}{b:Bool}{r:Ans}(h:b=true→Snd P n o st ob r):Snd P n o st ob (bif b then r else Option.none):=by
 cases b
 ·exact Snd.none
 ·exact h rfl
section
variable {P:Program}{n:Nat}{o:Oper}{st:St}{ob:List Prop}{tr:Tr}{md:Bool}
def aIt (o:Oper) (n:Nat) (st:St) (ob:List Prop) (x:Operand):Ans:=(opO st x).bind fun y=>val o n ⟨opr x,[]⟩ y [] ob
theorem aPu {x:Operand}(I:o.op=.move x):Snd P n o st ob (aIt o n st ob x):=
 Snd.bind fun y J=>Snd.val fun _ hd q hc=>⟨hc,a1p I hd q (by rw[←cV];exact J)⟩
theorem aE9 {x:Operand}(I:o.op=.assign x):Snd P n o st ob (aIt o n st ob x):=
 Snd.bind fun y J=>Snd.val fun _ hd q hc=>⟨hc,aR5 I hd q (by rw[←cV];exact J)⟩
def aRd (hn:Hn) (b:Bool) (ob:List Prop):Bool×List Prop:=match hn with
 | .bv w=>(w,(b=w)::ob)
 | _=>match b with
  | true=>(true,ob)
  | false=>(false,ob)
theorem rE {hn:Hn}{b w:Bool}{ob q:List Prop}(h:aRd hn b ob=(w,q)):j7 q→j7 ob∧b=w:=by
 unfold aRd at h;split at h
 ·cases h;exact fun h=>⟨h.2,h.1⟩
 ·cases b<;>(cases h;exact fun h=>⟨h,rfl⟩)
def aV9 (o:Oper) (n:Nat) (st:St) (ob:List Prop) (hn:Hn) (c x y:Operand):Ans:=(opO st c).bind fun v=>match v with
 | .one (.c (.bool b))=>match aRd hn b ob with
  | (true,ob')=>(opO st x).bind fun z=>val o n ⟨opr c++opr x,[]⟩ z [] ob'
  | (false,ob')=>(opO st y).bind fun z=>val o n ⟨opr c++opr y,[]⟩ z [] ob'
 | _=>none
theorem aPs {hn:Hn}{c x y:Operand}(O:o.op=.pick c x y):Snd P n o st ob (aV9 o n st ob hn c x y):=by
 refine Snd.bind fun v J=>?_
 rw[cV] at J;split
 ·rename_i b;split
  ·rename_i W ht;refine Snd.bind fun z q=>Snd.val fun _ hd I hc=>?_
   rw[cV] at q;obtain⟨h1,h2⟩:=rE ht hc;exact⟨h1,aRy O hd I J h2 q⟩
  ·rename_i W ht;refine Snd.bind fun z q=>Snd.val fun _ hd I hc=>?_
   rw[cV] at q;obtain⟨h1,h2⟩:=rE ht hc;exact⟨h1,aRz O hd I J h2 q⟩
 ·exact Snd.none
def aC0 (o:Oper) (n:Nat) (st:St) (ob:List Prop) (x:Operand) (i:Nat):Ans:=(opO st x).bind fun v=>match v with
 | .tup l=>(l[i]?).bind fun z=>val o n ⟨opr x,[]⟩ z [] ob
 | _=>none
theorem aCz {x:Operand}{i:Nat}(J:o.op=.extract x i):Snd P n o st ob (aC0 o n st ob x i):=by
 refine Snd.bind fun v q=>?_
 rw[cV] at q;split
 ·exact Snd.bind fun z O=>Snd.val fun _ hd I hc=>⟨hc,aMf J hd I q O⟩
 ·exact Snd.none
def aP4 (tr:Tr) (o:Oper) (n:Nat) (st:St) (ob:List Prop) (id:Nat) (t:TypeId):Ans:=(tr.get t).bind fun i=>(frc (i.zero.map R.c)).bind fun z=>match st.h id with
 | none=>val o n ⟨[],[id]⟩ (.one (.vp id 0)) [(id,some (.var t z))] ob
 | some _=>none
theorem aKc {id:Nat}{t:TypeId}(hw:tr.wf=true) (J:Tok P tr.flat) (O:o.op=.alloc t):Snd P n o st ob (aP4 tr o n st ob id t):=by
 refine Snd.bind fun i hi=>Snd.bind fun z q=>?_
 rw[lO] at q;cases q;split
 ·rename_i hid;exact Snd.val fun _ hd I hc=>⟨hc,aXd id J O hd I (Tr.get_ok hw hi) hid⟩
 ·exact Snd.none
def a4a (o:Oper) (n:Nat) (st:St) (ob:List Prop) (id:Nat) (t:TypeId) (x:Operand):Ans:=(opO st x).bind fun v=>(pD v).bind fun rs=>match st.h id with
 | none=>val o n ⟨opr x,[id]⟩ (.one (.vp id 0)) [(id,some (.var t rs))] ob
 | some _=>none
theorem aTt {id:Nat}{t:TypeId}{x:Operand}(O:o.op=.box t x):Snd P n o st ob (a4a o n st ob id t x):=by
 refine Snd.bind fun v I=>Snd.bind fun rs q=>?_
 rw[cV] at I;rw[jI] at q;split
 ·rename_i hid;exact Snd.val fun _ hd J hc=>⟨hc,a5p id O hd J I q hid⟩
 ·exact Snd.none
def aZg (tr:Tr) (o:Oper) (n:Nat) (st:St) (ob:List Prop) (id:Nat) (t:TypeId) (r:Option Operand):Ans:=match r with
 | some _=>none
 | none=>(tr.get t).bind fun i=>match i.k with
  | .mp _ e=>(tr.get e).bind fun ei=>match st.h id with
   | none=>val o n ⟨[],[id]⟩ (.one (.mr id)) [(id,some (.map ei.k.agg []))] ob
   | some _=>none
  | _=>none
theorem aTp {id:Nat}{t:TypeId}{r:Option Operand}(I:o.op=.makeMap t r):Snd P n o st ob (aZg tr o n st ob id t r):=by
 unfold aZg;split
 ·exact Snd.none
 ·refine Snd.bind fun i hi=>?_
  split
  ·refine Snd.bind fun ei J=>?_
   split
   ·rename_i hid;exact Snd.val fun _ hd q hc=>⟨hc,aA6 id _ I hd q hid⟩
   ·exact Snd.none
  ·exact Snd.none
def a09 (hn:Hn) (elems:List (List C)) (k:Nat) (ob:List Prop):Option (List C×List Prop):=match hn with
 | .row _ r=>some (r,(elems[k]?=some r)::ob)
 | _=>match elems[k]? with
  | some r=>some (r,ob)
  | none=>none
theorem aD6 {hn:Hn}{elems:List (List C)}{k:Nat}{ob q:List Prop}{r:List C}(h:a09 hn elems k ob=some (r,q)):j7 q→j7 ob∧elems[k]?=some r:=by
 unfold a09 at h;split at h
 ·cases h;exact fun h=>⟨h.2,h.1⟩
 ·split at h
  ·rename_i h1;cases h;exact fun h=>⟨h,h1⟩
  ·cases h
def aRs (hn:Hn) (elems:List (List R)) (k:Nat) (ob:List Prop):Option (List R×List Prop):=match hn with
 | .rr r=>some (r,(elems[k]?=some r)::ob)
 | _=>match elems[k]? with
  | some r=>some (r,ob)
  | none=>none
theorem aGu {hn:Hn}{elems:List (List R)}{k:Nat}{ob q:List Prop}{r:List R}(h:aRs hn elems k ob=some (r,q)):j7 q→j7 ob∧elems[k]?=some r:=by
 unfold aRs at h;split at h
 ·cases h;exact fun h=>⟨h.2,h.1⟩
 ·split at h
  ·rename_i h1;cases h;exact fun h=>⟨h,h1⟩
  ·cases h
def aWa (tr:Tr) (md:Bool) (o:Oper) (n:Nat) (st:St) (ob:List Prop) (hn:Hn) (t:TypeId) (x:Operand):Ans:=(tr.get t).bind fun i=>(opO st x).bind fun v=>match v with
 | .one (.vp id off)=>match st.h id with
  | some (.var _ cells)=>bif Nat.ble (off+i.size) cells.length then(tak i.size (cells.drop off)).bind fun rs=>(aJt i rs).bind fun y=>val o n ⟨opr x,[id]⟩ y [] ob else none
  | _=>none
 | .one (.c (.pt l))=>(tak i.size l).bind fun cs=>(aHu i cs).bind fun y=>val o n ⟨opr x,[]⟩ y [] ob
 | .one (.pas l)=>(tak i.size l).bind fun cs=>(aJt i cs).bind fun y=>val o n ⟨opr x,[]⟩ y [] ob
 | .one (.ep id k fo sz)=>match st.h id with
  | some (.arr _ es elems _)=>(jB md (sz=elems.length) ob).bind fun ob1=>(a09 hn elems k ob1).bind fun(r,ob2)=>
   bif Nat.ble (fo+i.size) es then(tak i.size (r.drop fo)).bind fun cs=>(aHu i cs).bind fun y=>val o n ⟨opr x,[id]⟩ y [] ob2 else none
  | _=>none
 | .one (.rp id k fo sz)=>match st.h id with
  | some (.rarr _ es elems)=>(jB md (sz=elems.length) ob).bind fun ob1=>(aRs hn elems k ob1).bind fun(r,ob2)=>
   bif Nat.ble (fo+i.size) es then(tak i.size (r.drop fo)).bind fun cs=>(aJt i cs).bind fun y=>val o n ⟨opr x,[id]⟩ y [] ob2 else none
  | _=>none
 | _=>none
theorem aPv {hn:Hn}{t:TypeId}{x:Operand}(hw:tr.wf=true) (W:Tok P tr.flat) (Y:o.op=.load t x):Snd P n o st ob (aWa tr md o n st ob hn t x):=by
 refine Snd.bind fun i hi=>Snd.bind fun v O=>?_
 rw[cV] at O
 replace hi:=Tr.get_ok hw hi
 split
 ·rename_i id off;split
  ·rename_i tv cells hh;refine Snd.cond fun hb=>Snd.bind fun rs Z=>Snd.bind fun y q=>Snd.val fun _ hd I hc=>⟨hc,?_⟩
   obtain⟨h1,h2⟩:=sO Z;rw[s4,←h2] at q;exact a1q W Y hd I hi O hh hb q
  ·exact Snd.none
 ·rename_i l;refine Snd.bind fun cs J=>Snd.bind fun y q=>Snd.val fun _ hd I hc=>⟨hc,?_⟩
  obtain⟨h1,h2⟩:=sO J;rw[aBs,←h2] at q;exact aMa W Y hd I hi O h1 q
 ·rename_i l;refine Snd.bind fun cs J=>Snd.bind fun y q=>Snd.val fun _ hd I hc=>⟨hc,?_⟩
  obtain⟨h1,h2⟩:=sO J;rw[s4,←h2] at q;exact aJd W Y hd I hi O h1 q
 ·rename_i id k fo sz;split
  ·rename_i te es elems fz hh;refine Snd.bind fun aa h1=>Snd.bind fun p h2=>?_
   obtain⟨r,ab⟩:=p;refine Snd.cond fun h3=>Snd.bind fun cs J=>Snd.bind fun y q=>Snd.val fun _ hd I hc=>?_
   obtain⟨g1,g2⟩:=aD6 h2 hc;obtain⟨g3,g4⟩:=bA h1 g1;obtain⟨h4,h5⟩:=sO J;rw[aBs,←h5] at q;exact⟨g3,aMb W Y hd I hi O hh g4 g2 (Aq h3) q⟩
  ·exact Snd.none
 ·rename_i id k fo sz;split
  ·rename_i te es elems hh;refine Snd.bind fun aa h1=>Snd.bind fun p h2=>?_
   obtain⟨r,ab⟩:=p;refine Snd.cond fun h3=>Snd.bind fun cs J=>Snd.bind fun y q=>Snd.val fun _ hd I hc=>?_
   obtain⟨g1,g2⟩:=aGu h2 hc;obtain⟨g3,g4⟩:=bA h1 g1;obtain⟨h4,h5⟩:=sO J;rw[s4,←h5] at q;exact⟨g3,aL9 W Y hd I hi O hh g4 g2 (Aq h3) q⟩
  ·exact Snd.none
 ·exact Snd.none
def aZ0 {α:Type}(l:List α) (off:Nat) (new:List α):Option (List α):=frc (bX l off new)
def aPp (tr:Tr) (md:Bool) (o:Oper) (st:St) (ob:List Prop) (hn:Hn) (t:TypeId) (x y:Operand):Ans:=(tr.get t).bind fun i=>(opO st x).bind fun v=>(opO st y).bind fun u=>(pD u).bind fun rs=>bif Nat.beq rs.length i.size then(match v with
 | .one (.vp id off)=>match st.h id with
  | some (.var tv cells)=>bif Nat.ble (off+i.size) cells.length then(aZ0 cells off rs).bind fun cs=>eff o ⟨opr x++opr y,[id]⟩ [(id,some (.var tv cs))] ob else none
  | _=>none
 | .one (.ep id k fo sz)=>match st.h id with
  | some (.arr te es elems 0)=>(jL rs).bind fun cs=>(jB md (sz=elems.length) ob).bind fun ob1=>(a09 hn elems k ob1).bind fun(r,ob2)=>
   bif Nat.ble (fo+i.size) es then(aZ0 r fo cs).bind fun r'=>eff o ⟨opr x++opr y,[id]⟩ [(id,some (.arr te es (elems.set k r') 0))] ob2 else none
  | _=>none
 | .one (.rp id k fo sz)=>match st.h id with
  | some (.rarr te es elems)=>(jB md (sz=elems.length) ob).bind fun ob1=>(aRs hn elems k ob1).bind fun(r,ob2)=>
   bif Nat.ble (fo+i.size) es then(aZ0 r fo rs).bind fun r'=>eff o ⟨opr x++opr y,[id]⟩ [(id,some (.rarr te es (elems.set k r')))] ob2 else none
  | _=>none
 | _=>none) else none
theorem aJ6 {hn:Hn}{t:TypeId}{x y:Operand}(hw:tr.wf=true) (Y:Tok P tr.flat) (Z:o.op=.store t x y):Snd P n o st ob (aPp tr md o st ob hn t x y):=by
 refine Snd.bind fun i hi=>Snd.bind fun v W=>Snd.bind fun u hu=>Snd.bind fun rs J=>Snd.cond fun hl=>?_
 rw[cV] at W hu;rw[jI] at J
 replace hi:=Tr.get_ok hw hi
 have O:=Ac hl;split
 ·rename_i id off;split
  ·rename_i tv cells hh;refine Snd.cond fun hb=>Snd.bind fun cs I=>Snd.eff fun hd hc=>⟨hc,?_⟩
   unfold aZ0 at I;rw[lO] at I;cases I;exact aW5 Y Z hd hi W hu J hh O hb
  ·exact Snd.none
 ·rename_i id k fo sz;split
  ·rename_i te es elems hh;refine Snd.bind fun cs I=>Snd.bind fun aa h1=>Snd.bind fun p h2=>?_
   obtain⟨r,ab⟩:=p;refine Snd.cond fun h3=>Snd.bind fun r' q=>Snd.eff fun hd hc=>?_
   obtain⟨g1,g2⟩:=aD6 h2 hc;obtain⟨g3,g4⟩:=bA h1 g1;unfold aZ0 at q;rw[lO] at q;cases q;refine⟨g3,aI9 Y Z hd hi W hu J I hh g4 g2 ?_ (Aq h3)⟩;have:=oN I;rw[this] at O;simpa using O
  ·exact Snd.none
 ·rename_i id k fo sz;split
  ·rename_i te es elems hh;refine Snd.bind fun aa h1=>Snd.bind fun p h2=>?_
   obtain⟨r,ab⟩:=p;refine Snd.cond fun h3=>Snd.bind fun r' q=>Snd.eff fun hd hc=>?_
   obtain⟨g1,g2⟩:=aGu h2 hc;obtain⟨g3,g4⟩:=bA h1 g1;unfold aZ0 at q;rw[lO] at q;cases q;exact⟨g3,aI8 Y Z hd hi W hu J hh g4 g2 O (Aq h3)⟩
  ·exact Snd.none
 ·exact Snd.none
def uL (tr:Tr) (md:Bool) (o:Oper) (n:Nat) (st:St) (ob:List Prop) (t:TypeId) (x:Operand) (f:Nat):Ans:=(tr.get t).bind fun i=>match i.k with
 | .st fs=>(fs[f]?).bind fun(foff,ft)=>(tr.get ft).bind fun fi=>bif Nat.ble 1 fi.size then((opO st x).bind fun v=>match v with
  | .one (.vp id off)=>val o n ⟨opr x,[]⟩ (.one (.vp id (off+foff))) [] ob
  | .one (.c (.pt l))=>val o n ⟨opr x,[]⟩ (.one (.c (.pt (l.drop foff)))) [] ob
  | .one (.pas l)=>val o n ⟨opr x,[]⟩ (.one (.pas (l.drop foff))) [] ob
  | .one (.ep id k fo sz)=>match st.h id with
   | some (.arr _ _ elems _)=>(jB md (sz=elems.length) ob).bind fun ob1=>val o n ⟨opr x,[id]⟩ (.one (.ep id k (fo+foff) sz)) [] ob1
   | _=>none
  | .one (.rp id k fo sz)=>match st.h id with
   | some (.rarr _ _ elems)=>(jB md (sz=elems.length) ob).bind fun ob1=>val o n ⟨opr x,[id]⟩ (.one (.rp id k (fo+foff) sz)) [] ob1
   | _=>none
  | _=>none) else none
 | _=>none
theorem vD {t:TypeId}{x:Operand}{f:Nat}(hw:tr.wf=true) (W:Tok P tr.flat) (Y:o.op=.fieldAddr t x f):Snd P n o st ob (uL tr md o n st ob t x f):=by
 refine Snd.bind fun i hi=>?_
 replace hi:=Tr.get_ok hw hi
 split
 ·rename_i fs hk;refine Snd.bind fun p hf=>?_
  obtain⟨aa,ft⟩:=p;refine Snd.bind fun fi I=>Snd.cond fun hz=>Snd.bind fun v O=>?_
  replace I:=Tr.get_ok hw I
  have J:fi.size≠0:=by have:=Aq hz;omega
  rw[cV] at O;split
  ·exact Snd.val fun _ hd q hc=>⟨hc,aJf W Y hd q hi hk hf I J O⟩
  ·exact Snd.val fun _ hd q hc=>⟨hc,aJh W Y hd q hi hk hf I J O⟩
  ·exact Snd.val fun _ hd q hc=>⟨hc,aEb W Y hd q hi hk hf I J O⟩
  ·split
   ·rename_i hh;exact Snd.bind fun Z h1=>Snd.val fun _ hd q hc=>⟨(bA h1 hc).1,aJi W Y hd q hi hk hf I J O hh (bA h1 hc).2⟩
   ·exact Snd.none
  ·split
   ·rename_i hh;exact Snd.bind fun Z h1=>Snd.val fun _ hd q hc=>⟨(bA h1 hc).1,aJg W Y hd q hi hk hf I J O hh (bA h1 hc).2⟩
   ·exact Snd.none
  ·exact Snd.none
 ·exact Snd.none
def aPz (tr:Tr) (o:Oper) (n:Nat) (st:St) (ob:List Prop) (t:TypeId) (x:Operand) (f:Nat):Ans:=(tr.get t).bind fun i=>match i.k with
 | .st fs=>(fs[f]?).bind fun(foff,ft)=>(tr.get ft).bind fun fi=>(opO st x).bind fun v=>(pD v).bind fun rs=>
  bif (match v with | .pa _=>true | .ma _=>true | _=>false) then bif Nat.ble (foff+fi.size) rs.length then(tak fi.size (rs.drop foff)).bind fun l=>(aJt fi l).bind fun y=>val o n ⟨opr x,[]⟩ y [] ob else none else none
 | _=>none
theorem aKa {t:TypeId}{x:Operand}{f:Nat}(hw:tr.wf=true) (hT:Tok P tr.flat) (ho:o.op=.field t x f):Snd P n o st ob (aPz tr o n st ob t x f):=by
 refine Snd.bind fun i hi=>?_
 replace hi:=Tr.get_ok hw hi
 split
 ·rename_i fs hk;refine Snd.bind fun p hf=>?_
  obtain⟨foff,ft⟩:=p;refine Snd.bind fun fi q=>Snd.bind fun v J=>Snd.bind fun rs I=>Snd.cond fun O=>Snd.cond fun hl=>Snd.bind fun l W=>Snd.bind fun y Y=>?_
  replace q:=Tr.get_ok hw q
  rw[cV] at J;rw[jI] at I;rw[s4,←(sO W).2] at Y;exact Snd.val fun _ hd Z hc=>⟨hc,aW8 hT ho hd Z hi hk hf q J (by cases v<;>first | rfl | exact O) I hl Y⟩
 ·exact Snd.none
def atO (hn:Hn) (m:Int) (ob:List Prop):Option (Nat×List Prop):=match hn with
 | .row k _=>some (k,(m=(k:Int))::ob)
 | .rowR k _=>some (k,(m=(k:Int))::ob)
 | _=>match m with
  | .ofNat k=>some (k,ob)
  | .negSucc _=>none
theorem x5 {hn:Hn}{m:Int}{k:Nat}{ob q:List Prop}(h:atO hn m ob=some (k,q)):j7 q→j7 ob∧m=(k:Int):=by
 unfold atO at h;split at h
 ·cases h;exact fun h=>⟨h.2,h.1⟩
 ·cases h;exact fun h=>⟨h.2,h.1⟩
 ·split at h
  ·cases h;exact fun h=>⟨h,rfl⟩
  ·cases h
def a41 (a b:Nat):Option Nat:=match a with
 | 0=>some b
 | a+1=>some (a+1+b)
theorem aQe {a b c:Nat}(h:a41 a b=some c):a+b=c:=by
 unfold a41 at h;split at h<;>cases h
 ·exact Ba _
 ·rfl
def uK (tr:Tr) (md:Bool) (o:Oper) (n:Nat) (st:St) (ob:List Prop) (hn:Hn) (t:TypeId) (x y:Operand):Ans:=(tr.get t).bind fun i=>match i.k with
 | .sl e=>(tr.get e).bind fun ei=>(opO st x).bind fun v=>(opO st y).bind fun u=>match u with
  | .one (.c (.int _ m))=>(atO hn m ob).bind fun(k,ob1)=>match v with
   | .one (.c (.sl es l))=>bif Nat.beq ei.size es then(a09 hn l k ob1).bind fun(r,ob2)=>val o n ⟨opr x++opr y,[]⟩ (.one (.c (.pt r))) [] ob2 else none
   | .one (.hs id off len sz)=>match st.h id with
    | some (.arr _ es elems _)=>bif Nat.beq ei.size es then(jB md (sz=elems.length) ob1).bind fun ob2=>(jB md (k<len) ob2).bind fun ob3=>(a41 off k).bind fun j=>val o n ⟨opr x++opr y,[id]⟩ (.one (.ep id j 0 sz)) [] ob3 else none
    | _=>none
   | .one (.ra id off len sz)=>match st.h id with
    | some (.rarr _ es elems)=>bif Nat.beq ei.size es then(jB md (sz=elems.length) ob1).bind fun ob2=>(jB md (k<len) ob2).bind fun ob3=>(a41 off k).bind fun j=>val o n ⟨opr x++opr y,[id]⟩ (.one (.rp id j 0 sz)) [] ob3 else none
    | _=>none
   | .one (.ras n' es l)=>bif Nat.beq ei.size es then(jB md (k<n') ob1).bind fun ob2=>match hn with
    | .rowR _ r=>val o n ⟨opr x++opr y,[]⟩ (.one (.pas r)) [] (((l.drop (k*es)).take es=r)::ob2)
    | _=>(frc ((l.drop (k*es)).take es)).bind fun r=>val o n ⟨opr x++opr y,[]⟩ (.one (.pas r)) [] ob2 else none
   | _=>none
  | _=>none
 | .ar m' e=>(tr.get e).bind fun ei=>(opO st x).bind fun v=>(opO st y).bind fun u=>match u with
  | .one (.c (.int _ m))=>(atO hn m ob).bind fun(k,ob1)=>match v with
   | .one (.vp id off)=>(jB md (k<m') ob1).bind fun ob2=>val o n ⟨opr x++opr y,[]⟩ (.one (.vp id (off+k*ei.size))) [] ob2
   | _=>none
  | _=>none
 | _=>none
theorem vB {hn:Hn}{t:TypeId}{x y:Operand}(hw:tr.wf=true) (Z:Tok P tr.flat) (ho:o.op=.indexAddr t x y):Snd P n o st ob (uK tr md o n st ob hn t x y):=by
 refine Snd.bind fun i hi=>?_
 replace hi:=Tr.get_ok hw hi
 split
 ·rename_i e hk;refine Snd.bind fun ei q=>Snd.bind fun v O=>Snd.bind fun u hu=>?_
  replace q:=Tr.get_ok hw q
  rw[cV] at O hu;split
  ·rename_i kk m;refine Snd.bind fun p hp=>?_
   obtain⟨k,ob1⟩:=p;dsimp only;split
   ·rename_i es l;refine Snd.cond fun J=>Snd.bind fun p h2=>?_
    obtain⟨r,Y⟩:=p;refine Snd.val fun _ hd I hc=>?_
    obtain⟨g1,g2⟩:=aD6 h2 hc;obtain⟨g3,g4⟩:=x5 hp g1;exact⟨g3,aW7 Z ho hd I hi hk q (Ac J) O hu g4 g2⟩
   ·rename_i id off len sz;split
    ·rename_i te es elems fz hh;refine Snd.cond fun J=>Snd.bind fun Y h2=>Snd.bind fun ob3 h3=>Snd.bind fun j W=>Snd.val fun _ hd I hc=>?_
     have W:=aQe W;subst W;obtain⟨g1,g2⟩:=bA h3 hc;obtain⟨g3,g4⟩:=bA h2 g1;obtain⟨g5,g6⟩:=x5 hp g3;exact⟨g5,w7 Z ho hd I hi hk q (Ac J) O hh g4 hu g6 g2⟩
    ·exact Snd.none
   ·rename_i id off len sz;split
    ·rename_i te es elems hh;refine Snd.cond fun J=>Snd.bind fun Y h2=>Snd.bind fun ob3 h3=>Snd.bind fun j W=>Snd.val fun _ hd I hc=>?_
     have W:=aQe W;subst W;obtain⟨g1,g2⟩:=bA h3 hc;obtain⟨g3,g4⟩:=bA h2 g1;obtain⟨g5,g6⟩:=x5 hp g3;exact⟨g5,aJe Z ho hd I hi hk q (Ac J) O hh g4 hu g6 g2⟩
    ·exact Snd.none
   ·rename_i n' es l;refine Snd.cond fun J=>Snd.bind fun Y h2=>?_
    have J:=Ac J;split
    ·refine Snd.val fun _ hd I hc=>?_
     obtain⟨c1,c2⟩:=hc;obtain⟨g1,g2⟩:=bA h2 c2;obtain⟨g3,g4⟩:=x5 hp g1;exact⟨g3,tD Z ho hd I hi hk q J O hu g4 g2 c1⟩
    ·refine Snd.bind fun r hr=>Snd.val fun _ hd I hc=>?_
     rw[lO] at hr;cases hr;obtain⟨g1,g2⟩:=bA h2 hc;obtain⟨g3,g4⟩:=x5 hp g1;exact⟨g3,tD Z ho hd I hi hk q J O hu g4 g2 rfl⟩
   ·exact Snd.none
  ·exact Snd.none
 ·rename_i m' e hk;refine Snd.bind fun ei q=>Snd.bind fun v O=>Snd.bind fun u hu=>?_
  replace q:=Tr.get_ok hw q
  rw[cV] at O hu;split
  ·rename_i kk m;refine Snd.bind fun p hp=>?_
   obtain⟨k,ob1⟩:=p;dsimp only;split
   ·rename_i id off;refine Snd.bind fun Y h2=>Snd.val fun _ hd I hc=>?_
    obtain⟨g1,g2⟩:=bA h2 hc;obtain⟨g3,g4⟩:=x5 hp g1;exact⟨g3,aEa Z ho hd I hi hk q O hu g4 g2⟩
   ·exact Snd.none
  ·exact Snd.none
 ·exact Snd.none
def a38 (md:Bool) (o:Oper) (n:Nat) (st:St) (ob:List Prop) (x:Operand):Ans:=(opO st x).bind fun v=>match v with
 | .one (.ep id k fo sz)=>match st.h id with
  | some (.arr _ _ elems _)=>(jB md (sz=elems.length) ob).bind fun ob1=>val o n ⟨opr x,[id]⟩ (.one (.ep id k fo sz)) [] ob1
  | _=>none
 | .one (.rp id k fo sz)=>match st.h id with
  | some (.rarr _ _ elems)=>(jB md (sz=elems.length) ob).bind fun ob1=>val o n ⟨opr x,[id]⟩ (.one (.rp id k fo sz)) [] ob1
  | _=>none
 | v=>bif notNil v then val o n ⟨opr x,[]⟩ v [] ob else none
theorem aTo {x:Operand}(J:o.op=.nilCheck x):Snd P n o st ob (a38 md o n st ob x):=by
 refine Snd.bind fun v I=>?_
 rw[cV] at I;split
 ·split
  ·rename_i hh;exact Snd.bind fun O h1=>Snd.val fun _ hd q hc=>⟨(bA h1 hc).1,xW J hd q I hh (bA h1 hc).2⟩
  ·exact Snd.none
 ·split
  ·rename_i hh;exact Snd.bind fun O h1=>Snd.val fun _ hd q hc=>⟨(bA h1 hc).1,xV J hd q I hh (bA h1 hc).2⟩
  ·exact Snd.none
 ·exact Snd.cond fun h=>Snd.val fun _ hd q hc=>⟨hc,aJa J hd q I h⟩
def tK (tr:Tr):List (Nat×TypeId)→Option (List (Nat×Nat))
 | []=>some []
 | (off,t)::fs=>(tr.get t).bind fun i=>(tK tr fs).bind fun l=>some ((off,i.size)::l)
theorem wB {tr:Tr}(hw:tr.wf=true):∀{fs:List (Nat×TypeId)}{l:List (Nat×Nat)},tK tr fs=some l→mC tr.flat fs=some l
 | [],l,h=>by simpa [tK,mC] using h
 | (off,t)::fs,l,h=>by
  simp only[tK,Aj] at h;obtain⟨i,hi,l',q,h⟩:=h;simp only[mC,Tr.get_ok hw hi,wB hw q,h]
def aHa (st:St):List (Nat×Operand)→Option (List (Nat×List R))
 | []=>some []
 | (i,x)::ps=>(opO st x).bind fun v=>(pD v).bind fun rs=>(aHa st ps).bind fun l=>some ((i,rs)::l)
theorem aBh (st:St):∀ps:List (Nat×Operand),aHa st ps=qV st ps
 | []=>rfl
 | (i,x)::ps=>by
  simp only[aHa,qV,cV,jI,aBh st ps];cases opv st x with
  | none=>rfl
  | some v=>
   simp only[Cq];cases iV v with
   | none=>rfl
   | some rs=>
    simp only[Cq];cases qV st ps<;>rfl
def aS4 (st:St):List Operand→Option (List R)
 | []=>some []
 | x::xs=>(opO st x).bind fun v=>match v with
  | .one r=>(aS4 st xs).bind fun l=>some (r::l)
  | _=>none
theorem aIg (st:St):∀xs:List Operand,aS4 st xs=aCe st xs
 | []=>rfl
 | x::xs=>by
  simp only[aS4,aCe,cV,aIg st xs];cases opv st x with
  | none=>rfl
  | some v=>
   simp only[Cq];cases v<;>try rfl
   cases aCe st xs<;>rfl
def aP3 (tr:Tr) (o:Oper) (n:Nat) (st:St) (ob:List Prop) (t:TypeId) (parts:Array (Nat×Operand)):Ans:=(tr.get t).bind fun i=>match i.k with
 | .st fs=>(tK tr fs).bind fun places=>(aHa st parts.toList).bind fun ps=>(aJy places (i.zero.map R.c) ps).bind fun out=>(frc out).bind fun out=>(a4z out).bind fun y=>val o n ⟨iB parts.toList,[]⟩ y [] ob
 | _=>none
theorem aKb {t:TypeId}{parts:Array (Nat×Operand)}(hw:tr.wf=true) (Y:Tok P tr.flat) (Z:o.op=.build t parts):Snd P n o st ob (aP3 tr o n st ob t parts):=by
 refine Snd.bind fun i hi=>?_
 replace hi:=Tr.get_ok hw hi
 split
 ·rename_i fs hk;refine Snd.bind fun places q=>Snd.bind fun ps I=>Snd.bind fun out hf=>Snd.bind fun aa J=>Snd.bind fun y O=>Snd.val fun _ hd W hc=>⟨hc,?_⟩
  replace q:=wB hw q
  rw[aBh] at I;rw[lO] at J;cases J;rw[aQd] at O;cases O;exact aXc Y Z hd W hi hk q I hf
 ·exact Snd.none
def pE (tr:Tr):Nat→List TypeId→List Nat
 | 0,_=>[]
 | _+1,[]=>[]
 | f+1,t::ts=>match tr.get t with
  | some i=>match i.k with
   | .sl e=>match tr.get e with
    | some ei=>(ei.size+1)::pE tr f ts
    | none=>0::pE tr f ts
   | .st fs=>pE tr f (fs.map (·.2)++ts)
   | _=>0::pE tr f ts
  | none=>0::pE tr f ts
def nrm:List Nat→List C→List C
 | _,[]=>[]
 | [],cs=>cs
 | 0::es,c::cs=>c::nrm es cs
 | (e+1)::es,c::cs=>(match c with | .nl=>.sl e [] | c=>c)::nrm es cs
theorem n8 {h:cK}:∀(es:List Nat) (cs:List C),PureL h [] (cs.map R.c) (nrm es cs)
 | es,[]=>by cases es<;>exact .nil
 | [],c::cs=>.of_pure
 | 0::es,c::cs=>.c .refl (n8 es cs)
 | (e+1)::es,c::cs=>by
  simp only[nrm,Al];split
  ·exact .c .nl (n8 es cs)
  ·exact .c .refl (n8 es cs)
def aKj:List Nat→List C→Option (List C)
 | _,[]=>some []
 | [],cs=>frc cs
 | 0::es,c::cs=>(aKj es cs).bind fun l=>some (c::l)
 | (e+1)::es,c::cs=>match c with
  | .nl=>(aKj es cs).bind fun l=>some (.sl e []::l)
  | c=>(aKj es cs).bind fun l=>some (c::l)
theorem tS:∀(es:List Nat) (cs:List C),aKj es cs=some (nrm es cs)
 | es,[]=>by cases es with
  | nil=>simp[aKj,nrm]
  | cons e es=>cases e<;>simp[aKj,nrm]
 | [],c::cs=>by simp[aKj,nrm,lO]
 | 0::es,c::cs=>by simp[aKj,nrm,tS es cs]
 | (e+1)::es,c::cs=>by
  simp only[aKj,nrm,tS es cs,Cq];split<;>rfl
def aLy (st:St) (tys:List Nat) (es:Nat):Nat→List (Nat×Operand)→Option (List (List C))
 | _,[]=>some []
 | k,(i,x)::ps=>bif Nat.beq i k then(opO st x).bind fun v=>(pD v).bind fun rs=>(jL rs).bind fun cs=>bif Nat.beq rs.length es then(aKj tys cs).bind fun cs=>(aLy st tys es (k+1) ps).bind fun l=>some (cs::l) else none else none
theorem aGt {st:St}{tys:List Nat}{es:Nat}:∀{ps:List (Nat×Operand)}{k:Nat}{l:List (List C)},aLy st tys es k ps=some l→RowsV st es k [] ps l
 | [],k,l,h=>by simp[aLy] at h;subst h;exact .nil
 | (i,x)::ps,k,l,h=>by
  simp only[aLy] at h;obtain⟨h0,h⟩:=eY h;have:=Ac h0;subst this;rw[Aj] at h;obtain⟨v,J,h⟩:=h;rw[Aj] at h;obtain⟨rs,I,h⟩:=h;rw[Aj] at h;obtain⟨cs,O,h⟩:=h;obtain⟨hl,h⟩:=eY h;rw[Aj] at h;obtain⟨Y,q,h⟩:=h;rw[tS] at q;cases q;rw[Aj] at h;obtain⟨l',W,h⟩:=h;cases h;rw[cV] at J;rw[jI] at I;have hp:PureL st.h [] rs (nrm tys cs):=by rw[oN O];exact n8 tys cs
  exact .cons (ids:=[]) J I hp hl (aGt W)
def aPq (tr:Tr) (o:Oper) (n:Nat) (st:St) (ob:List Prop) (hn:Hn) (id:Nat) (t:TypeId) (len:Nat) (parts:Array (Nat×Operand)):Ans:=(tr.get t).bind fun i=>match i.k with
 | .sl e=>(tr.get e).bind fun ei=>bif Nat.beq len parts.size&&(Nat.ble (len*ei.size) 16777216&&Nat.ble len 16777216) then(match st.h id with
  | none=>match aLy st (pE tr 300 [e]) ei.size 0 parts.toList with
   | some rows=>match hn with
    | .all=>val o n ⟨iB parts.toList,[id]⟩ (.one (.c (.sl ei.size rows))) [(id,some (.arr e ei.size rows 2))] ob
    | _=>val o n ⟨iB parts.toList,[id]⟩ (.one (.hs id 0 len len)) [(id,some (.arr e ei.size rows 0))] ob
   | none=>(xT st ei.size 0 parts.toList).bind fun rows=>val o n ⟨iB parts.toList,[id]⟩ (.one (.ra id 0 len len)) [(id,some (.rarr e ei.size rows))] ob
  | some _=>none) else none
 | _=>none
theorem aJ7 {hn:Hn}{id:Nat}{t:TypeId}{len:Nat}{parts:Array (Nat×Operand)}(hw:tr.wf=true) (W:Tok P tr.flat) (Y:o.op=.buildSlice t len parts):Snd P n o st ob (aPq tr o n st ob hn id t len parts):=by
 refine Snd.bind fun i hi=>?_
 replace hi:=Tr.get_ok hw hi
 split
 ·rename_i e hk;refine Snd.bind fun ei q=>Snd.cond fun hb=>?_
  replace q:=Tr.get_ok hw q
  simp only[ε] at hb;split
  ·rename_i hid;split
   ·rename_i rows J;have O:=aGt J;split
    ·exact Snd.val fun _ hd I hc=>⟨hc,aRx id W Y hd I hi hk q O hb.1 hb.2.1 hb.2.2 hid⟩
    ·exact Snd.val fun _ hd I hc=>⟨hc,aL8 id W Y hd I hi hk q O hb.1 hb.2.1 hb.2.2 hid⟩
   ·exact Snd.bind fun rows O=>Snd.val fun _ hd I hc=>⟨hc,aRw id W Y hd I hi hk q O hb.1 hb.2.1 hb.2.2 hid⟩
  ·exact Snd.none
 ·exact Snd.none
def aPy (o:Oper) (n:Nat) (st:St) (ob:List Prop) (f:Fn) (first caps:Array Operand):Ans:=match f with
 | .func f=>match first.toList with
  | []=>(aS4 st caps.toList).bind fun l=>val o n ⟨dD caps.toList,[]⟩ (.one (.clo f l)) [] ob
  | [x]=>match caps.toList with
   | []=>(opO st x).bind fun v=>match v with
    | .one c=>val o n ⟨opr x,[]⟩ (.one (.mth f c)) [] ob
    | _=>none
   | _=>none
  | _=>none
 | _=>none
theorem toList_nil {α:Type}{a:Array α}(h:a.toList=[]):a= #[]:=by
 cases a;simp at h;simp[h]
theorem aI4 {α:Type}{a:Array α}{x:α}(h:a.toList=[x]):a= #[x]:=by
 cases a;simp at h;simp[h]
theorem aPx {f:Fn}{first caps:Array Operand}(I:o.op=.makeFunc f first caps):Snd P n o st ob (aPy o n st ob f first caps):=by
 unfold aPy;split
 ·rename_i f;split
  ·rename_i h1;have:=toList_nil h1;subst this;refine Snd.bind fun l hl=>Snd.val fun _ hd q hc=>⟨hc,aJc I hd q (by rw[←aIg];exact hl)⟩
  ·rename_i x h1;have:=aI4 h1;subst this;split
   ·rename_i h2;have:=toList_nil h2;subst this;refine Snd.bind fun v J=>?_
    split
    ·exact Snd.val fun _ hd q hc=>⟨hc,aA5 I hd q (by rw[←cV];exact J)⟩
    ·exact Snd.none
   ·exact Snd.none
  ·exact Snd.none
 ·exact Snd.none
def aZ3 (st:St) (m:Nat):Option Operand→Option Nat
 | none=>some m
 | some x=>(opO st x).bind fun v=>match v with
  | .one (.c (.int _ (.ofNat k)))=>some k
  | _=>none
theorem mU {m k:Nat}{x:Option Operand}(h:aZ3 st m x=some k):BndV st x m k:=by
 cases x with
 | none=>cases h;exact .no
 | some x=>
  simp only[aZ3,Aj,cV] at h;obtain⟨v,q,h⟩:=h;split at h
  ·cases h;exact .yes q
  ·cases h
def a4w {α:Type}(l:List α) (lo hi:Nat) (low high:Option Operand):Option (List α):=match low,high with
 | none,none=>some l
 | none,some _=>some (l.take hi)
 | some _,none=>some (l.drop lo)
 | some _,some _=>some ((l.take hi).drop lo)
theorem aO5 {α:Type}{l r:List α}{lo hi:Nat}{low high:Option Operand}(h1:BndV st low 0 lo) (h2:BndV st high l.length hi) (h:a4w l lo hi low high=some r):r=(l.take hi).drop lo:=by
 cases h1<;>cases h2<;>simp[a4w] at h<;>simp[h]
def aZi (tr:Tr) (md:Bool) (o:Oper) (n:Nat) (st:St) (ob:List Prop) (t:TypeId) (x:Operand) (low high mx:Option Operand):Ans:=match mx with
 | some _=>none
 | none=>(tr.get t).bind fun i=>(opO st x).bind fun v=>match i.k with
  | .sl e=>(tr.get e).bind fun ei=>match v with
   | .one (.c (.sl es l))=>bif Nat.beq ei.size es then(aZ3 st 0 low).bind fun lo=>(aZ3 st l.length high).bind fun hi=>(jB md (lo≤hi) ob).bind fun ob1=>(jB md (hi≤l.length) ob1).bind fun ob2=>
     (a4w l lo hi low high).bind fun r=>val o n ⟨opr x++aTm low++aTm high,[]⟩ (.one (.c (.sl es r))) [] ob2 else none
   | _=>none
  | .str=>match v with
   | .one (.c (.str s))=>(aZ3 st 0 low).bind fun lo=>(aZ3 st s.length high).bind fun hi=>(jB md (lo≤hi) ob).bind fun ob1=>(jB md (hi≤s.length) ob1).bind fun ob2=>
     (a4w s lo hi low high).bind fun r=>val o n ⟨opr x++aTm low++aTm high,[]⟩ (.one (.c (.str r))) [] ob2
   | _=>none
  | _=>none
theorem aTs {t:TypeId}{x:Operand}{low high mx:Option Operand}(hw:tr.wf=true) (hT:Tok P tr.flat) (ho:o.op=.slice t x low high mx):Snd P n o st ob (aZi tr md o n st ob t x low high mx):=by
 unfold aZi;split
 ·exact Snd.none
 ·refine Snd.bind fun i J=>Snd.bind fun v Y=>?_
  replace J:=Tr.get_ok hw J
  rw[cV] at Y;split
  ·rename_i e hk;refine Snd.bind fun ei O=>?_
   replace O:=Tr.get_ok hw O
   split
   ·rename_i es l;refine Snd.cond fun hes=>Snd.bind fun lo q=>Snd.bind fun hi I=>Snd.bind fun ob1 h1=>Snd.bind fun ob2 h2=>Snd.bind fun r Z=>Snd.val fun _ hd W hc=>?_
    obtain⟨g1,g2⟩:=bA h2 hc;obtain⟨g3,g4⟩:=bA h1 g1;rw[aO5 (mU q) (mU I) Z];exact⟨g3,a5o hT ho hd W J hk O (Ac hes) Y (mU q) (mU I) g4 g2⟩
   ·exact Snd.none
  ·rename_i hk;split
   ·rename_i s;refine Snd.bind fun lo q=>Snd.bind fun hi I=>Snd.bind fun ob1 h1=>Snd.bind fun ob2 h2=>Snd.bind fun r Z=>Snd.val fun _ hd W hc=>?_
    obtain⟨g1,g2⟩:=bA h2 hc;obtain⟨g3,g4⟩:=bA h1 g1;rw[aO5 (mU q) (mU I) Z];exact⟨g3,a1f hT ho hd W J hk Y (mU q) (mU I) g4 g2⟩
   ·exact Snd.none
  ·exact Snd.none
def aPw (tr:Tr) (o:Oper) (n:Nat) (st:St) (ob:List Prop) (hn:Hn) (t:TypeId) (x y:Operand):Ans:=(tr.get t).bind fun i=>match i.k with
 | .str=>(opO st x).bind fun v=>(opO st y).bind fun u=>match v,u with
  | .one (.c (.str s)),.one (.c (.int _ m))=>match hn with
   | .byte k b=>val o n ⟨opr x++opr y,[]⟩ (.one (.c (.int .u8 ((b.toNat:Nat):Int)))) [] ((m=(k:Int)∧s[k]?=some b)::ob)
   | _=>match m with
    | .ofNat k=>(s[k]?).bind fun b=>val o n ⟨opr x++opr y,[]⟩ (.one (.c (.int .u8 ((b.toNat:Nat):Int)))) [] ob
    | _=>none
  | _,_=>none
 | _=>none
theorem aJ8 {hn:Hn}{t:TypeId}{x y:Operand}(hw:tr.wf=true) (J:Tok P tr.flat) (O:o.op=.index t x y):Snd P n o st ob (aPw tr o n st ob hn t x y):=by
 refine Snd.bind fun i hi=>?_
 replace hi:=Tr.get_ok hw hi
 split
 ·rename_i hk;refine Snd.bind fun v I=>Snd.bind fun u hu=>?_
  rw[cV] at I hu;split
  ·split
   ·exact Snd.val fun _ hd q hc=>⟨hc.2,aUr J O hd q hi hk I hu hc.1.1 hc.1.2⟩
   ·split
    ·exact Snd.bind fun b hb=>Snd.val fun _ hd q hc=>⟨hc,aUr J O hd q hi hk I hu rfl hb⟩
    ·exact Snd.none
  ·exact Snd.none
 ·exact Snd.none
def aNn:List (List C)→Bool
 | []=>true
 | (.str _::_)::r=>aNn r
 | _::_=>false
theorem aBk:∀l:List (List C),aNn l=true↔iA l
 | []=>by simp[aNn,iA]
 | []::r=>by simp[aNn,iA]
 | (c::vs)::r=>by
  cases c<;>simp[aNn,iA];exact aBk r
instance (l:List (List C)):Decidable (iA l):=decidable_of_iff _ (aBk l)
def aS1 (st:St) (agg:Bool):V→Option (List Nat×List (List C))
 | .one (.mr id)=>match st.h id with
  | some (.map a ents)=>bif a==agg then some ([id],ents) else none
  | _=>none
 | .one (.c (.mp a ents))=>bif a==agg then some ([],ents) else none
 | .one (.c (.zv 0))=>some ([],[])
 | _=>none
theorem zA {st:St}{agg:Bool}{v:V}{ids:List Nat}{ents:List (List C)}(h:aS1 st agg v=some (ids,ents)):MapE st ids v agg ents:=by
 unfold aS1 at h;split at h
 ·split at h
  ·rename_i hh;obtain⟨h1,h2⟩:=eY h;cases h2;exact .mr (by rw[hh,eq_of_beq h1])
  ·cases h
 ·obtain⟨h1,h2⟩:=eY h;cases h2;rw[eq_of_beq h1];exact .mp
 ·cases h;exact .nil
 ·cases h
def aYc (md:Bool) (hn:Hn) (k:List UInt8) (ents:List (List C)) (ob:List Prop):Option (Option (List C)×List Prop):=match hn with
 | .look r=>some (r,(fJ k ents=r)::ob)
 | _=>bif md then some (fJ k ents,ob) else match fJ k ents with
  | some r=>some (some r,ob)
  | none=>some (none,ob)
theorem aH6 {md:Bool}{hn:Hn}{k:List UInt8}{ents:List (List C)}{ob q:List Prop}{r:Option (List C)}(h:aYc md hn k ents ob=some (r,q)):j7 q→j7 ob∧fJ k ents=r:=by
 unfold aYc at h;split at h
 ·cases h;exact fun h=>⟨h.2,h.1⟩
 ·cases md
  ·simp only[Bs] at h;split at h
   ·rename_i h1;cases h;exact fun h=>⟨h,h1⟩
   ·rename_i h1;cases h;exact fun h=>⟨h,h1⟩
  ·cases h;exact fun h=>⟨h,rfl⟩
def aCy (tr:Tr) (md:Bool) (o:Oper) (n:Nat) (st:St) (ob:List Prop) (hn:Hn) (t:TypeId) (x y:Operand) (ok:Bool):Ans:=(tr.get t).bind fun i=>match i.k with
 | .mp kt et=>(tr.get kt).bind fun ki=>(tr.get et).bind fun ei=>match ki.k with
  | .str=>(opO st x).bind fun v=>(aS1 st ei.k.agg v).bind fun(ids,ents)=>(opO st y).bind fun u=>match u with
   | .one (.c (.str k))=>(jB md (iA ents) ob).bind fun ob1=>(aYc md hn k ents ob1).bind fun(r,ob2)=>match ok with
    | true=>val o n ⟨opr x++opr y,ids⟩ (.tup [oV ei r,.one (.c (.bool (uX r)))]) [] ob2
    | false=>val o n ⟨opr x++opr y,ids⟩ (oV ei r) [] ob2
   | _=>none
  | _=>none
 | _=>none
theorem aCx {hn:Hn}{t:TypeId}{x y:Operand}{ok:Bool}(hw:tr.wf=true) (Y:Tok P tr.flat) (Z:o.op=.lookup t x y ok):Snd P n o st ob (aCy tr md o n st ob hn t x y ok):=by
 refine Snd.bind fun i hi=>?_
 replace hi:=Tr.get_ok hw hi
 split
 ·rename_i kt et hk;refine Snd.bind fun ki q=>Snd.bind fun ei I=>?_
  replace q:=Tr.get_ok hw q
  replace I:=Tr.get_ok hw I
  split
  ·rename_i O;refine Snd.bind fun v W=>Snd.bind fun p hp=>?_
   obtain⟨ids,ents⟩:=p;refine Snd.bind fun u hu=>?_
   rw[cV] at W hu;split
   ·rename_i k;refine Snd.bind fun aa h1=>Snd.bind fun p h2=>?_
    obtain⟨r,ab⟩:=p;dsimp only;split
    ·refine Snd.val fun _ hd J hc=>?_
     obtain⟨g1,g2⟩:=aH6 h2 hc;obtain⟨g3,g4⟩:=bA h1 g1;have:=xX Y Z hd J hi hk q O I rfl W (zA hp) g4 hu g2;exact⟨g3,by simpa using this⟩
    ·refine Snd.val fun _ hd J hc=>?_
     obtain⟨g1,g2⟩:=aH6 h2 hc;obtain⟨g3,g4⟩:=bA h1 g1;have:=xX Y Z hd J hi hk q O I rfl W (zA hp) g4 hu g2;exact⟨g3,by simpa using this⟩
   ·exact Snd.none
  ·exact Snd.none
 ·exact Snd.none
def aCw (tr:Tr) (md:Bool) (o:Oper) (n:Nat) (st:St) (ob:List Prop) (w:V) (t:TypeId) (x y:Operand):Ans:=(tr.get t).bind fun i=>match i.k with
 | .mp kt et=>(tr.get kt).bind fun ki=>(tr.get et).bind fun ei=>match ki.k with
  | .str=>(opO st x).bind fun v=>(aS1 st ei.k.agg v).bind fun(ids,ents)=>(opO st y).bind fun u=>match u with
   | .one (.c (.str k))=>(jB md (iA ents) ob).bind fun ob1=>val o n ⟨opr x++opr y,ids⟩ w [] ((oV ei (fJ k ents)=w)::ob1)
   | _=>none
  | _=>none
 | _=>none
theorem aCv {w:V}{t:TypeId}{x y:Operand}(hw:tr.wf=true) (Y:Tok P tr.flat) (Z:o.op=.lookup t x y false):Snd P n o st ob (aCw tr md o n st ob w t x y):=by
 refine Snd.bind fun i hi=>?_
 replace hi:=Tr.get_ok hw hi
 split
 ·rename_i kt et hk;refine Snd.bind fun ki q=>Snd.bind fun ei I=>?_
  replace q:=Tr.get_ok hw q
  replace I:=Tr.get_ok hw I
  split
  ·rename_i J;refine Snd.bind fun v O=>Snd.bind fun p hp=>?_
   obtain⟨ids,ents⟩:=p;refine Snd.bind fun u hu=>?_
   rw[cV] at O hu;split
   ·rename_i k;refine Snd.bind fun aa h1=>Snd.val fun _ hd W hc=>?_
    obtain⟨g3,g4⟩:=bA h1 hc.2;have:=xX Y Z hd W hi hk q J I rfl O (zA hp) g4 hu rfl;refine⟨g3,?_⟩;rw[←hc.1];simpa using this
   ·exact Snd.none
  ·exact Snd.none
 ·exact Snd.none
def zS (tr:Tr) (md:Bool) (o:Oper) (n:Nat) (st:St) (ob:List Prop) (hn:Hn) (t:TypeId) (x y:Operand) (ok:Bool):Ans:=match ok,hn with
 | false,.pc w=>aCw tr md o n st ob w t x y
 | ok,hn=>aCy tr md o n st ob hn t x y ok
theorem aE6 {hn:Hn}{t:TypeId}{x y:Operand}{ok:Bool}(hw:tr.wf=true) (q:Tok P tr.flat) (I:o.op=.lookup t x y ok):Snd P n o st ob (zS tr md o n st ob hn t x y ok):=by
 unfold zS;split
 ·exact aCv hw q I
 ·exact aCx hw q I
def a18 (md:Bool) (k:List UInt8) (cs:List C) (ents:List (List C)):Option (List (List C)):=bif md then some (uT k cs ents) else frc (uT k cs ents)
theorem aHe (md:Bool) (k:List UInt8) (cs:List C) (ents:List (List C)):a18 md k cs ents=some (uT k cs ents):=by
 cases md
 ·exact lO _
 ·rfl
def lF (tr:Tr) (md:Bool) (o:Oper) (st:St) (ob:List Prop) (t:TypeId) (x y z:Operand):Ans:=(tr.get t).bind fun i=>match i.k with
 | .mp kt _=>(tr.get kt).bind fun ki=>match ki.k with
  | .str=>(opO st x).bind fun v=>match v with
   | .one (.mr id)=>match st.h id with
    | some (.map agg ents)=>(opO st y).bind fun u=>match u with
     | .one (.c (.str k))=>(opO st z).bind fun v=>bif (match v with | .one _=>!agg | .pa _=>agg | .ma _=>agg | _=>false) then(pD v).bind fun rs=>
      (jB md (iA ents) ob).bind fun ob1=>(a18 md k (a1w rs) ents).bind fun e'=>eff o ⟨opr x++opr y++opr z,[id]⟩ [(id,some (.map agg e'))] ob1 else none
     | _=>none
    | _=>none
   | _=>none
  | _=>none
 | _=>none
theorem vA {t:TypeId}{x y z:Operand}(hw:tr.wf=true) (Z:Tok P tr.flat) (ho:o.op=.mapUpdate t x y z):Snd P n o st ob (lF tr md o st ob t x y z):=by
 refine Snd.bind fun i hi=>?_
 replace hi:=Tr.get_ok hw hi
 split
 ·rename_i kt et hk;refine Snd.bind fun ki q=>?_
  replace q:=Tr.get_ok hw q
  split
  ·rename_i J;refine Snd.bind fun v O=>?_
   rw[cV] at O;split
   ·rename_i id;split
    ·rename_i agg ents hh;refine Snd.bind fun u hu=>?_
     rw[cV] at hu;split
     ·rename_i k;refine Snd.bind fun z W=>Snd.cond fun Y=>Snd.bind fun rs I=>Snd.bind fun ob1 h1=>Snd.bind fun e' he=>Snd.eff fun hd hc=>?_
      rw[cV] at W;rw[jI] at I;rw[aHe] at he;cases he;obtain⟨g1,g2⟩:=bA h1 hc;exact⟨g1,aD9 (ids:=[]) Z ho hd hi hk q J O hh g2 hu W (by cases z<;>first | rfl | exact Y) I .ofA⟩
     ·exact Snd.none
    ·exact Snd.none
   ·exact Snd.none
  ·exact Snd.none
 ·exact Snd.none
theorem aE7 {t:TypeId}{x y z:Operand}(hw:tr.wf=true) (Z:Tok P tr.flat) (ho:o.op=.insert t x y z):Snd P n o st ob (lF tr md o st ob t x y z):=by
 refine Snd.bind fun i hi=>?_
 replace hi:=Tr.get_ok hw hi
 split
 ·rename_i kt et hk;refine Snd.bind fun ki q=>?_
  replace q:=Tr.get_ok hw q
  split
  ·rename_i J;refine Snd.bind fun v O=>?_
   rw[cV] at O;split
   ·rename_i id;split
    ·rename_i agg ents hh;refine Snd.bind fun u hu=>?_
     rw[cV] at hu;split
     ·rename_i k;refine Snd.bind fun z W=>Snd.cond fun Y=>Snd.bind fun rs I=>Snd.bind fun ob1 h1=>Snd.bind fun e' he=>Snd.eff fun hd hc=>?_
      rw[cV] at W;rw[jI] at I;rw[aHe] at he;cases he;obtain⟨g1,g2⟩:=bA h1 hc;exact⟨g1,aR4 (ids:=[]) Z ho hd hi hk q J O hh g2 hu W (by cases z<;>first | rfl | exact Y) I .ofA⟩
     ·exact Snd.none
    ·exact Snd.none
   ·exact Snd.none
  ·exact Snd.none
 ·exact Snd.none
end
end Go.AM
