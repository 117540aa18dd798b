/-
  Texts Am21 to Am23 in one.
-/
import Derived.Test.YtockgoadliilhaaGreatDoorM3
import Derived.ProofKit
import Derived.SizedLaws
import Derived.OpenShut
import Derived.Carry
import Derived.Laws.BytesArg
open List (append_assoc append_nil drop_drop drop_take drop_zero eq_nil_of_length_eq_zero flatten_append flatten_cons length_append length_cons length_drop length_nil length_take map_cons map_nil map_toArray mem_append mem_cons mem_of_mem_take mem_or_eq_of_mem_set set_eq_take_append_cons_drop size_toArray take_append_of_le_length take_left' take_of_length_le take_take)
open Nat (add_assoc add_mul add_zero eq_of_beq_eq_true le_of_ble_eq_true le_refl le_trans min_eq_left mul_le_mul_left mul_le_mul_right sub_zero zero_add zero_le)
namespace Go.AM
open Go
theorem eQ.of {α:Type}{p:α→Prop}:∀{l:List α},(∀x∈l,p x)→eQ p l
 | [],_=>trivial
 | x::l,h=>⟨h x (by simp),eQ.of fun y hy=>h y (by simp[hy])⟩
def aAq (W:World):Sto:=
 ⟨fun b o=>match W.heap[b]? with | some (.cells vs _ _)=>vs[o]? | _=>none,fun b=>match W.heap[b]? with | some (.map es clk)=>some (.all es clk) | _=>none⟩
theorem aGe (W:World):Holds (aAq W) W:=by
 refine⟨fun b o v h=>?_,fun b mk h=>?_⟩
 ·simp only[aAq] at h;split at h
  ·rename_i vs t fr I;exact⟨vs,t,fr,I,h⟩
  ·cases h
 ·simp only[aAq] at h;split at h
  ·rename_i I;cases h;exact I
  ·cases h
theorem aOr (W:World):(aAq W).noTop:=fun b m e=>by
 simp only[aAq] at e;split at e
 ·cases e;exact⟨_,_,rfl⟩
 ·cases e
theorem aJx (W:World):(aAq W).free:=fun b te lo hi e=>by
 obtain⟨_,_,h⟩:=aOr W b _ e;cases h
theorem aJy {W:World}{a:Addr}{v:Value}(h:W.cell? a=some v):(aAq W).cell a.block a.off=some v:=by
 unfold World.cell? at h;simp only[aAq];split at h
 ·rename_i I;rw[I];split at h
  ·cases h
  ·exact h
 ·cases h
theorem aKf {P:Program}{f:FuncId}{args:List V}{vals:List Value}{res:V}(h:aW P f args [] res []) (W:World) (hv:bS (aAq W) (fun _=>none) (look []) args vals) (ht:aPx W:=by first | assumption | (intro g h;cases h)):
  Calls P f ⟨vals⟩ W fun e W'=>∃v S μ,e=.returned v∧RowKit.Below W.heap.size W W'∧aY S μ (look []) res v:=by
 have J:Inv ⟨W,aAq W,sV (fun _=>none) (look []),fun _=>none,look []⟩ (aAq W) (fun _=>none) (look []) W:=
  ⟨aGe W,(fun _ _ h=>by cases h),(fun _ _ _ _ _ _ _ h=>by cases h),(fun _ _ _ _ h=>by cases h),FrameW.refl _ _ ⟨ht,fun g _ ⟨_,_,_,h,_⟩=>by cases h⟩,Sto.le_refl _,fun _ _ _=>⟨fun _=>rfl,rfl⟩,Evolve.refl _ _ _,aJx W⟩
 refine(h (aAq W) (fun _=>none) W vals J hv).mono ?_;rintro e W' ⟨S',μ',v,he,I,N⟩;refine⟨v,S',μ',he,⟨I.frame.os,I.frame.tape,I.frame.output,I.frame.size,fun k hk=>I.frame.block k hk ?_⟩,N⟩;rintro⟨id,o,c,h1,_⟩;cases h1
theorem aT8 {S:Sto}{μ:Mu}{H:cO}{b:Bool}{v:Value}(h:aY S μ H (B b) v):v=.bool b:=by simpa [aY,bB,Rep] using h
def lC (l:List Int):List (List C):=l.map fun m=>[.int .i64 m]
theorem aNx {W:World}{a:Addr}{len cap:Nat}{l:List Int}(hs:cap≠0→a.spot=none) (hl:l.length=len) (hc:len≤cap) (hm:cap≤maxLen) (I:∀i,i<len→W.cell? (a.add i)=some (.int .i64 (l.getD i 0))):
  Rep (aAq W) (.sl 1 (lC l)) (.slice (some a) len cap):=by
 simp only[Rep];refine⟨some a,len,cap,rfl,by simp[lC,hl],hc,hm,(by intro h;cases h),(by intro N h;cases h;exact hs),a.block,a.off,(by intro N h;cases h;exact⟨rfl,rfl⟩),?_⟩;have key:∀(r:List Int) (k:Nat),(∀i,i<r.length→W.cell? (a.add (k+i))=some (.int .i64 (r.getD i 0)))→bG (aAq W) 1 a.block (lC r) (a.off+k):=by
  intro r
  induction r with
  | nil=>intro k _;simp[lC,bG]
  | cons x r O=>
   intro k J;simp only[lC,Al,bG];refine⟨rfl,⟨[.int .i64 x],by simp[dI,Rep],fun i v hi=>?_⟩,?_⟩
   ·have h0:=aJy (J 0 (by simp));have hb:(a.add (k+0)).block=a.block:=by unfold Addr.add;split<;>rfl
    have Y:(a.add (k+0)).off=a.off+k:=by
     unfold Addr.add;split
     ·rename_i h;omega
     ·rfl
    rw[hb,Y] at h0;cases i with
    | zero=>simp at hi;subst hi;simpa using h0
    | succ i=>simp at hi
   ·have:=O (k+1) fun i hi=>by
     have:=J (i+1) (by simp;omega);rw[show k+(i+1)=k+1+i by omega] at this;simpa using this
    rw[Cc];exact this
 have:=key l 0 fun i hi=>by rw[Bd];exact I i (by omega)
 simpa using this
theorem y9 {W:World}:Rep (aAq W) (.sl 1 (lC [])) (.slice none 0 0):=by
 simp only[Rep];exact⟨none,0,0,rfl,rfl,le_refl _,Ak _,(fun _=>⟨rfl,rfl⟩),(by intro I h;cases h),0,0,(by intro I h;cases h),by simp[lC,bG]⟩
theorem tX {H:Type}{enc:TypeId×Value→H}{P:Program}{W:World}{t e:TypeId}{v:Value}{d:DataW H}{ps:List MemPlace}{base:Nat}(ht:P.underlying t=some (.slice e)) (he:P.underlying e=some (.int .i64)) (hc:P.cellsOf e=1)
  (hok:Value.okWide P W .any base t v) (h:DataW.Trod enc P W 0 (fun _=>true) true t v d ps):
  ∃l:List Int,Rep (aAq W) (.sl 1 (lC l)) v∧(∀m∈l,-9223372036854775808≤m∧m≤9223372036854775807)∧(∃x y,(d=.nil∧l=[])∨(d=.slice x y∧x.length=l.length)):=by
 obtain⟨fuel,hf⟩:=h;obtain⟨a0,I,J,rfl⟩:=WideShapes.okWide_slice ht hok;rcases ChangeShapes.open_ints ht he hc hf with⟨h1,h2⟩ | ⟨a,len,cap,N,h1,_,h3,h4,h5,h6,h7,O⟩
 ·have hv:Value.slice a0 I J=.slice none 0 0:=by
   simp only[Value.cells] at h1;simpa using h1
  cases hv;refine⟨[],y9,by simp,[],[],.inl ⟨?_,rfl⟩⟩;have:=congrArg Prod.fst h2;simpa using this
 ·have hv:Value.slice a0 I J=.slice (some a) len cap:=by
   simp only[Value.cells] at h1;simpa using h1
  cases hv;have hs:a.spot=none:=by
   simp only[Value.okWide,ht,Cell.okWide,Cell.ok] at hok;exact hok.2.2.2.1
  have hlen:I≤N.length:=by rw[h5];split<;>omega
  refine⟨N.take I,aNx (fun _=>hs) (by simp;omega) h3 h4 (fun i hi=>?_),fun m hm=>?_,ChangeShapes.lits .i64 (N.take I),ChangeShapes.lits .i64 (N.drop I),.inr ⟨?_,?_⟩⟩
  ·rw[h7 i (by omega)];congr 2;simp[List.getD_eq_getElem?_getD,hi]
  ·have:=O m (Bs hm);simp only[Lit.wf,Ah,decide_eq_true_eq] at this;exact this
  ·have:=congrArg Prod.fst h6;simpa using this
  ·simp[ChangeShapes.lits]
inductive BndV (st:St):Option Operand→Nat→Nat→Prop
 | no {m}:BndV st none m m
 | yes {x kk m k}:opv st x=some (I kk ((k:Nat):Int))→BndV st (some x) m k
def aPl:Option Operand→List Nat
 | none=>[]
 | some x=>opr x
section
variable {P:Program}{n:Nat}{o:Oper}{st:St}{d:Nat}{T:TT}
theorem BndV.val {G:Ctx}{S:Sto}{μ:Mu}{st':St}{a:Act}{w:World}{x:Option Operand}{m k:Nat}(h:BndV st x m k) (hs:Sim G n S μ st' a w) (ha:∀t∈aPl x,st'.e t=st.e t):
  (x=none∧k=m)∨∃kk,x.map a.eval=some (.int kk ((k:Nat):Int)):=by
 cases h with
 | no=>exact .inl ⟨rfl,rfl⟩
 | @yes x kk _ _ h=>exact .inr ⟨kk,by rw[Option.map_some,eY (aO hs h ha)]⟩
theorem tD {w:World}{b:Bool}{len cap lo hi:Nat}{low high:Option Value}(hl:(low=none∧lo=0)∨∃kk,low=some (.int kk ((lo:Nat):Int))) (hh:(high=none∧hi=len)∨∃kk,high=some (.int kk ((hi:Nat):Int))) (h1:lo≤hi) (h2:hi≤len) (h3:len≤cap):
  (Instr.sliceBounds b len cap low high none).run P w=.ok (lo,hi,cap) w:=by
 have h4:hi≤cap:=le_trans h2 h3;rcases hl with⟨rfl,rfl⟩ | ⟨I,rfl⟩<;>rcases hh with⟨rfl,rfl⟩ | ⟨J,rfl⟩<;>simp[Instr.sliceBounds,Instr.sliceBound,asIntOf,h1,h4]
theorem aZa {t e:TypeId}{i J:TI}{x:Operand}{low high:Option Operand}{es lo hi:Nat}{l:List (List C)}(N:Tok P T) (ho:o.op=.slice t x low high none) (hd:o.dst=some d) (O:d<n) (W:T[t]?=some (some i)) (hk:i.k=.sl e) (Y:T[e]?=some (some J)) (Z:J.size=es)
  (hx:opv st x=some (.one (.c (.sl es l)))) (aa:BndV st low 0 lo) (ab:BndV st high l.length hi) (h1:lo≤hi) (h2:hi≤l.length):
  Step P n o st ⟨opr x++aPl low++aPl high,[]⟩ ⟨some (d,some (.one (.c (.sl es ((l.take hi).drop lo))))),[]⟩:=by
 refine Step.value hd O fun st' ha G S μ a w hs=>?_
 have hv:=aO hs hx fun t ht=>ha.1 t (by simp[ht])
 have hl:=aa.val hs fun t ht=>ha.1 t (by simp[ht])
 have hh:=ab.val hs fun t ht=>ha.1 t (by simp[ht])
 simp only[aY,bB,Rep] at hv;obtain⟨I,len,cap,p1,p2,p3,p4,p5,p6,b,of,p7,p8⟩:=hv;subst p2;have hb:=tD (P:=P) (w:=w) (b:=true) (low:=low.map a.eval) (high:=high.map a.eval) (len:=l.length) (cap:=cap) (by rcases hl with⟨rfl,h⟩ | h;exact .inl ⟨rfl,h⟩;exact .inr h) (by rcases hh with⟨rfl,h⟩ | h;exact .inl ⟨rfl,h⟩;exact .inr h) h1 h2 p3;refine⟨.slice (if cap=lo then I else I.map (·.add (lo*J.size))) (hi-lo) (cap-lo),?_,?_⟩
 ·have hu:=Aq ((N.get W).slice hk) w;simp only[execOp,ho,p1,Cw,Ae,Instr.sliceAt,hu,χ,Instr.slice,hb,(N.get Y).size_run w,Af]
 ·simp only[aY,bB,Rep];have hlen:((l.take hi).drop lo).length=hi-lo:=by simp;omega
  refine⟨_,_,_,rfl,hlen.symm,by omega,by omega,?_,?_,?_⟩
  ·intro e;have:I=none:=by
    split at e
    ·exact e
    ·cases I<;>simp at e;rfl
   obtain⟨h3,h4⟩:=p5 this;omega
  ·intro y e hcc;split at e
   ·omega
   ·cases I with
    | none=>cases e
    | some z=>
     simp at e;subst e;have:=p6 z rfl (by omega);obtain⟨zb,zo,zs⟩:=z;simp at this;subst this;rw[Addr.add_mid]
  ·by_cases hc:cap=lo
   ·have:(l.take hi).drop lo=[]:=Bb (by omega);rw[this];refine⟨b,of,fun y e=>p7 y (by rwa [θ hc] at e),by simp[bG]⟩
   ·refine⟨b,of+lo*es,fun y e=>?_,(p8.take hi).drop lo⟩;rw[ψ hc] at e;cases I with
    | none=>cases e
    | some z=>
     simp at e;subst e;obtain⟨h3,h4⟩:=p7 z rfl;have:=p6 z rfl (by omega);obtain⟨zb,zo,zs⟩:=z;simp at this h3 h4;subst this h3 h4;rw[Addr.add_mid,Z];exact⟨rfl,rfl⟩
theorem extract_mk (s:List UInt8) (lo hi:Nat):(ByteArray.mk ⟨s⟩).extract lo hi=⟨⟨(s.take hi).drop lo⟩⟩:=by
 apply ByteArray.ext;simp;rw[drop_take]
theorem aVz {t:TypeId}{i:TI}{x:Operand}{low high:Option Operand}{lo hi:Nat}{s:List UInt8}(Y:Tok P T) (Z:o.op=.slice t x low high none) (hd:o.dst=some d) (I:d<n) (J:T[t]?=some (some i)) (hk:i.k=.str)
  (hx:opv st x=some (Go.AM.T s)) (N:BndV st low 0 lo) (O:BndV st high s.length hi) (h1:lo≤hi) (h2:hi≤s.length):
  Step P n o st ⟨opr x++aPl low++aPl high,[]⟩ ⟨some (d,some (Go.AM.T ((s.take hi).drop lo))),[]⟩:=by
 refine Step.value hd I fun st' ha G S μ a w hs=>?_
 have hv:=kQ (aO hs hx fun t ht=>ha.1 t (by simp[ht]));have hl:=N.val hs fun t ht=>ha.1 t (by simp[ht])
 have hh:=O.val hs fun t ht=>ha.1 t (by simp[ht])
 have hb:=tD (P:=P) (w:=w) (b:=false) (low:=low.map a.eval) (high:=high.map a.eval) (len:=s.length) (cap:=s.length) (by rcases hl with⟨rfl,h⟩ | h;exact .inl ⟨rfl,h⟩;exact .inr h) (by rcases hh with⟨rfl,h⟩ | h;exact .inl ⟨rfl,h⟩;exact .inr h) h1 h2 (le_refl _);refine⟨.string ⟨⟨(s.take hi).drop lo⟩⟩,?_,by simp[aY,bB,Rep]⟩;have hu:=Aq ((Y.get J).str hk) w;have W:(ByteArray.mk ⟨s⟩).size=s.length:=rfl;simp only[execOp,Z,hv,Cw,Ae,Instr.sliceAt,hu,χ,Instr.slice,W,hb,Option.isSome_none,Bc,Bt,Af,extract_mk]
theorem aQk {t:TypeId}{i:TI}{x y:Operand}{s:List UInt8}{kk:IntKind}{m:Int}{k:Nat}{b:UInt8}(Y:Tok P T) (Z:o.op=.index t x y) (hd:o.dst=some d) (J:d<n) (N:T[t]?=some (some i)) (hk:i.k=.str)
  (hx:opv st x=some (Go.AM.T s)) (hy:opv st y=some (I kk m)) (hm:m=(k:Int)) (hb:s[k]?=some b):Step P n o st ⟨opr x++opr y,[]⟩ ⟨some (d,some (I .u8 ((b.toNat:Nat):Int))),[]⟩:=by
 refine Step.value hd J fun st' ha G S μ a w hs=>?_
 have hv:=kQ (aO hs hx fun t ht=>ha.1 t (by simp[ht]));have h2:=eY (aO hs hy fun t ht=>ha.1 t (by simp[ht]));subst hm;refine⟨.int .u8 ((b.toNat:Nat):Int),?_,by simp[aY,bB,Rep]⟩;have hu:=Aq ((Y.get N).str hk) w;have hg:(ByteArray.mk ⟨s⟩)[k]?=some b:=by
  have O:=(ε.1 hb).1
  have W:(ByteArray.mk ⟨s⟩).size=s.length:=rfl;rw[getElem?_pos (ByteArray.mk ⟨s⟩) k (by rw[W];exact O)];have:=(ε.1 hb).2
  rw[←this];rfl
 simp only[execOp,Z,hv,h2,Ae,Instr.index,asIntOf,Af,χ,hu];simp[hg]
theorem aY3 {t1 t2:TypeId}{x y:Operand}{k:IntKind}{a b r:Int}(N:o.op=.call { callee:=.builtin .min,args:= #[x,y],argTypes:= #[t1,t2] }) (hd:o.dst=some d) (J:d<n) (hx:opv st x=some (I k a)) (hy:opv st y=some (I k b)) (O:(if b<a then b else a)=r):
  Step P n o st ⟨opr x++opr y,[]⟩ ⟨some (d,some (I k r)),[]⟩:=by
 refine Step.value hd J fun st' ha G S μ ac w hs=>?_
 have h1:=eY (aO hs hx fun t h=>ha.1 t (by simp[h]));have h2:=eY (aO hs hy fun t h=>ha.1 t (by simp[h]));refine⟨.int k r,?_,by simp[aY,bB,Rep]⟩;simp only[execOp,N,resolve,map_toArray,Al,By,h1,h2,Ae,Af,χ,invoke,builtin,Builtin.min_,List.foldlM_cons,List.foldlM_nil,Builtin.min2,O]
end
section
variable {P:Program}{n:Nat}{o:Oper}{st:St}{d:Nat}{T:TT}
theorem mG.rarr {S:Sto}{μ:Mu}{H:cO}{w:World}{id:Nat}{te es:Nat}{elems:List (List R)}(h:mG S μ H w id (.rarr te es elems)) {b base cap:Nat}(hm:μ id=some (b,base,cap)):
  (∀r∈elems,r.length=es)∧∃vs,w.heap[b]?=some (.cells ⟨vs⟩ te (0,0))∧base+cap*es≤vs.length∧elems.length≤cap∧(cap≤maxLen∧S.mapo b=none)∧aV S μ H elems.flatten ((vs.drop base).take (elems.length*es))∧(∀o,base≤o→S.cell b o=none):=by
 obtain⟨h0,h1 | ⟨b',I,J,vs,h1,h2,h3,h4,h5,h6,h7⟩⟩:=h
 ·rw[h1.1] at hm;cases hm
 ·rw[h1] at hm;cases hm;exact⟨h0,vs,h2,h3,h4,h5,h6,h7⟩
def vP (st:St) (es:Nat):Nat→List (Nat×Operand)→Option (List (List R))
 | _,[]=>some []
 | k,(i,x)::ps=>bif Nat.beq i k then(opv st x).bind fun v=>(hJ v).bind fun rs=>bif Nat.beq rs.length es then(vP st es (k+1) ps).bind fun l=>some (rs::l) else none else none
theorem y8 {es:Nat}:∀{ps:List (Nat×Operand)}{k:Nat}{l:List (List R)},vP st es k ps=some l→l.length=ps.length∧∀r∈l,r.length=es
 | [],k,l,h=>by simp[vP] at h;subst h;simp
 | (i,x)::ps,k,l,h=>by
  simp only[vP] at h;cases hi:Nat.beq i k with
  | false=>rw[hi] at h;cases h
  | true=>
   rw[hi] at h;simp only[Bm,Ag] at h;obtain⟨v,hv,rs,N,h⟩:=h;cases hl:Nat.beq rs.length es with
   | false=>rw[hl] at h;cases h
   | true=>
    rw[hl] at h;simp only[Bm,Ag] at h;obtain⟨l',J,h⟩:=h;cases h;obtain⟨h1,h2⟩:=y8 J;refine⟨by simp[h1],fun r I=>?_⟩;rcases Ao.1 I with rfl | I
    ·exact Ab hl
    ·exact h2 r I
theorem aFx {G:Ctx}{S:Sto}{μ:Mu}{st':St}{a:Act}{w:World}(hs:Sim G n S μ st' a w) {es:Nat}:∀{k:Nat}{ps:List (Nat×Operand)}{rows:List (List R)},vP st es k ps=some rows→(∀t∈fU ps,st'.e t=st.e t)→
  ∀(cells:Array Value),cells.size=(k+ps.length)*es→∃out:Array Value,Instr.fill (fun i=>some (i*es,es)) cells (ps.map fun(i,x)=>(i,a.eval x))=some out∧out.size=cells.size∧
   ∃us,aV S μ st'.h rows.flatten us∧out.toList=cells.toList.take (k*es)++us:=by
 intro k ps
 induction ps generalizing k with
 | nil=>
  intro rows h _ cells hc;simp only[vP] at h;cases h;refine⟨cells,rfl,rfl,[],by simp[aV],?_⟩;rw[A8,Ba];simp at hc;simp[hc]
 | cons p ps ih=>
  obtain⟨i,x⟩:=p;intro rows h ha cells N;simp only[vP] at h;cases hi:Nat.beq i k with
  | false=>rw[hi] at h;cases h
  | true=>
   rw[hi] at h;have Z:=Ab hi;subst Z;simp only[Bm,Ag] at h;obtain⟨v,hv,rs,aa,h⟩:=h;cases hl:Nat.beq rs.length es with
   | false=>rw[hl] at h;cases h
   | true=>
    rw[hl] at h;simp only[Bm,Ag] at h;obtain⟨l',W,h⟩:=h;cases h;have hl':=Ab hl;have I:=eL (aO hs hv fun t ht=>ha t (by simp[fU,ht])) aa;have ab:=I.length;simp only[Bf] at ab;simp only[Aj] at N;have hke:(i+(ps.length+1))*es=i*es+es+ps.length*es:=by
     rw[A0,A0];omega
    have Y:=nN (i*es) (a.eval x).cells.toList 0 cells (by simp only[Bf];omega);have O:(bX cells.toList (i*es) (a.eval x).cells.toList).length=cells.size:=by
     unfold bX;simp;omega
    obtain⟨out,h1,h2,us,h3,h4⟩:=ih W (fun t ht=>ha t (by simp[fU,ht])) ⟨bX cells.toList (i*es) (a.eval x).cells.toList⟩ (by
     simp only[size_toArray,O,N];congr 1
     omega)
    refine⟨out,?_,by rw[h2];simpa using O,(a.eval x).cells.toList++us,?_,?_⟩
    ·simp only[Al,Instr.fill];have J:((a.eval x).cells.size≠es || decide (i*es+(a.eval x).cells.size>cells.size))=false:=by
      simp only[Bool.or_eq_false_iff,Cs];exact⟨by simp;omega,by omega⟩
     simp only[J,Bc,Bt];have ac:((a.eval x).cells.zipIdx.foldl (fun cs (x:Value×Nat)=>cs.setIfInBounds (i*es+x.2) x.1) cells)=⟨bX cells.toList (i*es) (a.eval x).cells.toList⟩:=by
      rw[←Array.foldl_toList,Array.toList_zipIdx];simpa using Y
     rw[←h1];congr 1
    ·rw[Bi];exact I.append h3
    ·rw[h4];have:(bX cells.toList (i*es) (a.eval x).cells.toList).take ((i+1)*es)=cells.toList.take (i*es)++(a.eval x).cells.toList:=by
      unfold bX;apply take_left';simp;rw[A0];omega
     show(bX cells.toList (i*es) (a.eval x).cells.toList).take ((i+1)*es)++us=_;rw[this,Aw]
theorem aNz {t e:TypeId}{i I:TI}{len:Nat}{parts:Array (Nat×Operand)}{rows:List (List R)}(id:Nat) (O:Tok P T) (ho:o.op=.buildSlice t len parts) (hd:o.dst=some d) (ag:d<n) (hi:T[t]?=some (some i)) (hk:i.k=.sl e) (J:T[e]?=some (some I))
  (N:vP st I.size 0 parts.toList=some rows) (hlen:Nat.beq len parts.size=true) (W:Nat.ble (len*I.size) 16777216=true) (ab:Nat.ble len 16777216=true) (hid:st.h id=none):
  Step P n o st ⟨fU parts.toList,[id]⟩ ⟨some (d,some (.one (.ra id 0 len len))),[(id,some (.rarr e I.size rows))]⟩:=by
 refine Step.new hd ag hid (by simp) fun st' ha ac G S μ a w hs=>?_
 have Z:=Ab hlen;have hsm:=Ap W;obtain⟨z,hz,ah,_⟩:=(O.get J).zero_run;have aa:=(ah S).length;rw[(O.get J).len] at aa;simp only[Bf] at aa;obtain⟨ai,aj⟩:=y8 N;simp only[Bf] at ai;have key:∀(cells:Array Value),cells.size=len*I.size→∃out:Array Value,Instr.fill (fun i=>some (i*I.size,I.size)) cells (parts.map fun(i,x)=>(i,a.eval x)).toList=some out∧out.size=len*I.size∧aV S μ st'.h rows.flatten out.toList:=by
  intro cells hc;obtain⟨out,h1,h2,us,h3,h4⟩:=aFx hs N ha.1 cells (by rw[hc,Z];simp);refine⟨out,by rw[←h1];simp,by rw[h2,hc],?_⟩;simp at h4;rw[h4];exact h3
 have ad:∃out:Array Value,(Instr.buildSlice t len (parts.map fun(i,x)=>(i,a.eval x))).run P w=.ok (.slice (some ⟨w.heap.size,0,none⟩) len len) (w.alloc (.cells out e))∧out.size=len*I.size∧aV S μ st'.h rows.flatten out.toList:=by
  by_cases h0:len*I.size=0
  ·obtain⟨out,h1,h2,h3⟩:=key ((Array.range (len*I.size)).map ((#[]:Array Value)[· %(#[]:Array Value).size]!)) (by simp);refine⟨out,?_,h2,h3⟩;have Y:¬len*I.size>2^24:=by omega
   simp only[Instr.buildSlice,Ae,Aq ((O.get hi).slice hk) w,χ,(O.get J).size_run w];rw[ψ Y,θ h0];simp only[Ae,χ,Af,h1,iA]
  ·obtain⟨out,h1,h2,h3⟩:=key ((Array.range (len*I.size)).map (z.cells[· %z.cells.size]!)) (by simp);refine⟨out,?_,h2,h3⟩;have Y:¬len*I.size>2^24:=by omega
   simp only[Instr.buildSlice,Ae,Aq ((O.get hi).slice hk) w,χ,(O.get J).size_run w];rw[ψ Y,ψ h0];simp only[Ae,hz w,χ,Af,h1,iA]
 obtain⟨out,h1,h2,h3⟩:=ad;have ak:len≤maxLen:=by
  have:=Ap ab;unfold maxLen;omega
 have ae:rows.length=len:=by omega
 refine⟨_,_,.slice (some ⟨w.heap.size,0,none⟩) len len,(0,len),?_,WChg.alloc w (.cells out e),?_,?_⟩
 ·simp only[execOp,ho,Ae,h1,χ,Af]
 ·refine⟨aj,.inr ⟨w.heap.size,0,len,out.toList,aJ _ _ _,B7 w _,by simp[h2],by omega,⟨ak,rH hs.inv⟩,?_,fun o _=>gV hs.inv o⟩⟩;simp only[Cd];rw[Ba (by simp[h2,ae])];exact aV.evolve (fZ ac _ _) _ _ h3
 ·simp only[aY,bB];exact⟨⟨_,_,_,rfl⟩,.inr ⟨e,I.size,rows,aJ _ _ _,by omega,fun _=>⟨by omega,.inr ⟨w.heap.size,0,len,aJ _ _ _,by simp⟩⟩⟩⟩
theorem aF3 {t e:TypeId}{i O:TI}{x y:Operand}{te es k id off len sz:Nat}{kk:IntKind}{m:Int}{elems:List (List R)}(hT:Tok P T) (ho:o.op=.indexAddr t x y) (hd:o.dst=some d) (W:d<n) (hi:T[t]?=some (some i)) (hk:i.k=.sl e) (Y:T[e]?=some (some O)) (Z:O.size=es)
  (hx:opv st x=some (.one (.ra id off len sz))) (hh:st.h id=some (.rarr te es elems)) (N:sz=elems.length) (hy:opv st y=some (I kk m)) (hm:m=(k:Int)) (aa:k<len):Step P n o st ⟨opr x++opr y,[id]⟩ ⟨some (d,some (.one (.rp id (off+k) 0 sz))),[]⟩:=by
 refine Step.value hd W fun st' ha G S μ a w hs=>?_
 have hv:=aO hs hx fun t ht=>ha.1 t (by simp[ht])
 have ab:=eY (aO hs hy fun t ht=>ha.1 t (by simp[ht]));have J:st'.h id=some (.rarr te es elems):=by rw[ha.2 id (by simp),hh]
 simp only[aY,bB] at hv;obtain⟨_,hv | ⟨te',es',elems',h1,h2,h3⟩⟩:=hv
 ·rw[J] at hv;cases hv
 rw[J] at h1;cases h1;obtain⟨h4,⟨h5,h6,h7⟩ | ⟨b,base,cap,h5,h6⟩⟩:=h3 N
 ·subst h6;simp at N;omega
 subst hm;refine⟨.pointer (some ⟨b,base+(off+k)*es+0,none⟩),?_,?_⟩
 ·simp only[execOp,ho,h6,ab,Ae,jL hT hi hk Y w b (base+off*es) len _ k kk aa,χ,Af,Z,Bu];rw[show base+off*es+k*es=base+(off+k)*es by rw[A0];omega]
 ·simp only[aY,bB];exact⟨⟨_,rfl⟩,.inr ⟨te,es,elems,J,h2,fun _=>⟨by omega,b,base,cap,h5,rfl⟩⟩⟩
theorem aF5 {t N:TypeId}{i O:TI}{fs:List (Nat×TypeId)}{f I:Nat}{x:Operand}{id k fo sz:Nat}(hT:Tok P T) (ho:o.op=.fieldAddr t x f) (hd:o.dst=some d) (W:d<n) (hi:T[t]?=some (some i)) (hk:i.k=.st fs) (hf:fs[f]?=some (I,N)) (Y:T[N]?=some (some O)) (hz:O.size≠0)
  {te es:Nat} {elems:List (List R)} (hx:opv st x=some (.one (.rp id k fo sz))) (hh:st.h id=some (.rarr te es elems)) (Z:sz=elems.length):Step P n o st ⟨opr x,[id]⟩ ⟨some (d,some (.one (.rp id k (fo+I) sz))),[]⟩:=by
 refine Step.value hd W fun st' ha G S μ a w hs=>?_
 have hv:=aO hs hx ha.1;have J:st'.h id=some (.rarr te es elems):=by rw[ha.2 id (by simp),hh]
 simp only[aY,bB] at hv;obtain⟨_,hv | ⟨te',es',elems',h1,h2,h3⟩⟩:=hv
 ·rw[J] at hv;cases hv
 rw[J] at h1;cases h1;obtain⟨h4,b,base,cap,h5,h6⟩:=h3 Z;refine⟨.pointer (some ⟨b,base+k*es+fo+I,none⟩),?_,?_⟩
 ·simp only[execOp,ho,h6,Ae,iF hT hi hk hf Y hz,χ,Af]
 ·simp only[aY,bB];exact⟨⟨_,rfl⟩,.inr ⟨te,es,elems,J,h2,fun _=>⟨h4,b,base,cap,h5,by rw[Cc]⟩⟩⟩
theorem aN5 {t e:TypeId}{i:TI}{x:Operand}{te es id off len sz:Nat}{elems:List (List R)}(O:Tok P T) (W:o.op=.call { callee:=.builtin .len,args:= #[x],argTypes:= #[t] }) (hd:o.dst=some d) (Y:d<n) (hi:T[t]?=some (some i)) (hk:i.k=.sl e)
  (hx:opv st x=some (.one (.ra id off len sz))) (hh:st.h id=some (.rarr te es elems)) (J:sz=elems.length):Step P n o st ⟨opr x,[id]⟩ ⟨some (d,some (I .i64 (len:Int))),[]⟩:=by
 refine Step.value hd Y fun st' ha G S μ a w hs=>?_
 have hv:=aO hs hx ha.1;have N:st'.h id=some (.rarr te es elems):=by rw[ha.2 id (by simp),hh]
 simp only[aY,bB] at hv;obtain⟨_,hv | ⟨Z,aa,elems',h1,h2,h3⟩⟩:=hv
 ·rw[N] at hv;cases hv
 rw[N] at h1;cases h1;obtain⟨h4,⟨h5,h6,h7⟩ | ⟨b,base,cap,h5,h6⟩⟩:=h3 J
 ·have hl:len=0:=by subst h6;simp at J;omega
  subst hl;refine⟨goInt 0,jK W h7 ?_,by simp[aY,bB,Rep,goInt]⟩;simp[Builtin.len_,Aq ((O.get hi).slice hk) w]
 ·refine⟨goInt len,jK W h6 ?_,by simp[aY,bB,Rep,goInt]⟩;simp[Builtin.len_,Aq ((O.get hi).slice hk) w]
theorem aIg {S:Sto}{μ:Mu}{H:cO}{es base:Nat}{elems:List (List R)}{vs:List Value}(h0:∀r∈elems,r.length=es) (h:aV S μ H elems.flatten ((vs.drop base).take (elems.length*es))) {k:Nat}{r:List R}(hk:elems[k]?=some r):
  aV S μ H r ((vs.drop (base+k*es)).take es):=by
 have I:k<elems.length:=(ε.1 hk).1
 have hmul:(k+1)*es≤elems.length*es:=Ax _ I;rw[A0] at hmul;have h1:=(h.drop (k*es)).take es;rw[eD h0 k r hk] at h1;rw[drop_take,take_take,drop_drop,B8 (by omega)] at h1;exact h1
theorem aIq {t te es:Nat}{i:TI}{x:Operand}{id k fo sz:Nat}{elems:List (List R)}{r:List R}{y:V}(hT:Tok P T) (ho:o.op=.load t x) (hd:o.dst=some d) (W:d<n) (hi:T[t]?=some (some i)) (hx:opv st x=some (.one (.rp id k fo sz)))
  (hh:st.h id=some (.rarr te es elems)) (Y:sz=elems.length) (Z:elems[k]?=some r) (hl:fo+i.size≤es) (hy:pL i ((r.drop fo).take i.size)=some y):Step P n o st ⟨opr x,[id]⟩ ⟨some (d,some y),[]⟩:=by
 refine Step.value hd W fun st' ha G S μ a w hs=>?_
 have hv:=aO hs hx ha.1;have J:st'.h id=some (.rarr te es elems):=by rw[ha.2 id (by simp),hh]
 simp only[aY,bB] at hv;obtain⟨_,hv | ⟨te',es',elems',h1,h2,h3⟩⟩:=hv
 ·rw[J] at hv;cases hv
 rw[J] at h1;cases h1;obtain⟨h4,b,base,cap,h5,h6⟩:=h3 Y;obtain⟨g0,vs,g1,g2,g3,g4,g5,g6⟩:=(hs.inv.obj id _ J).rarr h5;have O:=aIg g0 g5 Z;have I:=(O.drop fo).take i.size;rw[drop_take,take_take,drop_drop,B8 (by omega)] at I;have hlt:k<elems.length:=(ε.1 Z).1
 have hmul:(k+1)*es≤cap*es:=Ax _ (by omega);rw[A0] at hmul;have aa:((vs.drop (base+k*es+fo)).take i.size).length=i.size:=aZm (by omega);have ab:=jN g1 (base+k*es+fo) i.size;refine⟨_,?_,kW I hy⟩;have N:=run_load (hT.get hi) w b (base+k*es+fo) _ ab aa;simp only[execOp,ho,h6,Ae,Af] at N ⊢;rw[N];rfl
theorem vU {x:Operand}{te es id k fo sz:Nat}{elems:List (List C)}{fz:Nat}(O:o.op=.nilCheck x) (hd:o.dst=some d) (J:d<n) (hx:opv st x=some (.one (.ep id k fo sz))) (hh:st.h id=some (.arr te es elems fz)) (N:sz=elems.length):
  Step P n o st ⟨opr x,[id]⟩ ⟨some (d,some (.one (.ep id k fo sz))),[]⟩:=by
 refine Step.value hd J fun st' ha G S μ a w hs=>⟨a.eval x,?_,aO hs hx ha.1⟩
 have hv:=aO hs hx ha.1;have I:st'.h id=some (.arr te es elems fz):=by rw[ha.2 id (by simp),hh]
 simp only[aY,bB] at hv;obtain⟨_,hv | ⟨W,Y,elems',Z,h1,h2,h3⟩⟩:=hv
 ·rw[I] at hv;cases hv
 rw[I] at h1;cases h1;obtain⟨h4,b,base,cap,h5,h6⟩:=h3 N;simp[execOp,O,h6]
theorem vS {x:Operand}{te es id k fo sz:Nat}{elems:List (List R)}(O:o.op=.nilCheck x) (hd:o.dst=some d) (J:d<n) (hx:opv st x=some (.one (.rp id k fo sz))) (hh:st.h id=some (.rarr te es elems)) (N:sz=elems.length):
  Step P n o st ⟨opr x,[id]⟩ ⟨some (d,some (.one (.rp id k fo sz))),[]⟩:=by
 refine Step.value hd J fun st' ha G S μ a w hs=>⟨a.eval x,?_,aO hs hx ha.1⟩
 have hv:=aO hs hx ha.1;have I:st'.h id=some (.rarr te es elems):=by rw[ha.2 id (by simp),hh]
 simp only[aY,bB] at hv;obtain⟨_,hv | ⟨W,Y,elems',h1,h2,h3⟩⟩:=hv
 ·rw[I] at hv;cases hv
 rw[I] at h1;cases h1;obtain⟨h4,b,base,cap,h5,h6⟩:=h3 N;simp[execOp,O,h6]
end
section
variable {P:Program}{n:Nat}{o:Oper}{st:St}{d:Nat}{T:TT}
theorem uP {t e:TypeId}{i I:TI}{x y:Operand}{id id2 sz te2:Nat}{elems rows:List (List R)}{st':St}{G:Ctx}{S:Sto}{μ:Mu}{a:Act}{w:World}(hT:Tok P T) (ho:o.op=.call { callee:=.builtin .append,args:= #[x,y],argTypes:= #[t,t] })
  (hi:T[t]?=some (some i)) (hk:i.k=.sl e) (hei:T[e]?=some (some I)) (hes:Nat.ble 1 I.size=true) (heb:Nat.ble 1 I.bytes=true)
  (hsz:sz=elems.length) (hpos:0<rows.length) (hroom:(elems.length+rows.length)*I.bytes≤140737488355328) (hh':st'.h id=some (.rarr e I.size elems)) (hs:Sim G n S μ st' a w)
  (hvx:aY S μ st'.h (.one (.ra id 0 sz sz)) (a.eval x)) (hvy:aY S μ st'.h (.one (.ra id2 0 rows.length rows.length)) (a.eval y)) (hh2:st'.h id2=some (.rarr te2 I.size rows)):
  ∃w' v b bo c,(execOp a.eval o).run P w=.ok (.value v) w'∧(w.heap.size≤b∨∃c',μ id=some (b,c'))∧WChg w w' b bo∧
   mG S (upd μ id (some (b,c))) (upd st'.h id (some (.rarr e I.size (elems++rows)))) w' id (.rarr e I.size (elems++rows))∧(∀o v,S.cell b o=some v→∃vs t fr,bo=.cells vs t fr∧vs[o]?=some v)∧(∀m,S.mapo b=some m→w.heap.size≤b)∧
   Evolve S μ st'.h S (upd μ id (some (b,c))) (upd st'.h id (some (.rarr e I.size (elems++rows))))∧
   aY S (upd μ id (some (b,c))) (upd st'.h id (some (.rarr e I.size (elems++rows)))) (.one (.ra id 0 (elems.length+rows.length) (elems.length+rows.length))) v:=by
 subst hsz;have hes':=Ap hes;have heb':=Ap heb
 have hE:∀b c,Evolve S μ st'.h S (upd μ id (some (b,c))) (upd st'.h id (some (.rarr e I.size (elems++rows)))):=fun b c=>⟨S.le_refl,fun j x hj=>by
  by_cases hne:j=id
  ·subst hne;rw[hh'] at hj;cases hj;exact⟨_,aJ _ _ _,by simp only[AObj.succ,true_and];exact⟨by simp,fun e=>by rw[Aa] at e;omega⟩⟩
  ·exact⟨x,by rw[b8 _ _ _ hne];exact hj,x.succ_refl (b8 _ _ _ hne)⟩⟩
 obtain⟨ad,cc,news,hvy1,N,hrl,Y⟩:∃ad cc news,a.eval y=.slice (some ad) rows.length cc∧aV S μ st'.h rows.flatten news∧(∀r∈rows,r.length=I.size)∧∀j u,news[j]?=some u→w.cell? (ad.add j)=some u:=by
  simp only[aY,bB] at hvy;obtain⟨_,hv | ⟨te',es',elems',h1,h2,h3⟩⟩:=hvy
  ·rw[hh2] at hv;cases hv
  rw[hh2] at h1;cases h1;obtain⟨h4,⟨h5,h6,h7⟩ | ⟨b,base,cap,h5,h6⟩⟩:=h3 rfl
  ·rw[h6] at hpos;simp at hpos
  obtain⟨g0,vs,g1,g2,g3,g4,g5,g6⟩:=(hs.inv.obj id2 _ hh2).rarr h5;refine⟨_,_,_,h6,g5,g0,fun j u hj=>?_⟩;rw[Addr.add_mid,cell_of_row w b _ ⟨vs⟩ te2 (0,0) g1];rw[Av] at hj;split at hj
  ·rw[An] at hj;simpa using hj
  ·cases hj
 have O:news.length=rows.length*I.size:=by rw[N.length,iK hrl]
 obtain⟨inf,dd,z,g1,g2,g3,g4,g5,g6,g7,g8⟩:=(hT.get hei).ex;have hu:=(hT.get hi).slice hk;have hzs:z.cells.size=I.size:=by
  have h1:=(jF (S:=S) g7).length;rw[(hT.get hei).len] at h1;simpa using h1
 simp only[aY,bB] at hvx;obtain⟨_,hv | ⟨te',es',elems',h1,h2,h3⟩⟩:=hvx
 ·rw[hh'] at hv;cases hv
 rw[hh'] at h1;cases h1;obtain⟨h4,hcase⟩:=h3 rfl;have hbig:elems.length+rows.length≤140737488355328:=by
  have:(elems.length+rows.length)*1≤(elems.length+rows.length)*I.bytes:=mul_le_mul_left _ heb';omega
 have hone:∀u∈news,u.oneCell'=true:=N.one;have hcap:∀old,elems.length+rows.length≤grownCap w (elems.length+rows.length) old e∧grownCap w (elems.length+rows.length) old e≤maxLen:=fun old=>
  ⟨grownCap_ge _ _ _ _,grownCap_le_maxLen _ _ _ _ (by unfold maxLen;omega)⟩
 have hlen':(elems++rows).length=elems.length+rows.length:=by simp
 have W:∀(Z:List Value) (old:Nat),aV S μ st'.h elems.flatten Z→∀g0:(∀r∈elems,r.length=I.size),
   mG S (upd μ id (some (w.heap.size,0,grownCap w (elems.length+rows.length) old e))) (upd st'.h id (some (.rarr e I.size (elems++rows))))
    (w.drew.alloc (.cells (Z.toArray++news.toArray++Builtin.zeroCells z.cells (grownCap w (elems.length+rows.length) old e-(elems.length+rows.length))) e)) id (.rarr e I.size (elems++rows)):=by
  intro Z old hol g0;obtain⟨hc1,hc2⟩:=hcap old;have aa:=hol.length;rw[iK g0] at aa;refine⟨?_,.inr ⟨w.heap.size,0,grownCap w (elems.length+rows.length) old e,(Z.toArray++news.toArray++Builtin.zeroCells z.cells (grownCap w (elems.length+rows.length) old e-(elems.length+rows.length))).toList,aJ _ _ _,B7 w.drew _,?_,by simpa using hc1,⟨hc2,rH hs.inv⟩,?_,fun o _=>gV hs.inv o⟩⟩
  ·intro r J;rcases ω.1 J with J | J
   ·exact g0 r J
   ·exact hrl r J
  ·simp only[Array.toList_append,Aa,Bf,size_zeroCells,hzs];simp only[aa,O,Bd,←A0];exact Ax _ (by omega)
  ·simp only[Array.toList_append,Cd,Aa,flatten_append];rw[Co (by simp[aa,O,A0]),Ba (by simp[aa,O,A0])];exact(aV.evolve (hE _ _) _ _ hol).append (aV.evolve (hE _ _) _ _ N)
 rcases hcase with⟨h5,h6,h7⟩ | ⟨b,base,cap,h5,h6⟩
 ·--the first elements
  subst h6;simp only[length_nil,Bd] at hroom hbig W hcap;have J:=run_append_nil (P:=P) w t o.type e inf z hu g1 g6 ad rows.length cc news (by rw[O,g3]) Y (by omega) (by omega) (by rw[g4];omega);refine⟨_,_,w.heap.size,_,(0,grownCap w rows.length 0 e),fJ ho h7 hvy1 J,.inl (le_refl _),WChg.alloc_drew w _,?_,fun o v e=>(by rw[gV hs.inv o] at e;cases e),fun m e=>le_refl _,hE _ _,?_⟩
  ·have:=W [] 0 (by simp[aV]) (by simp);simpa using this
  ·simp only[aY,bB];exact⟨⟨_,_,_,rfl⟩,.inr ⟨e,I.size,_,aJ _ _ _,by simp,fun _=>⟨by simp,.inr ⟨w.heap.size,0,_,aJ _ _ _,by simp⟩⟩⟩⟩
 ·obtain⟨q0,vs,q1,q2,q3,q4,q5,q6⟩:=(hs.inv.obj id _ hh').rarr h5;have hce:elems.length*I.size≤cap*I.size:=Ax _ q3;simp only[sub_zero,Nat.zero_mul,Bu] at h6;by_cases ab:elems.length+rows.length≤cap
  ·--there is room
   have hce2:(elems.length+rows.length)*I.size≤cap*I.size:=Ax _ ab;rw[A0] at hce2;have J:=jW (P:=P) w t o.type e inf hu g1 b base elems.length cap ⟨vs⟩ q1 ad rows.length cc news (by rw[O,g3]) Y hone ab (by rw[g3,O];simp only[size_toArray];omega);rw[g3] at J;have hW:=WChg.setRow w b ⟨vs⟩ ⟨vs.take (base+elems.length*I.size)++news++vs.drop (base+elems.length*I.size+news.length)⟩ e (0,0) q1
   refine⟨_,_,b,_,(base,cap),fJ ho h6 hvy1 J,.inr ⟨_,h5⟩,hW,⟨?_,.inr ⟨b,base,cap,_,aJ _ _ _,hW.new,?_,by rw[hlen'];omega,q4,?_,q6⟩⟩,fun o v e=>(by
     by_cases hb:base≤o
     ·rw[q6 o hb] at e;cases e
     ·obtain⟨vs0,t0,fr0,p1,p2⟩:=hs.inv.holds.1 b o v e;rw[q1] at p1;cases p1;refine⟨_,_,_,rfl,?_⟩;simp only[List.getElem?_toArray] at p2 ⊢;have hlt:o<vs.length:=(ε.1 p2).1
      rw[Aw,A7 (by simp;omega),Av,θ (by omega)]
      exact p2),fun m e=>iJ q4.2 m e,hE _ _,?_⟩
   ·intro r J;rcases ω.1 J with J | J
    ·exact q0 r J
    ·exact hrl r J
   ·simp only[Aa,At,Bw];omega
   ·rw[hlen',flatten_append];have e1:((vs.take (base+elems.length*I.size)++news++vs.drop (base+elems.length*I.size+news.length)).drop base).take ((elems.length+rows.length)*I.size)=(vs.drop base).take (elems.length*I.size)++news:=by
     rw[Aw,List.drop_append_of_le_length (by simp;omega),←Aw,Co (by simp[A0];omega)];rw[Ba (by simp[A0];omega),drop_take];rw[show base+elems.length*I.size-base=elems.length*I.size by omega]
    rw[e1];exact(aV.evolve (hE _ _) _ _ q5).append (aV.evolve (hE _ _) _ _ N)
   ·simp only[aY,bB];exact⟨⟨_,_,_,rfl⟩,.inr ⟨e,I.size,_,aJ _ _ _,by simp,fun _=>⟨by simp,.inr ⟨b,base,cap,aJ _ _ _,by simp⟩⟩⟩⟩
  ·--into a new block
   have J:=run_append_grow (P:=P) w t o.type e inf z hu g1 g6 ⟨b,base,none⟩ elems.length cap ((vs.drop base).take (elems.length*I.size)) (by rw[g3];simp;omega) (by
     intro j v hj;rw[Addr.add_mid,cell_of_row w b _ ⟨vs⟩ e (0,0) q1];rw[Av] at hj;split at hj
     ·rw[An] at hj;simpa using hj
     ·cases hj) ad rows.length cc news (by rw[O,g3]) Y (by omega) (by omega) (by rw[g4];exact growslice_fits (by omega) hroom)
   refine⟨_,_,w.heap.size,_,(0,grownCap w (elems.length+rows.length) cap e),fJ ho h6 hvy1 J,.inl (le_refl _),WChg.alloc_drew w _,?_,fun o v e=>(by rw[gV hs.inv o] at e;cases e),fun m e=>le_refl _,hE _ _,?_⟩
   ·have:=W _ cap q5 q0;simpa using this
   ·simp only[aY,bB];exact⟨⟨_,_,_,rfl⟩,.inr ⟨e,I.size,_,aJ _ _ _,by simp,fun _=>⟨by simp,.inr ⟨w.heap.size,0,_,aJ _ _ _,by simp⟩⟩⟩⟩
theorem aEr {y:V}{id te es:Nat}{elems:List (List R)}(hd:o.dst=some d) (N:d<n) {st':St}{G:Ctx}{S:Sto}{μ:Mu}{a:Act}{w:World}{K:Act→World→Prop}{Q:Exit→Act→World→Prop}
  (hs:Sim G n S μ st' a w) (I:∀b c',μ id=some (b,c')→∃ao,st'.h id=some ao) (hk:∀S' μ' O w',Sim G n S' μ' (Eff.apply ⟨some (d,some y),[(id,some (.rarr te es elems))]⟩ st') O w'→K O w')
  (h:∃w' v b J c,(execOp a.eval o).run P w=.ok (.value v) w'∧(w.heap.size≤b∨∃c',μ id=some (b,c'))∧WChg w w' b J∧mG S (upd μ id (some (b,c))) (upd st'.h id (some (.rarr te es elems))) w' id (.rarr te es elems)∧
   (∀o v,S.cell b o=some v→∃vs t fr,J=.cells vs t fr∧vs[o]?=some v)∧(∀m,S.mapo b=some m→w.heap.size≤b)∧Evolve S μ st'.h S (upd μ id (some (b,c))) (upd st'.h id (some (.rarr te es elems)))∧aY S (upd μ id (some (b,c))) (upd st'.h id (some (.rarr te es elems))) y v):
  ∀ro,o.wpIn (Wd ro) 0 P a w K Q:=by
 obtain⟨w',v,b,J,c,hr,hb,hw,hO,hS,W,Y,hv⟩:=h;refine fun ro=>hZ hr ?_
 rw[hd];have hi:=hs.inv.chg (id:=id) (cap:=c) (ao:=.rarr te es elems) hw (hb.imp (fun h=>h) fun⟨c',h⟩=>by obtain⟨ao,Z⟩:=I _ _ h;exact⟨_,c',Z,h⟩) Y hO hS W;have:=hs.put hi Y N (x:=some y) (v:=v) (fun z hz=>by cases hz;exact hv);refine hk S (upd μ id (some (b,c))) _ _ ?_;unfold Eff.apply;rw[dE];exact this
theorem aIy {t e:TypeId}{i I:TI}{x y:Operand}{id J sz O:Nat}{elems rows:List (List R)}(hT:Tok P T) (ho:o.op=.call { callee:=.builtin .append,args:= #[x,y],argTypes:= #[t,t] }) (hd:o.dst=some d) (aa:d<n)
  (hi:T[t]?=some (some i)) (hk:i.k=.sl e) (ab:T[e]?=some (some I)) (ac:Nat.ble 1 I.size=true) (ad:Nat.ble 1 I.bytes=true)
  (hx:opv st x=some (.one (.ra id 0 sz sz))) (hh:st.h id=some (.rarr e I.size elems)) (ae:sz=elems.length) (hy:opv st y=some (.one (.ra J 0 rows.length rows.length))) (ag:st.h J=some (.rarr O I.size rows)) (Y:0<rows.length)
  (N:(elems.length+rows.length)*I.bytes≤140737488355328):
  Step P n o st ⟨opr x++opr y,[id,J]⟩ ⟨some (d,some (.one (.ra id 0 (elems.length+rows.length) (elems.length+rows.length)))),[(id,some (.rarr e I.size (elems++rows)))]⟩:=by
 intro st' ha G S μ a w K Q hs ah;have ai:=aO hs hx fun t ht=>ha.1 t (by simp[ht])
 have aj:=aO hs hy fun t ht=>ha.1 t (by simp[ht])
 have W:st'.h id=some (.rarr e I.size elems):=by rw[ha.2 id (by simp),hh]
 have Z:st'.h J=some (.rarr O I.size rows):=by rw[ha.2 J (by simp),ag]
 exact aEr hd aa hs (fun _ _ _=>⟨_,W⟩) ah (uP hT ho hi hk ab ac ad ae Y N W hs ai aj Z)
theorem Inv.emptyR {G:Ctx}{S:Sto}{μ:Mu}{H:cO}{w:World}{id:Nat}(te es:Nat) (h:Inv G S μ H w) (hid:H id=none):Inv G S (upd μ id none) (upd H id (some (.rarr te es []))) w∧Evolve S μ H S (upd μ id none) (upd H id (some (.rarr te es []))):=by
 have N:Evolve S μ H S (upd μ id none) (upd H id (some (.rarr te es []))):=fZ hid _ _;refine⟨⟨h.holds,fun j x hj=>?_,fun i j x x' b c c' hi hj hm I=>?_,fun i x b c hi hm=>?_,h.frame,h.sle,h.sto,h.evo.trans N,h.fre⟩,N⟩
 ·by_cases J:j=id
  ·subst J;rw[aJ] at hj;cases hj;exact⟨by simp,.inl ⟨aJ _ _ _,rfl⟩⟩
  ·rw[b8 _ _ _ J] at hj;exact(h.obj j x hj).evolve N (b8 _ _ _ J) fun _ _ _=>⟨rfl,fun _=>rfl,rfl⟩
 ·have h1:i≠id:=fun e=>by subst e;rw[aJ] at hm;cases hm
  have h2:j≠id:=fun e=>by subst e;rw[aJ] at I;cases I
  rw[b8 _ _ _ h1] at hi hm;rw[b8 _ _ _ h2] at hj I;exact h.inj i j x x' b c c' hi hj hm I
 ·have h1:i≠id:=fun e=>by subst e;rw[aJ] at hm;cases hm
  rw[b8 _ _ _ h1] at hi hm;exact h.own i x b c hi hm
theorem aF8 {t e:TypeId}{i I:TI}{x y:Operand}{J Z:Nat}{rows:List (List R)}(id:Nat) (hT:Tok P T) (ho:o.op=.call { callee:=.builtin .append,args:= #[x,y],argTypes:= #[t,t] }) (hd:o.dst=some d) (hdn:d<n)
  (hi:T[t]?=some (some i)) (hk:i.k=.sl e) (hei:T[e]?=some (some I)) (hes:Nat.ble 1 I.size=true) (heb:Nat.ble 1 I.bytes=true)
  (hx:opv st x=some (.one (.c .nl))) (hid:st.h id=none) (hy:opv st y=some (.one (.ra J 0 rows.length rows.length))) (hh2:st.h J=some (.rarr Z I.size rows)) (ab:0<rows.length)
  (Y:rows.length*I.bytes≤140737488355328):
  Step P n o st ⟨opr x++opr y,[id,J]⟩ ⟨some (d,some (.one (.ra id 0 rows.length rows.length))),[(id,some (.rarr e I.size rows))]⟩:=by
 intro st' ha G S μ a w K Q hs hk';have O:st'.h id=none:=by rw[ha.2 id (by simp),hid]
 obtain⟨hi',hE⟩:=hs.inv.emptyR e I.size O;have aa:Sim G n S (upd μ id none) ⟨st'.e,upd st'.h id (some (.rarr e I.size [])),st'.d⟩ a w:=⟨hi',hs.size,hs.defers.evolve hE,fun t v e=>aY.evolve hE v _ (hs.env t v e)⟩
 have W:=aO hs hx fun t ht=>ha.1 t (by simp[ht])
 have hvy:=aO hs hy fun t ht=>ha.1 t (by simp[ht])
 have N:st'.h J=some (.rarr Z I.size rows):=by rw[ha.2 J (by simp),hh2]
 simp only[aY,bB,Rep] at W;have hvx':aY S (upd μ id none) (upd st'.h id (some (.rarr e I.size []))) (.one (.ra id 0 0 0)) (a.eval x):=by
  simp only[aY,bB];exact⟨⟨_,_,_,W⟩,.inr ⟨e,I.size,[],aJ _ _ _,le_refl _,fun _=>⟨le_refl _,.inl ⟨aJ _ _ _,rfl,W⟩⟩⟩⟩
 have hne:J≠id:=fun e=>by subst e;rw[O] at N;cases N
 have:=uP (elems:=[]) (id:=id) hT ho hi hk hei hes heb rfl ab (by simpa using Y) (aJ _ _ _) aa hvx' (aY.evolve hE _ _ hvy) (by
  show upd st'.h id (some (.rarr e I.size [])) J=_;rw[b8 _ _ _ hne]
  exact N)
 refine aEr hd hdn aa (fun _ _ _=>⟨_,aJ _ _ _⟩) (fun S' μ' a' w' h=>hk' S' μ' a' w' ?_) this;have e1:Eff.apply ⟨some (d,some (.one (.ra id 0 (([]:List (List R)).length+rows.length) (([]:List (List R)).length+rows.length)))),[(id,some (.rarr e I.size ([]++rows)))]⟩ ⟨st'.e,upd st'.h id (some (.rarr e I.size [])),st'.d⟩
   =Eff.apply ⟨some (d,some (.one (.ra id 0 rows.length rows.length))),[(id,some (.rarr e I.size rows))]⟩ st':=by
  unfold Eff.apply;rw[dE,dE,o8];simp
 rw[e1] at h;exact h
end
section
variable {P:Program}{n:Nat}{o:Oper}{st:St}{d:Nat}{T:TT}
theorem aSr {src dst:TypeId}{i j:TI}{x:Operand}{k k':IntKind}{m:Int}(J:Tok P T) (Y:o.op=.convert src dst x) (hd:o.dst=some d) (N:d<n) (hi:T[src]?=some (some i)) (O:i.k=.int k) (hj:T[dst]?=some (some j)) (W:j.k=.int k')
  (hx:opv st x=some (I k m)):Step P n o st ⟨opr x,[]⟩ ⟨some (d,some (I k' (k'.wrap m))),[]⟩:=by
 refine Step.value hd N fun st' ha G S μ a w hs=>?_
 have hv:=eY (aO hs hx ha.1);refine⟨.int k' (k'.wrap m),?_,by simp[aY,bB,Rep]⟩;have h1:=(J.get hi).int O;have h2:=(J.get hj).int W;simp only[execOp,Y,hv,Ae,convert,Aq h1 w,Aq h2 w,χ,Conv.intToInt,Af]
theorem aSs {src dst e:TypeId}{i j ei:TI}{x:Operand}{v:V}{ids:List Nat}{rows:List (List C)}{ns:List Int}(Y:Tok P T) (ho:o.op=.convert src dst x) (hd:o.dst=some d) (hdn:d<n) (hi:T[src]?=some (some i)) (hik:i.k=.sl e) (hei:T[e]?=some (some ei)) (hek:ei.k=.int .u8)
  (hj:T[dst]?=some (some j)) (hjk:j.k=.str) (hx:opv st x=some v) (Z:Src st 1 ids v rows) (hr:rows=ns.map fun m=>[C.int .u8 m]):Step P n o st ⟨opr x,ids⟩ ⟨some (d,some (Go.AM.T (ns.map fun m=>UInt8.ofNat m.toNat))),[]⟩:=by
 refine Step.value hd hdn fun st' ha G S μ a w hs=>?_
 have hv:=aO hs hx ha.1;obtain⟨I,c,news,h1,h2,h3,h4,h5⟩:=Z.rel hs ha.2 hv;have N:=(Y.get hi).slice hik;have O:=(Y.get hei).int hek;have W:=(Y.get hj).str hjk;have J:∀(ns:List Int) (news:List Value),dI S (ns.map fun m=>[C.int .u8 m]).flatten news→news=ns.map (Value.int .u8):=by
  intro ns
  induction ns with
  | nil=>intro news h;simpa [dI] using h
  | cons m ns ih=>
   intro news h;simp only[Al,Bi,List.singleton_append,dI,Rep] at h;obtain⟨u,us,rfl,rfl,h⟩:=h;rw[ih us h];rfl
 rw[hr] at h2;have hn:=J ns news h2;have hrun:(convert src dst (a.eval x)).run P w=.ok (.string ⟨⟨ns.map fun m=>UInt8.ofNat m.toNat⟩⟩) w:=by
  rw[h1];cases I with
  | none=>
   have h6:=h4 rfl;rw[hr] at h6;have:ns=[]:=by simpa using h6
   subst this;exact run_convert_bytes_nil w src e N O _ _ dst W
  | some I=>
   have hlen:rows.length=ns.length:=by rw[hr];simp
   have hl:(loadCells I ns.length).run P w=.ok (ns.map (Value.int .u8)).toArray w:=by
    have:=run_loadCells_list (P:=P) w I (ns.map (Value.int .u8)) (fun j v hj=>h5 I rfl j v (by rw[hn];exact hj));simpa using this
   rw[hlen,run_convert_bytes_string w src dst e _ _ _ N O W,run_bytesToString w _ _ _ ns hl,foldl_push_bytes];simp[ByteArray.empty,ByteArray.emptyWithCapacity];rfl
 refine⟨.string ⟨⟨ns.map fun m=>UInt8.ofNat m.toNat⟩⟩,?_,by simp[aY,bB,Rep]⟩;simp only[execOp,ho,Ae,hrun,χ,Af]
theorem bE.length {S:Sto}{agg:Bool}:∀{l:List (List C)}{es:List MapEntry},bE S agg l es→es.length=l.length
 | [],es,h=>by simp only[bE] at h;subst h;rfl
 | r::rs,es,h=>by
  simp only[bE] at h;obtain⟨e,I,rfl,_,h⟩:=h;simp[bE.length h]
theorem aIv {t Z et:TypeId}{i:TI}{x:Operand}{id:Nat}{agg:Bool}{ents:List (List C)}(hT:Tok P T) (ho:o.op=.call { callee:=.builtin .len,args:= #[x],argTypes:= #[t] }) (hd:o.dst=some d) (N:d<n) (hi:T[t]?=some (some i)) (hk:i.k=.mp Z et)
  (hx:opv st x=some (.one (.mr id))) (hh:st.h id=some (.map agg ents)) (O:jY ents):Step P n o st ⟨opr x,[id]⟩ ⟨some (d,some (I .i64 (ents.length:Int))),[]⟩:=by
 refine Step.value hd N fun st' ha G S μ a w hs=>?_
 have hv:=aO hs hx ha.1;have J:st'.h id=some (.map agg ents):=by rw[ha.2 id (by simp),hh]
 simp only[aY,bB] at hv;obtain⟨agg',Y,b,c,h1,h2,h3⟩:=hv;rw[J] at h1;cases h1;obtain⟨b',es,clk,W,q2,q3,q4⟩:=hs.inv.obj id _ J;rw[h2] at W;cases W;have hl:=(q3.rep O).length;refine⟨goInt ents.length,jK ho h3 ?_,by simp[aY,bB,Rep,goInt]⟩;have hg:(getObj b).run P w=.ok (.map es clk) w:=MapKept.run_getObj_map q2;simp at hl;simp[Builtin.len_,Aq ((hT.get hi).map hk) w,hg,hl]
end
section
variable {P:Program}{n:Nat}{T:TT}{o:Oper}{st:St}{d:Nat}
theorem r7 {t e:TypeId}{i N:TI}{x y:Operand}{n' es k:Nat}{kk:IntKind}{m:Int}{l r:List R}(hT:Tok P T) (ho:o.op=.indexAddr t x y) (hd:o.dst=some d) (O:d<n) (hi:T[t]?=some (some i)) (hk:i.k=.sl e) (W:T[e]?=some (some N)) (Y:N.size=es)
  (hx:opv st x=some (.one (.ras n' es l))) (hy:opv st y=some (I kk m)) (hm:m=(k:Int)) (Z:k<n') (hr:(l.drop (k*es)).take es=r):Step P n o st ⟨opr x++opr y,[]⟩ ⟨some (d,some (.one (.pas r))),[]⟩:=by
 refine Step.value hd O fun st' ha G S μ a w hs=>?_
 have hv:=aO hs hx (eO ha).1;have aa:=eY (aO hs hy (eO ha).2);simp only[aY,bB] at hv;obtain⟨J,cap,h1,h2,h3,h4,h5,h6,b,off,h7,vs,h8,h9⟩:=hv;cases J with
 | none=>have:=(h5 rfl).1;omega
 | some J=>
  obtain⟨h10,h10'⟩:=h7 J rfl;have h11:=h6 J rfl;have ab:J=⟨b,off,none⟩:=by cases J;simp_all
  subst ab;subst hm;refine⟨.pointer (some ⟨b,off+k*es,none⟩),?_,?_⟩
  ·simp only[execOp,ho,h1,aa,Ae,jL hT hi hk W w b off n' cap k kk Z,χ,Af,Y]
  ·simp only[aY,bB];subst hr;refine⟨b,off+k*es,rfl,(vs.drop (k*es)).take es,(h8.drop (k*es)).take es,fun j v hj=>?_⟩;rw[Av] at hj;split at hj
   ·rw[An] at hj;have:=h9 _ v hj;rwa [←Cc] at this
   ·cases hj
theorem aF2 {t:TypeId}{i:TI}{x:Operand}{l:List R}{y:V}(N:Tok P T) (O:o.op=.load t x) (hd:o.dst=some d) (I:d<n) (hi:T[t]?=some (some i)) (hx:opv st x=some (.one (.pas l)))
  (hl:i.size≤l.length) (hy:pL i (l.take i.size)=some y):Step P n o st ⟨opr x,[]⟩ ⟨some (d,some y),[]⟩:=by
 refine Step.value hd I fun st' ha G S μ a w hs=>?_
 have hv:=aO hs hx ha.1;simp only[aY,bB] at hv;obtain⟨b,off,h1,vs,h2,h3⟩:=hv;have Y:=h2.length;refine⟨_,?_,kW (h2.take i.size) hy⟩;have W:=mM hs.inv.holds h3;have J:w.rangeAt b off (vs.take i.size):=fun j v hj=>by
  rw[Av] at hj;split at hj
  ·exact W j v hj
  ·cases hj
 simp only[execOp,O,h1,Ae,run_load (N.get hi) w b off _ J (by simp;omega),χ,Af]
theorem aBi {t J:TypeId}{i N:TI}{fs:List (Nat×TypeId)}{f I:Nat}{x:Operand}{l:List R}(Y:Tok P T) (Z:o.op=.fieldAddr t x f) (hd:o.dst=some d) (O:d<n) (hi:T[t]?=some (some i)) (hk:i.k=.st fs) (hf:fs[f]?=some (I,J)) (W:T[J]?=some (some N)) (hz:N.size≠0)
  (hx:opv st x=some (.one (.pas l))):Step P n o st ⟨opr x,[]⟩ ⟨some (d,some (.one (.pas (l.drop I)))),[]⟩:=by
 refine Step.value hd O fun st' ha G S μ a w hs=>?_
 have hv:=aO hs hx ha.1;simp only[aY,bB] at hv;obtain⟨b,off,h1,vs,h2,h3⟩:=hv;refine⟨.pointer (some ⟨b,off+I,none⟩),?_,?_⟩
 ·simp only[execOp,Z,h1,Ae,iF Y hi hk hf W hz,χ,Af]
 ·simp only[aY,bB];refine⟨b,off+I,rfl,vs.drop I,h2.drop I,fun j v hj=>?_⟩;rw[An] at hj;have:=h3 (I+j) v hj;rwa [←Cc] at this
theorem aIu {t e:TypeId}{i:TI}{x:Operand}{n' es:Nat}{l:List R}(N:Tok P T) (O:o.op=.call { callee:=.builtin .len,args:= #[x],argTypes:= #[t] }) (hd:o.dst=some d) (J:d<n) (hi:T[t]?=some (some i)) (hk:i.k=.sl e)
  (hx:opv st x=some (.one (.ras n' es l))):Step P n o st ⟨opr x,[]⟩ ⟨some (d,some (I .i64 (n':Int))),[]⟩:=by
 refine Step.value hd J fun st' ha G S μ a w hs=>?_
 have hv:=aO hs hx ha.1;simp only[aY,bB] at hv;obtain⟨W,cap,h1,_⟩:=hv;refine⟨goInt n',jK O h1 ?_,by simp[aY,bB,Rep,goInt]⟩;simp[Builtin.len_,Aq ((N.get hi).slice hk) w]
theorem aFy {t te es:Nat}{i:TI}{x y:Operand}{id k fo sz:Nat}{elems:List (List R)}{v:V}{cs r:List R}(hT:Tok P T) (ho:o.op=.store t x y) (hd:o.dst=none) (hi:T[t]?=some (some i)) (hx:opv st x=some (.one (.rp id k fo sz)))
  (hy:opv st y=some v) (hc:hJ v=some cs) (hh:st.h id=some (.rarr te es elems)) (hsz:sz=elems.length) (hr:elems[k]?=some r) (hcs:cs.length=i.size) (hl:fo+i.size≤es):
  Step P n o st ⟨opr x++opr y,[id]⟩ ⟨none,[(id,some (.rarr te es (elems.set k (bX r fo cs))))]⟩:=by
 refine Step.turn hd hh (by simp) (by simp[AObj.succ]) fun st' ha J G S μ a w hs=>?_
 have hvx:=aO hs hx fun t ht=>ha.1 t (by simp[ht])
 have hvy:=aO hs hy fun t ht=>ha.1 t (by simp[ht])
 simp only[aY,bB] at hvx;obtain⟨_,hv | ⟨te',es',elems',h1,h2,h3⟩⟩:=hvx
 ·rw[J] at hv;cases hv
 rw[J] at h1;cases h1;obtain⟨h4,b,base,cap,h5,h6⟩:=h3 hsz;obtain⟨g0,vs,g1,g2,g3,g4,g5,g6⟩:=(hs.inv.obj id _ J).rarr h5;have O:=eL hvy hc;have W:=O;have hone:=O.one;have hnl:=W.length;have hk:k<elems.length:=(ε.1 hr).1
 have hres:r.length=es:=g0 r (η hr);have hke:(k+1)*es≤elems.length*es:=Ax _ hk;have hce:elems.length*es≤cap*es:=Ax _ g3;rw[A0] at hke;generalize hnews:(a.eval y).cells.toList=news at *;have hrun:=run_store (hT.get hi) w b (base+k*es+fo) vs news te (a.eval y) g1 hnews (by omega) (by omega) hone;have hE:=jR (S:=S) (μ:=μ) (o':=.rarr te es (elems.set k (bX r fo cs))) J h5 (by simp[AObj.succ]);have Y:=aIg g0 g5 hr;have N:=aBw g0 k r hr;have hlen:(elems.set k (bX r fo cs)).length=elems.length:=by simp
 have hW:=WChg.setRow w b ⟨vs⟩ ⟨vs.take (base+k*es+fo)++news++vs.drop (base+k*es+fo+news.length)⟩ te (0,0) g1;refine⟨_,_,b,(base,cap),?_,h5,hW,⟨?_,.inr ⟨b,base,cap,_,aJ _ _ _,hW.new,?_,by rw[hlen];exact g3,g4,?_,g6⟩⟩,fun o v e=>?_,fun m e=>iJ g4.2 m e⟩
 ·simp only[execOp,ho,h6,Ae,hrun,χ,Af]
 ·intro q hq;rcases mem_or_eq_of_mem_set hq with hq | rfl
  ·exact g0 q hq
  ·unfold bX;simp;omega
 ·simp only[Aa,At,Bw];omega
 ·rw[hlen];have e1:(elems.set k (bX r fo cs)).flatten=elems.flatten.take (k*es)++(r.take fo++cs++r.drop (fo+cs.length))++elems.flatten.drop (k*es+es):=by
   rw[Ce,θ hk,flatten_append,Bi,N.1,N.2,←Aw];rfl
  have e2:((vs.take (base+k*es+fo)++news++vs.drop (base+k*es+fo+news.length)).drop base).take (elems.length*es)=
    ((vs.drop base).take (elems.length*es)).take (k*es)++((((vs.drop (base+k*es)).take es).take fo)++news++(((vs.drop (base+k*es)).take es).drop (fo+cs.length)))++((vs.drop base).take (elems.length*es)).drop (k*es+es):=by
   apply Bo;intro j;simp only[Av,An,Bx,Aa,At,Bw];have hm1:min (k*es) (min (elems.length*es) (vs.length-base))=k*es:=by omega
   have hm2:min (base+k*es+fo) vs.length=base+k*es+fo:=by omega
   have hm3:min fo es=fo:=by omega
   have hm4:min es (vs.length-(base+k*es))=es:=by omega
   simp only[hm1,hm2,hm3,hm4,hnl];by_cases c1:j<k*es
   ·have I:j<elems.length*es:=by omega
    have a2:base+j<base+k*es+fo:=by omega
    have a3:base+j<base+k*es+fo+cs.length:=by omega
    have a4:j<k*es+(fo+cs.length+(es-(fo+cs.length))):=by omega
    simp[c1,I,a2,a3,a4]
   ·by_cases c2:j<k*es+fo
    ·have I:j<elems.length*es:=by omega
     have a2:base+j<base+k*es+fo:=by omega
     have a3:base+j<base+k*es+fo+cs.length:=by omega
     have a4:j<k*es+(fo+cs.length+(es-(fo+cs.length))):=by omega
     have a5:j-k*es<fo+cs.length:=by omega
     have Z:j-k*es<fo:=by omega
     have a7:j-k*es<es:=by omega
     simp[c1,I,a2,a3,a4,a5,Z,a7,show base+k*es+(j-k*es)=base+j by omega]
    ·by_cases c3:j<k*es+fo+cs.length
     ·have I:j<elems.length*es:=by omega
      have a2:¬base+j<base+k*es+fo:=by omega
      have a3:base+j<base+k*es+fo+cs.length:=by omega
      have a4:j<k*es+(fo+cs.length+(es-(fo+cs.length))):=by omega
      have a5:j-k*es<fo+cs.length:=by omega
      have Z:¬j-k*es<fo:=by omega
      simp[c1,I,a2,a3,a4,a5,Z,show base+j-(base+k*es+fo)=j-k*es-fo by omega]
     ·by_cases c4:j<k*es+es
      ·have I:j<elems.length*es:=by omega
       have a3:¬base+j<base+k*es+fo+cs.length:=by omega
       have a4:j<k*es+(fo+cs.length+(es-(fo+cs.length))):=by omega
       have a5:¬j-k*es<fo+cs.length:=by omega
       have Z:fo+cs.length+(j-k*es-(fo+cs.length))<es:=by omega
       simp[c1,I,a3,a4,a5,Z,show base+k*es+fo+cs.length+(base+j-(base+k*es+fo+cs.length))=base+j by omega,show base+k*es+(fo+cs.length+(j-k*es-(fo+cs.length)))=base+j by omega]
      ·have a3:¬base+j<base+k*es+fo+cs.length:=by omega
       have a4:¬j<k*es+(fo+cs.length+(es-(fo+cs.length))):=by omega
       by_cases c5:j<elems.length*es
       ·have a5:k*es+es+(j-(k*es+(fo+cs.length+(es-(fo+cs.length)))))<elems.length*es:=by omega
        simp[a3,a4,c5,a5,show base+k*es+fo+cs.length+(base+j-(base+k*es+fo+cs.length))=base+j by omega,show base+(k*es+es+(j-(k*es+(fo+cs.length+(es-(fo+cs.length))))))=base+j by omega]
       ·have a5:¬k*es+es+(j-(k*es+(fo+cs.length+(es-(fo+cs.length)))))<elems.length*es:=by omega
        simp[a4,c5,a5]
  rw[e1];show aV S _ _ _ (((vs.take (base+k*es+fo)++news++vs.drop (base+k*es+fo+news.length)).drop base).take (elems.length*es));rw[e2];refine aV.evolve hE _ _ ?_;exact((g5.take (k*es)).append (((Y.take fo).append W).append (Y.drop (fo+cs.length)))).append (g5.drop (k*es+es))
 ·--what stays is not touched
  by_cases hb:base≤o
  ·rw[g6 o hb] at e;cases e
  ·obtain⟨vs0,t0,fr0,q1,q2⟩:=hs.inv.holds.1 b o v e;rw[g1] at q1;cases q1;refine⟨_,_,_,rfl,?_⟩;simp only[List.getElem?_toArray] at q2 ⊢;have hlt:o<vs.length:=(ε.1 q2).1
   rw[Aw,A7 (by simp;omega),Av,θ (by omega)];exact q2
end
def frc {α:Type}:List α→Option (List α)
 | []=>some []
 | x::xs=>(frc xs).bind fun l=>some (x::l)
theorem jZ {α:Type}:∀l:List α,frc l=some l
 | []=>rfl
 | x::xs=>by simp[frc,jZ xs]
def tak {α:Type}:Nat→List α→Option (List α)
 | 0,_=>some []
 | _+1,[]=>none
 | k+1,x::xs=>(tak k xs).bind fun l=>some (x::l)
theorem qU {α:Type}:∀{k:Nat}{l r:List α},tak k l=some r→k≤l.length∧l.take k=r
 | 0,l,r,h=>by simp[tak] at h;simp[h]
 | k+1,[],r,h=>by simp[tak] at h
 | k+1,x::xs,r,h=>by
  simp only[tak,Ag] at h;obtain⟨l,h1,h2⟩:=h;cases h2;obtain⟨h3,h4⟩:=qU h1;exact⟨by simp;omega,by simp[h4]⟩
inductive Tr where
 | leaf (o:Option TI)
 | node (k:Nat) (l r:Tr)
def Tr.get:Tr→Nat→Option TI
 | .leaf o,t=>bif Nat.beq t 0 then o else none
 | .node k l r,t=>bif Nat.blt t k then l.get t else r.get (t-k)
def Tr.flat:Tr→TT
 | .leaf o=>[o]
 | .node _ l r=>l.flat++r.flat
def Tr.wf:Tr→Bool
 | .leaf _=>true
 | .node k l r=>Nat.beq k l.flat.length&&(l.wf&&r.wf)
theorem Tr.get_ok:∀{tr:Tr}{t:Nat}{i:TI},tr.wf=true→tr.get t=some i→tr.flat[t]?=some (some i)
 | .leaf o,t,i,_,h=>by
  simp only[Tr.get] at h;cases hb:Nat.beq t 0 with
  | false=>rw[hb] at h;cases h
  | true=>
   rw[hb] at h;have:=Ab hb;subst this;simp only[Bm] at h;simp[Tr.flat,h]
 | .node k l r,t,i,hw,h=>by
  simp only[Tr.wf,Ah] at hw;have hk:=Ab hw.1;simp only[Tr.get] at h;simp only[Tr.flat,Bx];cases hb:Nat.blt t k with
  | true=>
   rw[hb] at h;have:t<k:=Ap hb;rw[θ (by omega)];exact Tr.get_ok hw.2.1 h
  | false=>
   rw[hb] at h;have:¬t<k:=fun I=>by
    have:Nat.blt t k=true:=Nat.ble_eq_true_of_le I;rw[hb] at this;cases this
   rw[ψ (by omega),←hk];exact Tr.get_ok hw.2.2 h
def iC:List Prop→Prop
 | []=>True
 | p::l=>p∧iC l
def iI (md:Bool) (p:Prop) [Decidable p] (ob:List Prop):Option (List Prop):=bif md then some (p::ob) else bif decide p then some ob else none
theorem b6 {md:Bool}{p:Prop} [Decidable p] {ob I:List Prop}(h:iI md p ob=some I):iC I→iC ob∧p:=by
 unfold iI at h;cases md with
 | true=>cases h;exact fun h=>⟨h.2,h.1⟩
 | false=>
  simp only[Bn] at h;cases hp:decide p with
  | false=>rw[hp] at h;cases h
  | true=>rw[hp] at h;cases h;exact fun h=>⟨h,φ hp⟩
inductive Hn where
 | no
 | id (n:Nat)
 | bv (b:Bool)
 | row (k:Nat) (r:List C)
 | all
 | look (r:Option (List C))
 | c (rows:List (List C))
 | byte (k:Nat) (b:UInt8)
 | pc (res:V)
 | fz
 | rr (r:List R)
 | rowR (k:Nat) (r:List R)
def aOx:List (Nat×Hn)→Nat→Hn
 | [],_=>.no
 | (k,h)::l,i=>bif Nat.beq i k then h else aOx l i
abbrev Ans:=Option (Rd×Eff×List Prop)
def Snd (P:Program) (n:Nat) (o:Oper) (st:St) (ob:List Prop) (r:Ans):Prop:=∀rd f ob',r=some (rd,f,ob')→iC ob'→iC ob∧Step P n o st rd f
def val (o:Oper) (n:Nat) (rd:Rd) (v:V) (h:List (Nat×Option AObj)) (ob:List Prop):Ans:=
 match o.dst with
 | some d=>bif Nat.blt d n then some (rd,⟨some (d,some v),h⟩,ob) else none
 | none=>none
def eff (o:Oper) (rd:Rd) (h:List (Nat×Option AObj)) (ob:List Prop):Ans:=
 match o.dst with
 | none=>some (rd,⟨none,h⟩,ob)
 | some _=>none
def opO (st:St):Operand→Option V
 | .tmp t=>st.e t
 | .const v=>match v with
  | .int k n=>some (.one (.c (.int k n)))
  | .bool b=>some (.one (.c (.bool b)))
  | .string ⟨⟨l⟩⟩=>some (.one (.c (.str l)))
  | .slice none 0 0=>some (.one (.c .nl))
  | .pointer none=>some (.one (.c .np))
  | .map none=>some (.one (.c (.zv 0)))
  | .nilFunc=>some (.one (.c (.zv 1)))
  | .nilIface=>some (.one (.c (.zv 2)))
  | _=>none
 | .func f=>some (.one (.clo f []))
 | .global _=>none
theorem cQ (st:St) (x:Operand):opO st x=opv st x:=by
 cases x with
 | const v=>
  cases v with
  | string s=>obtain⟨⟨l⟩⟩:=s;rfl
  | slice a l c=>
   cases a with
   | some _=>rfl
   | none=>
    cases l with
    | zero=>cases c<;>rfl
    | succ _=>rfl
  | pointer p=>cases p<;>rfl
  | map m=>cases m<;>rfl
  | _=>rfl
 | _=>rfl
def aYl (rs:List R):Option V:=match iS rs with | some l=>some (.pa l) | none=>some (.ma rs)
theorem aMp (rs:List R):aYl rs=some (aUz rs):=by
 unfold aYl aUz;cases iS rs<;>rfl
def aGg (i:TI) (rs:List R):Option V:=bif i.k.agg then aYl rs else match rs with | [r]=>some (.one r) | _=>none
theorem qB (i:TI) (rs:List R):aGg i rs=pL i rs:=by
 unfold aGg pL;cases i.k.agg
 ·rfl
 ·exact aMp rs
def aEn (i:TI) (l:List C):Option V:=bif i.k.agg then some (.pa l) else match l with | [c]=>some (.one (.c c)) | _=>none
theorem yX (i:TI) (l:List C):aEn i l=aGh i l:=by
 unfold aEn aGh;cases i.k.agg<;>rfl
def nQ (v:V):Option (List R):=(hJ v).bind frc
theorem iQ (v:V):nQ v=hJ v:=by
 unfold nQ;cases hJ v with
 | none=>rfl
 | some l=>simp[jZ]
theorem eI {α:Type}{b:Bool}{x:Option α}{y:α}(h:(bif b then x else none)=some y):b=true∧x=some y:=by
 cases b
 ·cases h
 ·exact⟨rfl,h⟩
theorem lI {d n:Nat}(h:Nat.blt d n=true):d<n:=Ap h
theorem aU8 {o:Oper}{n:Nat}{rd I:Rd}{v:V}{h:List (Nat×Option AObj)}{ob J:List Prop}{f:Eff}(e:val o n rd v h ob=some (I,f,J)):∃d,o.dst=some d∧d<n∧I=rd∧f=⟨some (d,some v),h⟩∧J=ob:=by
 unfold val at e;split at e
 ·rename_i d hd;obtain⟨h1,h2⟩:=eI e;cases h2;exact⟨d,hd,lI h1,rfl,rfl,rfl⟩
 ·cases e
theorem aXf {o:Oper}{rd I:Rd}{h:List (Nat×Option AObj)}{ob J:List Prop}{f:Eff}(e:eff o rd h ob=some (I,f,J)):o.dst=none∧I=rd∧f=⟨none,h⟩∧J=ob:=by
 unfold eff at e;split at e
 ·rename_i hd;cases e;exact⟨hd,rfl,rfl,rfl⟩
 ·cases e
theorem Snd.val {P:Program}{n:Nat}{o:Oper}{st:St}{ob I:List Prop}{rd:Rd}{v:V}{h:List (Nat×Option AObj)}(hk:∀d,o.dst=some d→d<n→iC I→iC ob∧Step P n o st rd ⟨some (d,some v),h⟩):Snd P n o st ob (Go.AM.val o n rd v h I):=by
 intro N f J e hc;obtain⟨d,h1,h2,rfl,rfl,rfl⟩:=aU8 e;exact hk d h1 h2 hc
theorem Snd.eff {P:Program}{n:Nat}{o:Oper}{st:St}{ob I:List Prop}{rd:Rd}{h:List (Nat×Option AObj)}(hk:o.dst=none→iC I→iC ob∧Step P n o st rd ⟨none,h⟩):Snd P n o st ob (Go.AM.eff o rd h I):=by
 intro N f J e hc;obtain⟨h1,rfl,rfl,rfl⟩:=aXf e;exact hk h1 hc
theorem Snd.none {P:Program}{n:Nat}{o:Oper}{st:St}{ob:List Prop}:Snd P n o st ob none:=by
 intro rd f I e;cases e
theorem Snd.bind {P:Program}{n:Nat}{o:Oper}{st:St}{ob:List Prop}{α:Type}{x:Option α}{k:α→Ans}(h:∀y,x=some y→Snd P n o st ob (k y)):Snd P n o st ob (x.bind k):=by
 intro rd f I e;rw[Ag] at e;obtain⟨y,h1,h2⟩:=e;exact h y h1 rd f I h2
theorem Snd.cond {P:Program}{n:Nat}{o:Oper}{st:St}{ob:List Prop}{b:Bool}{r:Ans}(h:b=true→Snd P n o st ob r):Snd P n o st ob (bif b then r else Option.none):=by
 cases b
 ·exact Snd.none
 ·exact h rfl
section
variable {P:Program}{n:Nat}{o:Oper}{st:St}{ob:List Prop}{tr:Tr}{md:Bool}
def aFj (o:Oper) (n:Nat) (st:St) (ob:List Prop) (x:Operand):Ans:=(opO st x).bind fun y=>val o n ⟨opr x,[]⟩ y [] ob
theorem aL4 {x:Operand}(J:o.op=.move x):Snd P n o st ob (aFj o n st ob x):=
 Snd.bind fun y hy=>Snd.val fun _ hd I hc=>⟨hc,aV9 J hd I (by rw[←cQ];exact hy)⟩
theorem aCc {x:Operand}(J:o.op=.assign x):Snd P n o st ob (aFj o n st ob x):=
 Snd.bind fun y hy=>Snd.val fun _ hd I hc=>⟨hc,aN8 J hd I (by rw[←cQ];exact hy)⟩
def aNh (hn:Hn) (b:Bool) (ob:List Prop):Bool×List Prop:=match hn with
 | .bv w=>(w,(b=w)::ob)
 | _=>match b with
  | true=>(true,ob)
  | false=>(false,ob)
theorem pP {hn:Hn}{b w:Bool}{ob I:List Prop}(h:aNh hn b ob=(w,I)):iC I→iC ob∧b=w:=by
 unfold aNh at h;split at h
 ·cases h;exact fun h=>⟨h.2,h.1⟩
 ·cases b<;>(cases h;exact fun h=>⟨h,rfl⟩)
def aRv (o:Oper) (n:Nat) (st:St) (ob:List Prop) (hn:Hn) (c x y:Operand):Ans:=(opO st c).bind fun v=>match v with
 | .one (.c (.bool b))=>match aNh hn b ob with
  | (true,ob')=>(opO st x).bind fun z=>val o n ⟨opr c++opr x,[]⟩ z [] ob'
  | (false,ob')=>(opO st y).bind fun z=>val o n ⟨opr c++opr y,[]⟩ z [] ob'
 | _=>none
theorem aL2 {hn:Hn}{c x y:Operand}(J:o.op=.pick c x y):Snd P n o st ob (aRv o n st ob hn c x y):=by
 refine Snd.bind fun v hv=>?_
 rw[cQ] at hv;split
 ·rename_i b;split
  ·rename_i N ht;refine Snd.bind fun z hz=>Snd.val fun _ hd I hc=>?_
   rw[cQ] at hz;obtain⟨h1,h2⟩:=pP ht hc;exact⟨h1,aN1 J hd I hv h2 hz⟩
  ·rename_i N ht;refine Snd.bind fun z hz=>Snd.val fun _ hd I hc=>?_
   rw[cQ] at hz;obtain⟨h1,h2⟩:=pP ht hc;exact⟨h1,aN2 J hd I hv h2 hz⟩
 ·exact Snd.none
def aAa (o:Oper) (n:Nat) (st:St) (ob:List Prop) (x:Operand) (i:Nat):Ans:=(opO st x).bind fun v=>match v with
 | .tup l=>(l[i]?).bind fun z=>val o n ⟨opr x,[]⟩ z [] ob
 | _=>none
theorem zZ {x:Operand}{i:Nat}(J:o.op=.extract x i):Snd P n o st ob (aAa o n st ob x i):=by
 refine Snd.bind fun v hv=>?_
 rw[cQ] at hv;split
 ·exact Snd.bind fun z hz=>Snd.val fun _ hd I hc=>⟨hc,aIw J hd I hv hz⟩
 ·exact Snd.none
def aMe (tr:Tr) (o:Oper) (n:Nat) (st:St) (ob:List Prop) (id:Nat) (t:TypeId):Ans:=(tr.get t).bind fun i=>(frc (i.zero.map R.c)).bind fun z=>match st.h id with
 | none=>val o n ⟨[],[id]⟩ (.one (.vp id 0)) [(id,some (.var t z))] ob
 | some _=>none
theorem aG0 {id:Nat}{t:TypeId}(hw:tr.wf=true) (J:Tok P tr.flat) (N:o.op=.alloc t):Snd P n o st ob (aMe tr o n st ob id t):=by
 refine Snd.bind fun i hi=>Snd.bind fun z hz=>?_
 rw[jZ] at hz;cases hz;split
 ·rename_i hid;exact Snd.val fun _ hd I hc=>⟨hc,aSv id J N hd I (Tr.get_ok hw hi) hid⟩
 ·exact Snd.none
def aX6 (o:Oper) (n:Nat) (st:St) (ob:List Prop) (id:Nat) (t:TypeId) (x:Operand):Ans:=(opO st x).bind fun v=>(nQ v).bind fun rs=>match st.h id with
 | none=>val o n ⟨opr x,[id]⟩ (.one (.vp id 0)) [(id,some (.var t rs))] ob
 | some _=>none
theorem aPs {id:Nat}{t:TypeId}{x:Operand}(N:o.op=.box t x):Snd P n o st ob (aX6 o n st ob id t x):=by
 refine Snd.bind fun v hv=>Snd.bind fun rs I=>?_
 rw[cQ] at hv;rw[iQ] at I;split
 ·rename_i hid;exact Snd.val fun _ hd J hc=>⟨hc,aZb id N hd J hv I hid⟩
 ·exact Snd.none
def aUb (tr:Tr) (o:Oper) (n:Nat) (st:St) (ob:List Prop) (id:Nat) (t:TypeId) (r:Option Operand):Ans:=match r with
 | some _=>none
 | none=>(tr.get t).bind fun i=>match i.k with
  | .mp _ e=>(tr.get e).bind fun ei=>match st.h id with
   | none=>val o n ⟨[],[id]⟩ (.one (.mr id)) [(id,some (.map ei.k.agg []))] ob
   | some _=>none
  | _=>none
theorem aPo {id:Nat}{t:TypeId}{r:Option Operand}(J:o.op=.makeMap t r):Snd P n o st ob (aUb tr o n st ob id t r):=by
 unfold aUb;split
 ·exact Snd.none
 ·refine Snd.bind fun i hi=>?_
  split
  ·refine Snd.bind fun O N=>?_
   split
   ·rename_i hid;exact Snd.val fun _ hd I hc=>⟨hc,aIo id _ J hd I hid⟩
   ·exact Snd.none
  ·exact Snd.none
def aVt (hn:Hn) (elems:List (List C)) (k:Nat) (ob:List Prop):Option (List C×List Prop):=match hn with
 | .row _ r=>some (r,(elems[k]?=some r)::ob)
 | _=>match elems[k]? with
  | some r=>some (r,ob)
  | none=>none
theorem aBe {hn:Hn}{elems:List (List C)}{k:Nat}{ob I:List Prop}{r:List C}(h:aVt hn elems k ob=some (r,I)):iC I→iC ob∧elems[k]?=some r:=by
 unfold aVt at h;split at h
 ·cases h;exact fun h=>⟨h.2,h.1⟩
 ·split at h
  ·rename_i h1;cases h;exact fun h=>⟨h,h1⟩
  ·cases h
def aNv (hn:Hn) (elems:List (List R)) (k:Nat) (ob:List Prop):Option (List R×List Prop):=match hn with
 | .rr r=>some (r,(elems[k]?=some r)::ob)
 | _=>match elems[k]? with
  | some r=>some (r,ob)
  | none=>none
theorem aDp {hn:Hn}{elems:List (List R)}{k:Nat}{ob I:List Prop}{r:List R}(h:aNv hn elems k ob=some (r,I)):iC I→iC ob∧elems[k]?=some r:=by
 unfold aNv at h;split at h
 ·cases h;exact fun h=>⟨h.2,h.1⟩
 ·split at h
  ·rename_i h1;cases h;exact fun h=>⟨h,h1⟩
  ·cases h
def aRw (tr:Tr) (md:Bool) (o:Oper) (n:Nat) (st:St) (ob:List Prop) (hn:Hn) (t:TypeId) (x:Operand):Ans:=(tr.get t).bind fun i=>(opO st x).bind fun v=>match v with
 | .one (.vp id off)=>match st.h id with
  | some (.var _ cells)=>bif Nat.ble (off+i.size) cells.length then(tak i.size (cells.drop off)).bind fun rs=>(aGg i rs).bind fun y=>val o n ⟨opr x,[id]⟩ y [] ob else none
  | _=>none
 | .one (.c (.pt l))=>(tak i.size l).bind fun cs=>(aEn i cs).bind fun y=>val o n ⟨opr x,[]⟩ y [] ob
 | .one (.pas l)=>(tak i.size l).bind fun cs=>(aGg i cs).bind fun y=>val o n ⟨opr x,[]⟩ y [] ob
 | .one (.ep id k fo sz)=>match st.h id with
  | some (.arr _ es elems _)=>(iI md (sz=elems.length) ob).bind fun ob1=>(aVt hn elems k ob1).bind fun(r,ob2)=>
   bif Nat.ble (fo+i.size) es then(tak i.size (r.drop fo)).bind fun cs=>(aEn i cs).bind fun y=>val o n ⟨opr x,[id]⟩ y [] ob2 else none
  | _=>none
 | .one (.rp id k fo sz)=>match st.h id with
  | some (.rarr _ es elems)=>(iI md (sz=elems.length) ob).bind fun ob1=>(aNv hn elems k ob1).bind fun(r,ob2)=>
   bif Nat.ble (fo+i.size) es then(tak i.size (r.drop fo)).bind fun cs=>(aGg i cs).bind fun y=>val o n ⟨opr x,[id]⟩ y [] ob2 else none
  | _=>none
 | _=>none
theorem aL5 {hn:Hn}{t:TypeId}{x:Operand}(hw:tr.wf=true) (N:Tok P tr.flat) (O:o.op=.load t x):Snd P n o st ob (aRw tr md o n st ob hn t x):=by
 refine Snd.bind fun i hi=>Snd.bind fun v hv=>?_
 rw[cQ] at hv
 replace hi:=Tr.get_ok hw hi
 split
 ·rename_i id off;split
  ·rename_i tv cells hh;refine Snd.cond fun hb=>Snd.bind fun rs W=>Snd.bind fun y hy=>Snd.val fun _ hd I hc=>⟨hc,?_⟩
   obtain⟨h1,h2⟩:=qU W;rw[qB,←h2] at hy;exact aWa N O hd I hi hv hh hb hy
  ·exact Snd.none
 ·rename_i l;refine Snd.bind fun cs J=>Snd.bind fun y hy=>Snd.val fun _ hd I hc=>⟨hc,?_⟩
  obtain⟨h1,h2⟩:=qU J;rw[yX,←h2] at hy;exact aIr N O hd I hi hv h1 hy
 ·rename_i l;refine Snd.bind fun cs J=>Snd.bind fun y hy=>Snd.val fun _ hd I hc=>⟨hc,?_⟩
  obtain⟨h1,h2⟩:=qU J;rw[qB,←h2] at hy;exact aF2 N O hd I hi hv h1 hy
 ·rename_i id k fo sz;split
  ·rename_i te es elems fz hh;refine Snd.bind fun Y h1=>Snd.bind fun p h2=>?_
   obtain⟨r,Z⟩:=p;refine Snd.cond fun h3=>Snd.bind fun cs J=>Snd.bind fun y hy=>Snd.val fun _ hd I hc=>?_
   obtain⟨g1,g2⟩:=aBe h2 hc;obtain⟨g3,g4⟩:=b6 h1 g1;obtain⟨h4,h5⟩:=qU J;rw[yX,←h5] at hy;exact⟨g3,aIs N O hd I hi hv hh g4 g2 (Ap h3) hy⟩
  ·exact Snd.none
 ·rename_i id k fo sz;split
  ·rename_i te es elems hh;refine Snd.bind fun Y h1=>Snd.bind fun p h2=>?_
   obtain⟨r,Z⟩:=p;refine Snd.cond fun h3=>Snd.bind fun cs J=>Snd.bind fun y hy=>Snd.val fun _ hd I hc=>?_
   obtain⟨g1,g2⟩:=aDp h2 hc;obtain⟨g3,g4⟩:=b6 h1 g1;obtain⟨h4,h5⟩:=qU J;rw[qB,←h5] at hy;exact⟨g3,aIq N O hd I hi hv hh g4 g2 (Ap h3) hy⟩
  ·exact Snd.none
 ·exact Snd.none
def aUq {α:Type}(l:List α) (off:Nat) (new:List α):Option (List α):=frc (bX l off new)
def aLz (tr:Tr) (md:Bool) (o:Oper) (st:St) (ob:List Prop) (hn:Hn) (t:TypeId) (x y:Operand):Ans:=(tr.get t).bind fun i=>(opO st x).bind fun v=>(opO st y).bind fun u=>(nQ u).bind fun rs=>bif Nat.beq rs.length i.size then(match v with
 | .one (.vp id off)=>match st.h id with
  | some (.var tv cells)=>bif Nat.ble (off+i.size) cells.length then(aUq cells off rs).bind fun cs=>eff o ⟨opr x++opr y,[id]⟩ [(id,some (.var tv cs))] ob else none
  | _=>none
 | .one (.ep id k fo sz)=>match st.h id with
  | some (.arr te es elems 0)=>(iS rs).bind fun cs=>(iI md (sz=elems.length) ob).bind fun ob1=>(aVt hn elems k ob1).bind fun(r,ob2)=>
   bif Nat.ble (fo+i.size) es then(aUq r fo cs).bind fun r'=>eff o ⟨opr x++opr y,[id]⟩ [(id,some (.arr te es (elems.set k r') 0))] ob2 else none
  | _=>none
 | .one (.rp id k fo sz)=>match st.h id with
  | some (.rarr te es elems)=>(iI md (sz=elems.length) ob).bind fun ob1=>(aNv hn elems k ob1).bind fun(r,ob2)=>
   bif Nat.ble (fo+i.size) es then(aUq r fo rs).bind fun r'=>eff o ⟨opr x++opr y,[id]⟩ [(id,some (.rarr te es (elems.set k r')))] ob2 else none
  | _=>none
 | _=>none) else none
theorem aGu {hn:Hn}{t:TypeId}{x y:Operand}(hw:tr.wf=true) (W:Tok P tr.flat) (Y:o.op=.store t x y):Snd P n o st ob (aLz tr md o st ob hn t x y):=by
 refine Snd.bind fun i hi=>Snd.bind fun v hv=>Snd.bind fun u hu=>Snd.bind fun rs N=>Snd.cond fun hl=>?_
 rw[cQ] at hv hu;rw[iQ] at N
 replace hi:=Tr.get_ok hw hi
 have O:=Ab hl;split
 ·rename_i id off;split
  ·rename_i tv cells hh;refine Snd.cond fun hb=>Snd.bind fun cs J=>Snd.eff fun hd hc=>⟨hc,?_⟩
   unfold aUq at J;rw[jZ] at J;cases J;exact aSm W Y hd hi hv hu N hh O hb
  ·exact Snd.none
 ·rename_i id k fo sz;split
  ·rename_i te es elems hh;refine Snd.bind fun cs J=>Snd.bind fun Z h1=>Snd.bind fun p h2=>?_
   obtain⟨r,aa⟩:=p;refine Snd.cond fun h3=>Snd.bind fun r' I=>Snd.eff fun hd hc=>?_
   obtain⟨g1,g2⟩:=aBe h2 hc;obtain⟨g3,g4⟩:=b6 h1 g1;unfold aUq at I;rw[jZ] at I;cases I;refine⟨g3,aFz W Y hd hi hv hu N J hh g4 g2 ?_ (Ap h3)⟩;have:=nE J;rw[this] at O;simpa using O
  ·exact Snd.none
 ·rename_i id k fo sz;split
  ·rename_i te es elems hh;refine Snd.bind fun Z h1=>Snd.bind fun p h2=>?_
   obtain⟨r,aa⟩:=p;refine Snd.cond fun h3=>Snd.bind fun r' I=>Snd.eff fun hd hc=>?_
   obtain⟨g1,g2⟩:=aDp h2 hc;obtain⟨g3,g4⟩:=b6 h1 g1;unfold aUq at I;rw[jZ] at I;cases I;exact⟨g3,aFy W Y hd hi hv hu N hh g4 g2 O (Ap h3)⟩
  ·exact Snd.none
 ·exact Snd.none
def s9 (tr:Tr) (md:Bool) (o:Oper) (n:Nat) (st:St) (ob:List Prop) (t:TypeId) (x:Operand) (f:Nat):Ans:=(tr.get t).bind fun i=>match i.k with
 | .st fs=>(fs[f]?).bind fun(foff,ft)=>(tr.get ft).bind fun fi=>bif Nat.ble 1 fi.size then((opO st x).bind fun v=>match v with
  | .one (.vp id off)=>val o n ⟨opr x,[]⟩ (.one (.vp id (off+foff))) [] ob
  | .one (.c (.pt l))=>val o n ⟨opr x,[]⟩ (.one (.c (.pt (l.drop foff)))) [] ob
  | .one (.pas l)=>val o n ⟨opr x,[]⟩ (.one (.pas (l.drop foff))) [] ob
  | .one (.ep id k fo sz)=>match st.h id with
   | some (.arr _ _ elems _)=>(iI md (sz=elems.length) ob).bind fun ob1=>val o n ⟨opr x,[id]⟩ (.one (.ep id k (fo+foff) sz)) [] ob1
   | _=>none
  | .one (.rp id k fo sz)=>match st.h id with
   | some (.rarr _ _ elems)=>(iI md (sz=elems.length) ob).bind fun ob1=>val o n ⟨opr x,[id]⟩ (.one (.rp id k (fo+foff) sz)) [] ob1
   | _=>none
  | _=>none) else none
 | _=>none
theorem sT {t:TypeId}{x:Operand}{f:Nat}(hw:tr.wf=true) (O:Tok P tr.flat) (W:o.op=.fieldAddr t x f):Snd P n o st ob (s9 tr md o n st ob t x f):=by
 refine Snd.bind fun i hi=>?_
 replace hi:=Tr.get_ok hw hi
 split
 ·rename_i fs hk;refine Snd.bind fun p hf=>?_
  obtain⟨Z,ft⟩:=p;refine Snd.bind fun fi J=>Snd.cond fun hz=>Snd.bind fun v hv=>?_
  replace J:=Tr.get_ok hw J
  have N:fi.size≠0:=by have:=Ap hz;omega
  rw[cQ] at hv;split
  ·exact Snd.val fun _ hd I hc=>⟨hc,aF4 O W hd I hi hk hf J N hv⟩
  ·exact Snd.val fun _ hd I hc=>⟨hc,aF6 O W hd I hi hk hf J N hv⟩
  ·exact Snd.val fun _ hd I hc=>⟨hc,aBi O W hd I hi hk hf J N hv⟩
  ·split
   ·rename_i hh;exact Snd.bind fun Y h1=>Snd.val fun _ hd I hc=>⟨(b6 h1 hc).1,aF7 O W hd I hi hk hf J N hv hh (b6 h1 hc).2⟩
   ·exact Snd.none
  ·split
   ·rename_i hh;exact Snd.bind fun Y h1=>Snd.val fun _ hd I hc=>⟨(b6 h1 hc).1,aF5 O W hd I hi hk hf J N hv hh (b6 h1 hc).2⟩
   ·exact Snd.none
  ·exact Snd.none
 ·exact Snd.none
def aL9 (tr:Tr) (o:Oper) (n:Nat) (st:St) (ob:List Prop) (t:TypeId) (x:Operand) (f:Nat):Ans:=(tr.get t).bind fun i=>match i.k with
 | .st fs=>(fs[f]?).bind fun(foff,ft)=>(tr.get ft).bind fun fi=>(opO st x).bind fun v=>(nQ v).bind fun rs=>
  bif (match v with | .pa _=>true | .ma _=>true | _=>false) then bif Nat.ble (foff+fi.size) rs.length then(tak fi.size (rs.drop foff)).bind fun l=>(aGg fi l).bind fun y=>val o n ⟨opr x,[]⟩ y [] ob else none else none
 | _=>none
theorem aGy {t:TypeId}{x:Operand}{f:Nat}(hw:tr.wf=true) (Y:Tok P tr.flat) (Z:o.op=.field t x f):Snd P n o st ob (aL9 tr o n st ob t x f):=by
 refine Snd.bind fun i hi=>?_
 replace hi:=Tr.get_ok hw hi
 split
 ·rename_i fs hk;refine Snd.bind fun p hf=>?_
  obtain⟨aa,ft⟩:=p;refine Snd.bind fun fi I=>Snd.bind fun v hv=>Snd.bind fun rs J=>Snd.cond fun N=>Snd.cond fun hl=>Snd.bind fun l O=>Snd.bind fun y hy=>?_
  replace I:=Tr.get_ok hw I
  rw[cQ] at hv;rw[iQ] at J;rw[qB,←(qU O).2] at hy;exact Snd.val fun _ hd W hc=>⟨hc,aSp Y Z hd W hi hk hf I hv (by cases v<;>first | rfl | exact N) J hl hy⟩
 ·exact Snd.none
def atO (hn:Hn) (m:Int) (ob:List Prop):Option (Nat×List Prop):=match hn with
 | .row k _=>some (k,(m=(k:Int))::ob)
 | .rowR k _=>some (k,(m=(k:Int))::ob)
 | _=>match m with
  | .ofNat k=>some (k,ob)
  | .negSucc _=>none
theorem uN {hn:Hn}{m:Int}{k:Nat}{ob I:List Prop}(h:atO hn m ob=some (k,I)):iC I→iC ob∧m=(k:Int):=by
 unfold atO at h;split at h
 ·cases h;exact fun h=>⟨h.2,h.1⟩
 ·cases h;exact fun h=>⟨h.2,h.1⟩
 ·split at h
  ·cases h;exact fun h=>⟨h,rfl⟩
  ·cases h
def aYm (a b:Nat):Option Nat:=match a with
 | 0=>some b
 | a+1=>some (a+1+b)
theorem aMq {a b c:Nat}(h:aYm a b=some c):a+b=c:=by
 unfold aYm at h;split at h<;>cases h
 ·exact Bd _
 ·rfl
def s8 (tr:Tr) (md:Bool) (o:Oper) (n:Nat) (st:St) (ob:List Prop) (hn:Hn) (t:TypeId) (x y:Operand):Ans:=(tr.get t).bind fun i=>match i.k with
 | .sl e=>(tr.get e).bind fun ei=>(opO st x).bind fun v=>(opO st y).bind fun u=>match u with
  | .one (.c (.int _ m))=>(atO hn m ob).bind fun(k,ob1)=>match v with
   | .one (.c (.sl es l))=>bif Nat.beq ei.size es then(aVt hn l k ob1).bind fun(r,ob2)=>val o n ⟨opr x++opr y,[]⟩ (.one (.c (.pt r))) [] ob2 else none
   | .one (.hs id off len sz)=>match st.h id with
    | some (.arr _ es elems _)=>bif Nat.beq ei.size es then(iI md (sz=elems.length) ob1).bind fun ob2=>(iI md (k<len) ob2).bind fun ob3=>(aYm off k).bind fun j=>val o n ⟨opr x++opr y,[id]⟩ (.one (.ep id j 0 sz)) [] ob3 else none
    | _=>none
   | .one (.ra id off len sz)=>match st.h id with
    | some (.rarr _ es elems)=>bif Nat.beq ei.size es then(iI md (sz=elems.length) ob1).bind fun ob2=>(iI md (k<len) ob2).bind fun ob3=>(aYm off k).bind fun j=>val o n ⟨opr x++opr y,[id]⟩ (.one (.rp id j 0 sz)) [] ob3 else none
    | _=>none
   | .one (.ras n' es l)=>bif Nat.beq ei.size es then(iI md (k<n') ob1).bind fun ob2=>match hn with
    | .rowR _ r=>val o n ⟨opr x++opr y,[]⟩ (.one (.pas r)) [] (((l.drop (k*es)).take es=r)::ob2)
    | _=>(frc ((l.drop (k*es)).take es)).bind fun r=>val o n ⟨opr x++opr y,[]⟩ (.one (.pas r)) [] ob2 else none
   | _=>none
  | _=>none
 | .ar m' e=>(tr.get e).bind fun ei=>(opO st x).bind fun v=>(opO st y).bind fun u=>match u with
  | .one (.c (.int _ m))=>(atO hn m ob).bind fun(k,ob1)=>match v with
   | .one (.vp id off)=>(iI md (k<m') ob1).bind fun ob2=>val o n ⟨opr x++opr y,[]⟩ (.one (.vp id (off+k*ei.size))) [] ob2
   | _=>none
  | _=>none
 | _=>none
theorem sS {hn:Hn}{t:TypeId}{x y:Operand}(hw:tr.wf=true) (W:Tok P tr.flat) (Y:o.op=.indexAddr t x y):Snd P n o st ob (s8 tr md o n st ob hn t x y):=by
 refine Snd.bind fun i hi=>?_
 replace hi:=Tr.get_ok hw hi
 split
 ·rename_i e hk;refine Snd.bind fun ei I=>Snd.bind fun v hv=>Snd.bind fun u hu=>?_
  replace I:=Tr.get_ok hw I
  rw[cQ] at hv hu;split
  ·rename_i kk m;refine Snd.bind fun p hp=>?_
   obtain⟨k,Z⟩:=p;dsimp only;split
   ·rename_i es l;refine Snd.cond fun N=>Snd.bind fun p h2=>?_
    obtain⟨r,O⟩:=p;refine Snd.val fun _ hd J hc=>?_
    obtain⟨g1,g2⟩:=aBe h2 hc;obtain⟨g3,g4⟩:=uN hp g1;exact⟨g3,aSo W Y hd J hi hk I (Ab N) hv hu g4 g2⟩
   ·rename_i id off len sz;split
    ·rename_i te es elems fz hh;refine Snd.cond fun N=>Snd.bind fun O h2=>Snd.bind fun aa h3=>Snd.bind fun j hj=>Snd.val fun _ hd J hc=>?_
     have hj:=aMq hj;subst hj;obtain⟨g1,g2⟩:=b6 h3 hc;obtain⟨g3,g4⟩:=b6 h2 g1;obtain⟨g5,g6⟩:=uN hp g3;exact⟨g5,tM W Y hd J hi hk I (Ab N) hv hh g4 hu g6 g2⟩
    ·exact Snd.none
   ·rename_i id off len sz;split
    ·rename_i te es elems hh;refine Snd.cond fun N=>Snd.bind fun O h2=>Snd.bind fun aa h3=>Snd.bind fun j hj=>Snd.val fun _ hd J hc=>?_
     have hj:=aMq hj;subst hj;obtain⟨g1,g2⟩:=b6 h3 hc;obtain⟨g3,g4⟩:=b6 h2 g1;obtain⟨g5,g6⟩:=uN hp g3;exact⟨g5,aF3 W Y hd J hi hk I (Ab N) hv hh g4 hu g6 g2⟩
    ·exact Snd.none
   ·rename_i n' es l;refine Snd.cond fun N=>Snd.bind fun O h2=>?_
    have N:=Ab N;split
    ·refine Snd.val fun _ hd J hc=>?_
     obtain⟨c1,c2⟩:=hc;obtain⟨g1,g2⟩:=b6 h2 c2;obtain⟨g3,g4⟩:=uN hp g1;exact⟨g3,r7 W Y hd J hi hk I N hv hu g4 g2 c1⟩
    ·refine Snd.bind fun r hr=>Snd.val fun _ hd J hc=>?_
     rw[jZ] at hr;cases hr;obtain⟨g1,g2⟩:=b6 h2 hc;obtain⟨g3,g4⟩:=uN hp g1;exact⟨g3,r7 W Y hd J hi hk I N hv hu g4 g2 rfl⟩
   ·exact Snd.none
  ·exact Snd.none
 ·rename_i m' e hk;refine Snd.bind fun ei I=>Snd.bind fun v hv=>Snd.bind fun u hu=>?_
  replace I:=Tr.get_ok hw I
  rw[cQ] at hv hu;split
  ·rename_i kk m;refine Snd.bind fun p hp=>?_
   obtain⟨k,Z⟩:=p;dsimp only;split
   ·rename_i id off;refine Snd.bind fun O h2=>Snd.val fun _ hd J hc=>?_
    obtain⟨g1,g2⟩:=b6 h2 hc;obtain⟨g3,g4⟩:=uN hp g1;exact⟨g3,aBh W Y hd J hi hk I hv hu g4 g2⟩
   ·exact Snd.none
  ·exact Snd.none
 ·exact Snd.none
def aX4 (md:Bool) (o:Oper) (n:Nat) (st:St) (ob:List Prop) (x:Operand):Ans:=(opO st x).bind fun v=>match v with
 | .one (.ep id k fo sz)=>match st.h id with
  | some (.arr _ _ elems _)=>(iI md (sz=elems.length) ob).bind fun ob1=>val o n ⟨opr x,[id]⟩ (.one (.ep id k fo sz)) [] ob1
  | _=>none
 | .one (.rp id k fo sz)=>match st.h id with
  | some (.rarr _ _ elems)=>(iI md (sz=elems.length) ob).bind fun ob1=>val o n ⟨opr x,[id]⟩ (.one (.rp id k fo sz)) [] ob1
  | _=>none
 | v=>bif notNil v then val o n ⟨opr x,[]⟩ v [] ob else none
theorem aPn {x:Operand}(J:o.op=.nilCheck x):Snd P n o st ob (aX4 md o n st ob x):=by
 refine Snd.bind fun v hv=>?_
 rw[cQ] at hv;split
 ·split
  ·rename_i hh;exact Snd.bind fun N h1=>Snd.val fun _ hd I hc=>⟨(b6 h1 hc).1,vU J hd I hv hh (b6 h1 hc).2⟩
  ·exact Snd.none
 ·split
  ·rename_i hh;exact Snd.bind fun N h1=>Snd.val fun _ hd I hc=>⟨(b6 h1 hc).1,vS J hd I hv hh (b6 h1 hc).2⟩
  ·exact Snd.none
 ·exact Snd.cond fun h=>Snd.val fun _ hd I hc=>⟨hc,aF0 J hd I hv h⟩
def rB (tr:Tr):List (Nat×TypeId)→Option (List (Nat×Nat))
 | []=>some []
 | (off,t)::fs=>(tr.get t).bind fun i=>(rB tr fs).bind fun l=>some ((off,i.size)::l)
theorem tU {tr:Tr}(hw:tr.wf=true):∀{fs:List (Nat×TypeId)}{l:List (Nat×Nat)},rB tr fs=some l→kP tr.flat fs=some l
 | [],l,h=>by simpa [rB,kP] using h
 | (off,t)::fs,l,h=>by
  simp only[rB,Ag] at h;obtain⟨i,hi,l',I,h⟩:=h;simp only[kP,Tr.get_ok hw hi,tU hw I,h]
def aD3 (st:St):List (Nat×Operand)→Option (List (Nat×List R))
 | []=>some []
 | (i,x)::ps=>(opO st x).bind fun v=>(nQ v).bind fun rs=>(aD3 st ps).bind fun l=>some ((i,rs)::l)
theorem yO (st:St):∀ps:List (Nat×Operand),aD3 st ps=oY st ps
 | []=>rfl
 | (i,x)::ps=>by
  simp only[aD3,oY,cQ,iQ,yO st ps];cases opv st x with
  | none=>rfl
  | some v=>
   simp only[Cl];cases hJ v with
   | none=>rfl
   | some rs=>
    simp only[Cl];cases oY st ps<;>rfl
def aPa (st:St):List Operand→Option (List R)
 | []=>some []
 | x::xs=>(opO st x).bind fun v=>match v with
  | .one r=>(aPa st xs).bind fun l=>some (r::l)
  | _=>none
theorem aE8 (st:St):∀xs:List Operand,aPa st xs=zH st xs
 | []=>rfl
 | x::xs=>by
  simp only[aPa,zH,cQ,aE8 st xs];cases opv st x with
  | none=>rfl
  | some v=>
   simp only[Cl];cases v<;>try rfl
   cases zH st xs<;>rfl
def aMd (tr:Tr) (o:Oper) (n:Nat) (st:St) (ob:List Prop) (t:TypeId) (parts:Array (Nat×Operand)):Ans:=(tr.get t).bind fun i=>match i.k with
 | .st fs=>(rB tr fs).bind fun places=>(aD3 st parts.toList).bind fun ps=>(aGm places (i.zero.map R.c) ps).bind fun out=>(frc out).bind fun out=>(aYl out).bind fun y=>val o n ⟨fU parts.toList,[]⟩ y [] ob
 | _=>none
theorem aGz {t:TypeId}{parts:Array (Nat×Operand)}(hw:tr.wf=true) (W:Tok P tr.flat) (Y:o.op=.build t parts):Snd P n o st ob (aMd tr o n st ob t parts):=by
 refine Snd.bind fun i hi=>?_
 replace hi:=Tr.get_ok hw hi
 split
 ·rename_i fs hk;refine Snd.bind fun places I=>Snd.bind fun ps J=>Snd.bind fun out hf=>Snd.bind fun Z N=>Snd.bind fun y hy=>Snd.val fun _ hd O hc=>⟨hc,?_⟩
  replace I:=tU hw I
  rw[yO] at J;rw[jZ] at N;cases N;rw[aMp] at hy;cases hy;exact aSu W Y hd O hi hk I J hf
 ·exact Snd.none
def nT (tr:Tr):Nat→List TypeId→List Nat
 | 0,_=>[]
 | _+1,[]=>[]
 | f+1,t::ts=>match tr.get t with
  | some i=>match i.k with
   | .sl e=>match tr.get e with
    | some ei=>(ei.size+1)::nT tr f ts
    | none=>0::nT tr f ts
   | .st fs=>nT tr f (fs.map (·.2)++ts)
   | _=>0::nT tr f ts
  | none=>0::nT tr f ts
def nrm:List Nat→List C→List C
 | _,[]=>[]
 | [],cs=>cs
 | 0::es,c::cs=>c::nrm es cs
 | (e+1)::es,c::cs=>(match c with | .nl=>.sl e [] | c=>c)::nrm es cs
theorem lU {h:cO}:∀(es:List Nat) (cs:List C),PureL h [] (cs.map R.c) (nrm es cs)
 | es,[]=>by cases es<;>exact .nil
 | [],c::cs=>.of_pure
 | 0::es,c::cs=>.c .refl (lU es cs)
 | (e+1)::es,c::cs=>by
  simp only[nrm,Al];split
  ·exact .c .nl (lU es cs)
  ·exact .c .refl (lU es cs)
def aHa:List Nat→List C→Option (List C)
 | _,[]=>some []
 | [],cs=>frc cs
 | 0::es,c::cs=>(aHa es cs).bind fun l=>some (c::l)
 | (e+1)::es,c::cs=>match c with
  | .nl=>(aHa es cs).bind fun l=>some (.sl e []::l)
  | c=>(aHa es cs).bind fun l=>some (c::l)
theorem rG:∀(es:List Nat) (cs:List C),aHa es cs=some (nrm es cs)
 | es,[]=>by cases es with
  | nil=>simp[aHa,nrm]
  | cons e es=>cases e<;>simp[aHa,nrm]
 | [],c::cs=>by simp[aHa,nrm,jZ]
 | 0::es,c::cs=>by simp[aHa,nrm,rG es cs]
 | (e+1)::es,c::cs=>by
  simp only[aHa,nrm,rG es cs,Cl];split<;>rfl
def aIf (st:St) (tys:List Nat) (es:Nat):Nat→List (Nat×Operand)→Option (List (List C))
 | _,[]=>some []
 | k,(i,x)::ps=>bif Nat.beq i k then(opO st x).bind fun v=>(nQ v).bind fun rs=>(iS rs).bind fun cs=>bif Nat.beq rs.length es then(aHa tys cs).bind fun cs=>(aIf st tys es (k+1) ps).bind fun l=>some (cs::l) else none else none
theorem aDo {st:St}{tys:List Nat}{es:Nat}:∀{ps:List (Nat×Operand)}{k:Nat}{l:List (List C)},aIf st tys es k ps=some l→RowsV st es k [] ps l
 | [],k,l,h=>by simp[aIf] at h;subst h;exact .nil
 | (i,x)::ps,k,l,h=>by
  simp only[aIf] at h;obtain⟨h0,h⟩:=eI h;have:=Ab h0;subst this;rw[Ag] at h;obtain⟨v,hv,h⟩:=h;rw[Ag] at h;obtain⟨rs,J,h⟩:=h;rw[Ag] at h;obtain⟨cs,N,h⟩:=h;obtain⟨hl,h⟩:=eI h;rw[Ag] at h;obtain⟨W,I,h⟩:=h;rw[rG] at I;cases I;rw[Ag] at h;obtain⟨l',O,h⟩:=h;cases h;rw[cQ] at hv;rw[iQ] at J;have hp:PureL st.h [] rs (nrm tys cs):=by rw[nE N];exact lU tys cs
  exact .cons (ids:=[]) hv J hp hl (aDo O)
def aL0 (tr:Tr) (o:Oper) (n:Nat) (st:St) (ob:List Prop) (hn:Hn) (id:Nat) (t:TypeId) (len:Nat) (parts:Array (Nat×Operand)):Ans:=(tr.get t).bind fun i=>match i.k with
 | .sl e=>(tr.get e).bind fun ei=>bif Nat.beq len parts.size&&(Nat.ble (len*ei.size) 16777216&&Nat.ble len 16777216) then(match st.h id with
  | none=>match aIf st (nT tr 300 [e]) ei.size 0 parts.toList with
   | some rows=>match hn with
    | .all=>val o n ⟨fU parts.toList,[id]⟩ (.one (.c (.sl ei.size rows))) [(id,some (.arr e ei.size rows 2))] ob
    | _=>val o n ⟨fU parts.toList,[id]⟩ (.one (.hs id 0 len len)) [(id,some (.arr e ei.size rows 0))] ob
   | none=>(vP st ei.size 0 parts.toList).bind fun rows=>val o n ⟨fU parts.toList,[id]⟩ (.one (.ra id 0 len len)) [(id,some (.rarr e ei.size rows))] ob
  | some _=>none) else none
 | _=>none
theorem aGv {hn:Hn}{id:Nat}{t:TypeId}{len:Nat}{parts:Array (Nat×Operand)}(hw:tr.wf=true) (W:Tok P tr.flat) (Y:o.op=.buildSlice t len parts):Snd P n o st ob (aL0 tr o n st ob hn id t len parts):=by
 refine Snd.bind fun i hi=>?_
 replace hi:=Tr.get_ok hw hi
 split
 ·rename_i e hk;refine Snd.bind fun Z I=>Snd.cond fun hb=>?_
  replace I:=Tr.get_ok hw I
  simp only[Ah] at hb;split
  ·rename_i hid;split
   ·rename_i rows N;have O:=aDo N;split
    ·exact Snd.val fun _ hd J hc=>⟨hc,aN0 id W Y hd J hi hk I O hb.1 hb.2.1 hb.2.2 hid⟩
    ·exact Snd.val fun _ hd J hc=>⟨hc,aIn id W Y hd J hi hk I O hb.1 hb.2.1 hb.2.2 hid⟩
   ·exact Snd.bind fun rows O=>Snd.val fun _ hd J hc=>⟨hc,aNz id W Y hd J hi hk I O hb.1 hb.2.1 hb.2.2 hid⟩
  ·exact Snd.none
 ·exact Snd.none
def aL8 (o:Oper) (n:Nat) (st:St) (ob:List Prop) (f:Fn) (first caps:Array Operand):Ans:=match f with
 | .func f=>match first.toList with
  | []=>(aPa st caps.toList).bind fun l=>val o n ⟨dP caps.toList,[]⟩ (.one (.clo f l)) [] ob
  | [x]=>match caps.toList with
   | []=>(opO st x).bind fun v=>match v with
    | .one c=>val o n ⟨opr x,[]⟩ (.one (.mth f c)) [] ob
    | _=>none
   | _=>none
  | _=>none
 | _=>none
theorem toList_nil {α:Type}{a:Array α}(h:a.toList=[]):a= #[]:=by
 cases a;simp at h;simp[h]
theorem aFu {α:Type}{a:Array α}{x:α}(h:a.toList=[x]):a= #[x]:=by
 cases a;simp at h;simp[h]
theorem aL7 {f:Fn}{first caps:Array Operand}(J:o.op=.makeFunc f first caps):Snd P n o st ob (aL8 o n st ob f first caps):=by
 unfold aL8;split
 ·rename_i f;split
  ·rename_i h1;have:=toList_nil h1;subst this;refine Snd.bind fun l hl=>Snd.val fun _ hd I hc=>⟨hc,aF1 J hd I (by rw[←aE8];exact hl)⟩
  ·rename_i x h1;have:=aFu h1;subst this;split
   ·rename_i h2;have:=toList_nil h2;subst this;refine Snd.bind fun v hv=>?_
    split
    ·exact Snd.val fun _ hd I hc=>⟨hc,yH J hd I (by rw[←cQ];exact hv)⟩
    ·exact Snd.none
   ·exact Snd.none
  ·exact Snd.none
 ·exact Snd.none
def aUx (st:St) (m:Nat):Option Operand→Option Nat
 | none=>some m
 | some x=>(opO st x).bind fun v=>match v with
  | .one (.c (.int _ (.ofNat k)))=>some k
  | _=>none
theorem lF {m k:Nat}{x:Option Operand}(h:aUx st m x=some k):BndV st x m k:=by
 cases x with
 | none=>cases h;exact .no
 | some x=>
  simp only[aUx,Ag,cQ] at h;obtain⟨v,hv,h⟩:=h;split at h
  ·cases h;exact .yes hv
  ·cases h
def aYj {α:Type}(l:List α) (lo hi:Nat) (low high:Option Operand):Option (List α):=match low,high with
 | none,none=>some l
 | none,some _=>some (l.take hi)
 | some _,none=>some (l.drop lo)
 | some _,some _=>some ((l.take hi).drop lo)
theorem aLc {α:Type}{l r:List α}{lo hi:Nat}{low high:Option Operand}(h1:BndV st low 0 lo) (h2:BndV st high l.length hi) (h:aYj l lo hi low high=some r):r=(l.take hi).drop lo:=by
 cases h1<;>cases h2<;>simp[aYj] at h<;>simp[h]
def aUd (tr:Tr) (md:Bool) (o:Oper) (n:Nat) (st:St) (ob:List Prop) (t:TypeId) (x:Operand) (low high mx:Option Operand):Ans:=match mx with
 | some _=>none
 | none=>(tr.get t).bind fun i=>(opO st x).bind fun v=>match i.k with
  | .sl e=>(tr.get e).bind fun ei=>match v with
   | .one (.c (.sl es l))=>bif Nat.beq ei.size es then(aUx st 0 low).bind fun lo=>(aUx st l.length high).bind fun hi=>(iI md (lo≤hi) ob).bind fun ob1=>(iI md (hi≤l.length) ob1).bind fun ob2=>
     (aYj l lo hi low high).bind fun r=>val o n ⟨opr x++aPl low++aPl high,[]⟩ (.one (.c (.sl es r))) [] ob2 else none
   | _=>none
  | .str=>match v with
   | .one (.c (.str s))=>(aUx st 0 low).bind fun lo=>(aUx st s.length high).bind fun hi=>(iI md (lo≤hi) ob).bind fun ob1=>(iI md (hi≤s.length) ob1).bind fun ob2=>
     (aYj s lo hi low high).bind fun r=>val o n ⟨opr x++aPl low++aPl high,[]⟩ (.one (.c (.str r))) [] ob2
   | _=>none
  | _=>none
theorem aPr {t:TypeId}{x:Operand}{low high Z:Option Operand}(hw:tr.wf=true) (hT:Tok P tr.flat) (ho:o.op=.slice t x low high Z):Snd P n o st ob (aUd tr md o n st ob t x low high Z):=by
 unfold aUd;split
 ·exact Snd.none
 ·refine Snd.bind fun i N=>Snd.bind fun v hv=>?_
  replace N:=Tr.get_ok hw N
  rw[cQ] at hv;split
  ·rename_i e hk;refine Snd.bind fun ei O=>?_
   replace O:=Tr.get_ok hw O
   split
   ·rename_i es l;refine Snd.cond fun hes=>Snd.bind fun lo I=>Snd.bind fun hi J=>Snd.bind fun ob1 h1=>Snd.bind fun ob2 h2=>Snd.bind fun r Y=>Snd.val fun _ hd W hc=>?_
    obtain⟨g1,g2⟩:=b6 h2 hc;obtain⟨g3,g4⟩:=b6 h1 g1;rw[aLc (lF I) (lF J) Y];exact⟨g3,aZa hT ho hd W N hk O (Ab hes) hv (lF I) (lF J) g4 g2⟩
   ·exact Snd.none
  ·rename_i hk;split
   ·rename_i s;refine Snd.bind fun lo I=>Snd.bind fun hi J=>Snd.bind fun ob1 h1=>Snd.bind fun ob2 h2=>Snd.bind fun r Y=>Snd.val fun _ hd W hc=>?_
    obtain⟨g1,g2⟩:=b6 h2 hc;obtain⟨g3,g4⟩:=b6 h1 g1;rw[aLc (lF I) (lF J) Y];exact⟨g3,aVz hT ho hd W N hk hv (lF I) (lF J) g4 g2⟩
   ·exact Snd.none
  ·exact Snd.none
def aL6 (tr:Tr) (o:Oper) (n:Nat) (st:St) (ob:List Prop) (hn:Hn) (t:TypeId) (x y:Operand):Ans:=(tr.get t).bind fun i=>match i.k with
 | .str=>(opO st x).bind fun v=>(opO st y).bind fun u=>match v,u with
  | .one (.c (.str s)),.one (.c (.int _ m))=>match hn with
   | .byte k b=>val o n ⟨opr x++opr y,[]⟩ (.one (.c (.int .u8 ((b.toNat:Nat):Int)))) [] ((m=(k:Int)∧s[k]?=some b)::ob)
   | _=>match m with
    | .ofNat k=>(s[k]?).bind fun b=>val o n ⟨opr x++opr y,[]⟩ (.one (.c (.int .u8 ((b.toNat:Nat):Int)))) [] ob
    | _=>none
  | _,_=>none
 | _=>none
theorem aGw {hn:Hn}{t:TypeId}{x y:Operand}(hw:tr.wf=true) (J:Tok P tr.flat) (N:o.op=.index t x y):Snd P n o st ob (aL6 tr o n st ob hn t x y):=by
 refine Snd.bind fun i hi=>?_
 replace hi:=Tr.get_ok hw hi
 split
 ·rename_i hk;refine Snd.bind fun v hv=>Snd.bind fun u hu=>?_
  rw[cQ] at hv hu;split
  ·split
   ·exact Snd.val fun _ hd I hc=>⟨hc.2,aQk J N hd I hi hk hv hu hc.1.1 hc.1.2⟩
   ·split
    ·exact Snd.bind fun b hb=>Snd.val fun _ hd I hc=>⟨hc,aQk J N hd I hi hk hv hu rfl hb⟩
    ·exact Snd.none
  ·exact Snd.none
 ·exact Snd.none
def aJq:List (List C)→Bool
 | []=>true
 | (.str _::_)::r=>aJq r
 | _::_=>false
theorem yR:∀l:List (List C),aJq l=true↔jY l
 | []=>by simp[aJq,jY]
 | []::r=>by simp[aJq,jY]
 | (c::vs)::r=>by
  cases c<;>simp[aJq,jY];exact yR r
instance (l:List (List C)):Decidable (jY l):=decidable_of_iff _ (yR l)
def aO8 (st:St) (agg:Bool):V→Option (List Nat×List (List C))
 | .one (.mr id)=>match st.h id with
  | some (.map a ents)=>bif a==agg then some ([id],ents) else none
  | _=>none
 | .one (.c (.mp a ents))=>bif a==agg then some ([],ents) else none
 | .one (.c (.zv 0))=>some ([],[])
 | _=>none
theorem x6 {st:St}{agg:Bool}{v:V}{ids:List Nat}{ents:List (List C)}(h:aO8 st agg v=some (ids,ents)):MapE st ids v agg ents:=by
 unfold aO8 at h;split at h
 ·split at h
  ·rename_i hh;obtain⟨h1,h2⟩:=eI h;cases h2;exact .mr (by rw[hh,eq_of_beq h1])
  ·cases h
 ·obtain⟨h1,h2⟩:=eI h;cases h2;rw[eq_of_beq h1];exact .mp
 ·cases h;exact .nil
 ·cases h
def aTn (md:Bool) (hn:Hn) (k:List UInt8) (ents:List (List C)) (ob:List Prop):Option (Option (List C)×List Prop):=match hn with
 | .look r=>some (r,(iT k ents=r)::ob)
 | _=>bif md then some (iT k ents,ob) else match iT k ents with
  | some r=>some (some r,ob)
  | none=>some (none,ob)
theorem aEy {md:Bool}{hn:Hn}{k:List UInt8}{ents:List (List C)}{ob I:List Prop}{r:Option (List C)}(h:aTn md hn k ents ob=some (r,I)):iC I→iC ob∧iT k ents=r:=by
 unfold aTn at h;split at h
 ·cases h;exact fun h=>⟨h.2,h.1⟩
 ·cases md
  ·simp only[Bn] at h;split at h
   ·rename_i h1;cases h;exact fun h=>⟨h,h1⟩
   ·rename_i h1;cases h;exact fun h=>⟨h,h1⟩
  ·cases h;exact fun h=>⟨h,rfl⟩
def zY (tr:Tr) (md:Bool) (o:Oper) (n:Nat) (st:St) (ob:List Prop) (hn:Hn) (t:TypeId) (x y:Operand) (ok:Bool):Ans:=(tr.get t).bind fun i=>match i.k with
 | .mp kt et=>(tr.get kt).bind fun ki=>(tr.get et).bind fun ei=>match ki.k with
  | .str=>(opO st x).bind fun v=>(aO8 st ei.k.agg v).bind fun(ids,ents)=>(opO st y).bind fun u=>match u with
   | .one (.c (.str k))=>(iI md (jY ents) ob).bind fun ob1=>(aTn md hn k ents ob1).bind fun(r,ob2)=>match ok with
    | true=>val o n ⟨opr x++opr y,ids⟩ (.tup [pK ei r,.one (.c (.bool (aGf r)))]) [] ob2
    | false=>val o n ⟨opr x++opr y,ids⟩ (pK ei r) [] ob2
   | _=>none
  | _=>none
 | _=>none
theorem zX {hn:Hn}{t:TypeId}{x y:Operand}{ok:Bool}(hw:tr.wf=true) (W:Tok P tr.flat) (Y:o.op=.lookup t x y ok):Snd P n o st ob (zY tr md o n st ob hn t x y ok):=by
 refine Snd.bind fun i hi=>?_
 replace hi:=Tr.get_ok hw hi
 split
 ·rename_i kt et hk;refine Snd.bind fun ki I=>Snd.bind fun ei J=>?_
  replace I:=Tr.get_ok hw I
  replace J:=Tr.get_ok hw J
  split
  ·rename_i O;refine Snd.bind fun v hv=>Snd.bind fun p hp=>?_
   obtain⟨ids,ents⟩:=p;refine Snd.bind fun u hu=>?_
   rw[cQ] at hv hu;split
   ·rename_i k;refine Snd.bind fun Z h1=>Snd.bind fun p h2=>?_
    obtain⟨r,aa⟩:=p;dsimp only;split
    ·refine Snd.val fun _ hd N hc=>?_
     obtain⟨g1,g2⟩:=aEy h2 hc;obtain⟨g3,g4⟩:=b6 h1 g1;have:=vV W Y hd N hi hk I O J rfl hv (x6 hp) g4 hu g2;exact⟨g3,by simpa using this⟩
    ·refine Snd.val fun _ hd N hc=>?_
     obtain⟨g1,g2⟩:=aEy h2 hc;obtain⟨g3,g4⟩:=b6 h1 g1;have:=vV W Y hd N hi hk I O J rfl hv (x6 hp) g4 hu g2;exact⟨g3,by simpa using this⟩
   ·exact Snd.none
  ·exact Snd.none
 ·exact Snd.none
def zW (tr:Tr) (md:Bool) (o:Oper) (n:Nat) (st:St) (ob:List Prop) (w:V) (t:TypeId) (x y:Operand):Ans:=(tr.get t).bind fun i=>match i.k with
 | .mp kt et=>(tr.get kt).bind fun ki=>(tr.get et).bind fun ei=>match ki.k with
  | .str=>(opO st x).bind fun v=>(aO8 st ei.k.agg v).bind fun(ids,ents)=>(opO st y).bind fun u=>match u with
   | .one (.c (.str k))=>(iI md (jY ents) ob).bind fun ob1=>val o n ⟨opr x++opr y,ids⟩ w [] ((pK ei (iT k ents)=w)::ob1)
   | _=>none
  | _=>none
 | _=>none
theorem zU {w:V}{t:TypeId}{x y:Operand}(hw:tr.wf=true) (W:Tok P tr.flat) (Y:o.op=.lookup t x y false):Snd P n o st ob (zW tr md o n st ob w t x y):=by
 refine Snd.bind fun i hi=>?_
 replace hi:=Tr.get_ok hw hi
 split
 ·rename_i kt et hk;refine Snd.bind fun ki I=>Snd.bind fun ei J=>?_
  replace I:=Tr.get_ok hw I
  replace J:=Tr.get_ok hw J
  split
  ·rename_i N;refine Snd.bind fun v hv=>Snd.bind fun p hp=>?_
   obtain⟨ids,ents⟩:=p;refine Snd.bind fun u hu=>?_
   rw[cQ] at hv hu;split
   ·rename_i k;refine Snd.bind fun Z h1=>Snd.val fun _ hd O hc=>?_
    obtain⟨g3,g4⟩:=b6 h1 hc.2;have:=vV W Y hd O hi hk I N J rfl hv (x6 hp) g4 hu rfl;refine⟨g3,?_⟩;rw[←hc.1];simpa using this
   ·exact Snd.none
  ·exact Snd.none
 ·exact Snd.none
def xI (tr:Tr) (md:Bool) (o:Oper) (n:Nat) (st:St) (ob:List Prop) (hn:Hn) (t:TypeId) (x y:Operand) (ok:Bool):Ans:=match ok,hn with
 | false,.pc w=>zW tr md o n st ob w t x y
 | ok,hn=>zY tr md o n st ob hn t x y ok
theorem aB9 {hn:Hn}{t:TypeId}{x y:Operand}{ok:Bool}(hw:tr.wf=true) (I:Tok P tr.flat) (J:o.op=.lookup t x y ok):Snd P n o st ob (xI tr md o n st ob hn t x y ok):=by
 unfold xI;split
 ·exact zU hw I J
 ·exact zX hw I J
def aWn (md:Bool) (k:List UInt8) (cs:List C) (ents:List (List C)):Option (List (List C)):=bif md then some (aGc k cs ents) else frc (aGc k cs ents)
theorem aD7 (md:Bool) (k:List UInt8) (cs:List C) (ents:List (List C)):aWn md k cs ents=some (aGc k cs ents):=by
 cases md
 ·exact jZ _
 ·rfl
def jS (tr:Tr) (md:Bool) (o:Oper) (st:St) (ob:List Prop) (t:TypeId) (x y z:Operand):Ans:=(tr.get t).bind fun i=>match i.k with
 | .mp kt _=>(tr.get kt).bind fun ki=>match ki.k with
  | .str=>(opO st x).bind fun v=>match v with
   | .one (.mr id)=>match st.h id with
    | some (.map agg ents)=>(opO st y).bind fun u=>match u with
     | .one (.c (.str k))=>(opO st z).bind fun v=>bif (match v with | .one _=>!agg | .pa _=>agg | .ma _=>agg | _=>false) then(nQ v).bind fun rs=>
      (iI md (jY ents) ob).bind fun ob1=>(aWn md k (aWg rs) ents).bind fun e'=>eff o ⟨opr x++opr y++opr z,[id]⟩ [(id,some (.map agg e'))] ob1 else none
     | _=>none
    | _=>none
   | _=>none
  | _=>none
 | _=>none
theorem sR {t:TypeId}{x y z:Operand}(hw:tr.wf=true) (W:Tok P tr.flat) (Y:o.op=.mapUpdate t x y z):Snd P n o st ob (jS tr md o st ob t x y z):=by
 refine Snd.bind fun i hi=>?_
 replace hi:=Tr.get_ok hw hi
 split
 ·rename_i kt et hk;refine Snd.bind fun ki I=>?_
  replace I:=Tr.get_ok hw I
  split
  ·rename_i N;refine Snd.bind fun v hv=>?_
   rw[cQ] at hv;split
   ·rename_i id;split
    ·rename_i agg ents hh;refine Snd.bind fun u hu=>?_
     rw[cQ] at hu;split
     ·rename_i k;refine Snd.bind fun z hz=>Snd.cond fun O=>Snd.bind fun rs J=>Snd.bind fun Z h1=>Snd.bind fun e' he=>Snd.eff fun hd hc=>?_
      rw[cQ] at hz;rw[iQ] at J;rw[aD7] at he;cases he;obtain⟨g1,g2⟩:=b6 h1 hc;exact⟨g1,aBg (ids:=[]) W Y hd hi hk I N hv hh g2 hu hz (by cases z<;>first | rfl | exact O) J .ofA⟩
     ·exact Snd.none
    ·exact Snd.none
   ·exact Snd.none
  ·exact Snd.none
 ·exact Snd.none
theorem aCa {t:TypeId}{x y z:Operand}(hw:tr.wf=true) (W:Tok P tr.flat) (Y:o.op=.insert t x y z):Snd P n o st ob (jS tr md o st ob t x y z):=by
 refine Snd.bind fun i hi=>?_
 replace hi:=Tr.get_ok hw hi
 split
 ·rename_i kt et hk;refine Snd.bind fun ki I=>?_
  replace I:=Tr.get_ok hw I
  split
  ·rename_i N;refine Snd.bind fun v hv=>?_
   rw[cQ] at hv;split
   ·rename_i id;split
    ·rename_i agg ents hh;refine Snd.bind fun u hu=>?_
     rw[cQ] at hu;split
     ·rename_i k;refine Snd.bind fun z hz=>Snd.cond fun O=>Snd.bind fun rs J=>Snd.bind fun Z h1=>Snd.bind fun e' he=>Snd.eff fun hd hc=>?_
      rw[cQ] at hz;rw[iQ] at J;rw[aD7] at he;cases he;obtain⟨g1,g2⟩:=b6 h1 hc;exact⟨g1,aN7 (ids:=[]) W Y hd hi hk I N hv hh g2 hu hz (by cases z<;>first | rfl | exact O) J .ofA⟩
     ·exact Snd.none
    ·exact Snd.none
   ·exact Snd.none
  ·exact Snd.none
 ·exact Snd.none
end
end Go.AM
