/-
  Texts Ly11 to Lq14 in one.
-/
import Derived.Test.YtockgoadliilhaaGreatDoorM10
import Derived.Shelf.Strconv.Itoa3
import Derived.Lib.LaidTab
open List (append_assoc append_nil drop_eq_getElem_cons drop_length drop_zero flatMap_append flatMap_cons flatMap_nil length_append length_cons length_eq_one_iff length_eq_zero_iff length_map length_set length_take map_append map_cons map_nil mem_append mem_cons mem_cons_of_mem mem_cons_self mem_flatMap mem_map mem_of_mem_take mem_or_eq_of_mem_set mem_singleton of_mem_zip set_cons_succ sum_cons sum_nil take_add_one take_length take_of_length_le take_succ_cons take_zero)
open Nat (add_mul le_refl le_trans lt_of_lt_of_le mul_add mul_comm mul_le_mul mul_le_mul_left mul_le_mul_right mul_left_comm mul_one zero_add zero_le)
namespace Go.Proofs.YtockgoadliilhaaGreatDoor
open Go Go.AM
set_option maxRecDepth 20000
set_option maxHeartbeats 4000000
theorem rC {l:List Core}:∀i,((l.take i).flatMap pfR).length≤(l.map m30).sum:=by
 induction l with
 | nil=>intro i;simp
 | cons c l I=>
  intro i;cases i with
  | zero=>simp
  | succ i=>
   rw[Az,Ci,Aa,Al,Cb];have:=jX c;have:=I i;omega
theorem yM {l:List Core}{i:Nat}{b:Core}(h:l[i]?=some b):(l.take (i+1)).flatMap pfR=(l.take i).flatMap pfR++pfR b:=by
 rw[Bh,h,flatMap_append];simp
theorem aSw (hI:cK 540000000000) {D M X B:Nat}(W:M+D≤700000) (hX:31≤X) (c:Core) (names:List Str) (l:List Core) (hl:names.length=l.length) (hl2:l.length≤1000000) (J:PO D M X B c l):
  (∀x∈o6 (fN c l) names.length,x.length≤30)∧(∀i,∀p∈(names.zip (o6 (fN c l) names.length)).take i,p.2.length≤30)∧
  ∀i,i≤l.length→P2 X B c l (o6 (fN c l) names.length) i (kN (fY c (names.zip (o6 (fN c l) names.length))) (((o6 (fN c l) names.length).zip l).take i)):=by
 have hBig:Big=250000000000:=rfl;have Y:=J.cg;have hcsz:=Y.sz;have hpfc:=jX c;have N:=J.bsum;have hfl:∀i,((l.take i).flatMap pfR).length≤250000000000:=fun i=>le_trans (rC i) N
 have O:fN c l=pfR c++(l.take l.length).flatMap pfR:=by rw[Au];rfl
 have htkl:(fN c l).length≤500000000000:=by rw[O,Aa];have:=hfl l.length;omega
 have hNle:=aBm (fN c l) names.length;have I:∀x∈o6 (fN c l) names.length,x.length≤30:=fun x hx=>by
  obtain⟨_,_,m,hm,rfl⟩:=pW hx
  exact aWl (lt_of_lt_of_le hm (by
    have:600000000000≤10^29:=by decide
    omega))
 have hownL:=pX (fN c l) names.length;have Z:∀p∈names.zip (o6 (fN c l) names.length),p.2.length≤30:=fun p hp=>I p.2 (of_mem_zip (a:=p.1) (b:=p.2) hp).2
 have ab:∀i,∀p∈(names.zip (o6 (fN c l) names.length)).take i,p.2.length≤30:=fun i p hp=>Z p (Bs hp)
 have aa:=vW hI W hX (names.zip (o6 (fN c l) names.length)) c Y Z;have htk:∀b∈l,∀x∈pfR b,x∈fN c l:=fun b hb x hx=>ω.2 (.inr (Ck.2 ⟨b,hb,hx⟩))
 have hP2:∀i,i≤l.length→P2 X B c l (o6 (fN c l) names.length) i (kN (fY c (names.zip (o6 (fN c l) names.length))) (((o6 (fN c l) names.length).zip l).take i)):=by
  intro i
  induction i with
  | zero=>intro _;exact P2.zero J aa.1 aa.2.q
  | succ i ih=>
   intro hi;obtain⟨b,hb⟩:=aK (show i<l.length by omega);obtain⟨s,hs⟩:=aK (show i<(o6 (fN c l) names.length).length by omega);have:=(P2.step hI W hX J htk (ih (by omega)) (η hs) (I s (η hs)) hb).2
   unfold kN at this ⊢;rw[rW _ _ hs hb];exact this
 exact⟨I,ab,hP2⟩
theorem aPg (hI:cK 540000000000) {D M X B:Nat}(ab:M+D≤700000) (hX:31≤X) (c:Core) (names:List Str) (l:List Core) (hl:names.length=l.length) (hl2:l.length≤1000000) (ho:PO D M X B c l):
  aW Tryz.prog 108 [.pa (aB c),bN names,.one (.c (.sl 10 (l.map aB)))] [] (.pa (aB (xR c names l))) []∧PR X B c l (xR c names l):=by
 have hBig:Big=250000000000:=rfl;have hcg:=ho.cg;have hcs:=bZ c;have hcsz:=hcg.sz;have hpfc:=jX c;have hbsum:=ho.bsum;have hfl:∀i,((l.take i).flatMap pfR).length≤250000000000:=fun i=>le_trans (rC i) hbsum
 have hfr:=aPh c (by omega);have hkL:(l.map aB).length=l.length:=ξ _;have ac:(names.map bO).length=names.length:=ξ _;have ad:fN c l=pfR c++(l.take l.length).flatMap pfR:=by rw[Au];rfl
 have htkl:(fN c l).length≤500000000000:=by rw[ad,Aa];have:=hfl l.length;omega
 have hNle:=aBm (fN c l) names.length;obtain⟨Y,hzpi,hP2⟩:=aSw hI ab hX c names l hl hl2 ho;have hownL:=pX (fN c l) names.length;have hkO:((o6 (fN c l) names.length).map bO).length=(o6 (fN c l) names.length).length:=ξ _;have htk:∀b∈l,∀x∈pfR b,x∈fN c l:=fun b hb x hx=>ω.2 (.inr (Ck.2 ⟨b,hb,hx⟩))
 have hzl:((o6 (fN c l) names.length).zip l).length=l.length:=by rw[List.length_zip];omega
 have hfin:=hP2 l.length (le_refl _);rw[←hzl,Au,hzl] at hfin;refine⟨?_,hfin.fin ho⟩;refine bT (n:=80) tok Tryz.func108 rfl rfl rfl ?_;refine sg rfl (sk 1 rfl (kc hfr ?_));refine kz 1 rfl (a8 (sg rfl (aC (aL (fun i:Nat=>mk [(1,bN names),(2,.one (.c (.sl 10 (l.map aB)))),(3,.one (.vp 3 0)),(6,.one (.vp 6 0)),(7,ouV (pfR c++(l.take i).flatMap pfR)),(19,.one (.c (.sl 10 (l.map aB)))),(20,I .i64 ((l.map aB).length:Int)),(21,I .i64 i)] [(3,.var 37 (b9 c)),(6,.var 37 bM),(500,ouO (pfR c++(l.take i).flatMap pfR))]) (fun i=>i≤l.length) (fun i=>l.length-i) 0 (Ak _) (by rw[Cm,Cy,A8];exact sl) ?_))));intro i hi;refine sg rfl (a8 (aA rfl (fun hb=>?_) (fun hb=>?_)))
 ·have J:=ltD hb hkL;obtain⟨b,N⟩:=aK J;have hb':=bJ aB N;have hbm:=η N;have hbs:=bZ b;have hcb:=(ho.cgb hbm).sz;have hfb:=oN (aU b) b (le_refl _) (by omega);have W:=yM N;have h1:=hfl i;have h2:=jX b;have hx0:(pfR c++(l.take i).flatMap pfR).length≤500000000000:=by rw[Aa];omega
  generalize hG:(l.take i).flatMap pfR=G at W hx0;generalize pfR b=F at hfb W h2;have hkF:(F.map bO).length=F.length:=ξ _;have hkx:((pfR c++G).map bO).length=(pfR c++G).length:=ξ _;refine aD (a8 (aC (sgh [(0,.row i (aB b))] rfl (aE mixed (ak 2 [] rfl (kc hfb ?_))))));refine kz 2 rfl (ag [] rfl ⟨i+1,J,by dsimp only;omega,?_⟩);dsimp only;rw[W,←Aw];exact sl (he:=⟨rfl,rfl,rfl,rfl,Go.AM.hs_ren (by simp;omega) (by simp;omega),rfl,rfl,rfl,trivial⟩) (hh:=⟨⟨_,rfl,.varS rfl⟩,⟨_,rfl,.varS rfl⟩,⟨_,rfl,.arrS (by simp)⟩,trivial⟩)
 have Z:=geD hb hkL hi;subst Z;rw[←ad];refine aM (AWp.sub (Sub.freeze (id:=500) rfl) ?_);refine sg rfl (a8 (sg rfl (AWp.sub (Sub.own (t:=10) (id:=720) 9 1 rfl rfl) ?_)));refine aC ?_;have hO:∀n,((lS (fN c l) n).map bO).length=(lS (fN c l) n).length:=fun n=>ξ _
 refine aL (fun n:Nat=>mk [(1,bN names),(2,.one (.c (.sl 10 (l.map aB)))),(3,.one (.vp 3 0)),(6,.one (.vp 6 0)),(7,ouV (fN c l)),(10,.one (.hs 720 0 (lS (fN c l) n).length (lS (fN c l) n).length)),(11,I .i64 n)] [(3,.var 37 (b9 c)),(6,.var 37 bM),(500,.arr 9 1 ((fN c l).map bO) 2),(720,.arr 9 1 ((lS (fN c l) n).map bO) 0)]) (fun n=>n≤aG8 (fN c l) names.length) (fun n=>aG8 (fN c l) names.length-n) 0 (Ak _) sl ?_;intro n hn;have hct:=bU (fN c l) (pcN n) (by omega);have hit:=hI n (by omega);refine a8 (sg rfl (aA rfl (fun hb=>?_) (fun hb=>?_)))
 ·have J:n<aG8 (fN c l) names.length:=by
   have hb:((lS (fN c l) n).length:Int)<((names.map bO).length:Int):=φ hb;rw[ac] at hb;by_cases h:n<aG8 (fN c l) names.length
   ·exact h
   ·have e:n=aG8 (fN c l) names.length:=by omega
    rw[e] at hb;have:(lS (fN c l) (aG8 (fN c l) names.length)).length=names.length:=pX _ _;omega
  have hll:(lS (fN c l) n).length≤1000000:=by have:=aJk _ _ J;omega
  have hdl:=aB1 n (by omega);have hM:600000000000≤maxLen:=by decide
  have aa:=rE (fN c l) n;refine aD (a8 (aC (sk 1 rfl (kc hit ?_))));refine ak 2 [] rfl ?_ (hc:=by repeat (first | exact trivial | refine⟨by first | rfl | omega | (simp;omega),?_⟩));refine az (sk 2 rfl (kc hct ?_));refine kz 1 rfl (aA rfl (fun hb=>?_) (fun hb=>?_))
  ·have hni:¬pcN n∈fN c l:=by simpa using hb
   rw[ψ hni] at aa;generalize lS (fN c l) n=O at aa hll;refine ag [(2,.all)] rfl (ag [] rfl ⟨n+1,J,by dsimp only;omega,?_⟩);dsimp only;rw[aa];exact sl
  ·have hni:pcN n∈fN c l:=by simpa using hb
   rw[θ hni] at aa;refine aD (ag [] rfl ⟨n+1,J,by dsimp only;omega,?_⟩);dsimp only;rw[aa];exact sl
 have heN:n=aG8 (fN c l) names.length:=by
  have hb:¬((lS (fN c l) n).length:Int)<((names.map bO).length:Int):=δ hb;rw[ac] at hb;by_cases h:n<aG8 (fN c l) names.length
  ·have:=aJk _ _ h;omega
  ·omega
 subst heN;refine aM (AWp.sub (Sub.freeze (id:=720) rfl) ?_);have hown:lS (fN c l) (aG8 (fN c l) names.length)=o6 (fN c l) names.length:=rfl;rw[hown];generalize hTK:fN c l=TK at *;generalize hOW:o6 TK names.length=own at *;refine a8 (sg rfl (aC (aL (fun i:Nat=>mk [(2,.one (.c (.sl 10 (l.map aB)))),(3,.one (.vp 3 0)),(6,.one (.vp 6 0)),(10,.one (.hs 720 0 own.length own.length)),(48,bN names),(49,I .i64 ((names.map bO).length:Int)),(50,I .i64 i)] [(3,.var 37 (b9 (fY c ((names.zip own).take i)))),(6,.var 37 bM),(720,.arr 9 1 (own.map bO) 2)]) (fun i=>i≤names.length) (fun i=>names.length-i) 0 (Ak _) sl ?_)));intro i hi;refine sg rfl (a8 (aA rfl (fun hb=>?_) (fun hb=>?_)))
 ·have J:=ltD hb ac;obtain⟨s,hs⟩:=aK J;obtain⟨o,ho'⟩:=aK (show i<own.length by omega);have hs':=bJ bO hs;have ho2:=bJ bO ho';have hz:=Y o (η ho');have hc1:=(vW hI ab hX ((names.zip own).take i) c hcg (hzpi i)).2
  have hS:=(uF hI ab hX (m30 (fY c ((names.zip own).take i))) (fY c ((names.zip own).take i)) (le_refl _) hc1 s (vC o) (CG.vC hz hX)).imp;have W:fY c ((names.zip own).take (i+1))=dA (m30 (fY c ((names.zip own).take i))) (fY c ((names.zip own).take i)) s (vC o):=by
   unfold fY;rw[rW _ _ hs ho']
  refine aD (a8 (aC (sgh [(1,.row i (bO s))] rfl (aE mixed (ak 6 [(5,.row i (bO o))] rfl (kc (s7 o) ?_))))));refine kc hS ?_;refine kz 1 rfl (ag [] rfl ⟨i+1,J,by dsimp only;omega,?_⟩);dsimp only;rw[W];exact sl
 have Z:=geD hb ac hi;subst Z;have hzn:(names.zip own).take names.length=names.zip own:=by
  rw[Ba];rw[List.length_zip];omega
 rw[hzn];refine aM (a8 (sg rfl (aC (aL (fun i:Nat=>mk [(2,.one (.c (.sl 10 (l.map aB)))),(3,.one (.vp 3 0)),(6,.one (.vp 6 0)),(64,.one (.hs 720 0 own.length own.length)),(65,I .i64 (own.length:Int)),(66,I .i64 i)] [(3,.var 37 (b9 (kN (fY c (names.zip own)) ((own.zip l).take i)))),(6,.var 37 bM),(720,.arr 9 1 (own.map bO) 2)]) (fun i=>i≤own.length) (fun i=>own.length-i) 0 (Ak _) sl ?_))));intro i hi;refine sg rfl (a8 (aA rfl (fun hb=>?_) (fun hb=>?_)))
 ·have J:i<own.length:=by have:=φ hb;omega
  obtain⟨s,hs⟩:=aK J;obtain⟨b,N⟩:=aK (show i<l.length by omega);have hs':=bJ bO hs;have hb':=bJ aB N;have hS:=(P2.step (tk:=TK) (k:=names.length) hI ab hX ho htk (by rw[hOW];exact hP2 i (by omega)) (by rw[hOW];exact η hs) (Y s (η hs)) N).1.imp;have W:kN (fY c (names.zip own)) ((own.zip l).take (i+1))=dA (m30 (kN (fY c (names.zip own)) ((own.zip l).take i))) (kN (fY c (names.zip own)) ((own.zip l).take i)) s b:=by
   generalize fY c (names.zip own)=c1;unfold kN;rw[rW _ _ hs N]
  refine aD (a8 (aC (sgh [(2,.row i (bO s))] rfl (aE mixed (ak 6 [(4,.row i (aB b))] rfl (kc hS ?_))))));refine kz 1 rfl (ag [] rfl ⟨i+1,J,by dsimp only;omega,?_⟩);dsimp only;rw[W];exact sl
 have Z:i=own.length:=by have:=δ hb;omega
 subst Z;have hzn:(own.zip l).take own.length=own.zip l:=by
  rw[Ba];rw[List.length_zip];omega
 rw[hzn];refine aM (sg rfl ?_);have he:xR c names l=kN (fY c (names.zip own)) (own.zip l):=by unfold xR;rw[hTK,hOW]
 rw[he];exact aI (rtC trw)
end Go.Proofs.YtockgoadliilhaaGreatDoor
namespace Go.AM
open Go
theorem Sub.fnClo {kf:List Nat}{st:St}(t:Nat) {f:FuncId}(h:st.e t=some (.one (.c (.fn f)))):Sub kf ⟨upd st.e t (some (.one (.clo f []))),st.h,st.d⟩ st:=by
 intro G n S μ a w _ hs;refine⟨S,μ,⟨hs.inv,hs.size,hs.defers,fun s v e=>?_⟩⟩;by_cases I:s=t
 ·subst I;have hv:=hs.env s _ h;have e':v=.one (.clo f []):=by
   have:some v=some (V.one (.clo f [])):=by rw[←e];exact aJ _ _ _
   cases this;rfl
  subst e';simp only[aY,bB,Rep,aV] at hv ⊢;exact⟨[],hv,rfl⟩
 ·exact hs.env s v (by rw[←e];exact(b8 _ _ _ I).symm)
def aYn:BinOp→Int→Int→Option Int
 | .add,a,b=>some (IntKind.i64.wrap (a+b))
 | .sub,a,b=>some (IntKind.i64.wrap (a-b))
 | .mul,a,b=>some (IntKind.i64.wrap (a*b))
 | .quo,a,b=>if b=0 then none else some (IntKind.i64.wrap (a.tdiv b))
 | .rem,a,b=>if b=0 then none else some (a.tmod b)
 | _,_,_=>none
section
variable {P:Program}{n:Nat}{ops:Array Oper}{draw:Bool}{k d:Nat}{st:St}{pre:REs}{Q:St→Prop}{o:Oper}
theorem aYz {op:BinOp}{W ty:TypeId}{x y:Operand}{a b r:Int}(O:o.op=.binOp op W x y ty) (hd:o.dst=some d) (N:d<n) (hx:opv st x=some (I .i64 a)) (hy:opv st y=some (I .i64 b)) (J:aYn op a b=some r):
  Step P n o st ⟨opr x++opr y,[]⟩ ⟨some (d,some (I .i64 r)),[]⟩:=by
 cases op<;>simp only[aYn] at J<;>try (cases J;done)
 ·cases J;exact aN9 O hd N hx hy rfl
 ·cases J;exact aNy O hd N hx hy rfl
 ·cases J;exact aN3 O hd N hx hy rfl
 ·split at J
  ·cases J
  ·rename_i hb;cases J;exact aV4 O hd N hx hy hb rfl
 ·split at J
  ·cases J
  ·rename_i hb;cases J;exact aV2 O hd N hx hy hb rfl
theorem kw {op:BinOp}{O ty:TypeId}{x y:Operand}{a b:Int}(r:Int) (W:aYn op a b=some r)
  (hk:kE P n ops draw (k+1) ⟨upd st.e d (some (I .i64 r)),st.h,st.d⟩ ((⟨opr x++opr y,[]⟩,⟨some (d,some (I .i64 r)),[]⟩)::pre) Q)
  (Y:ops[k]?=some o:=by rfl) (hg:o.guard=none:=by rfl) (J:o.op=.binOp op O x y ty:=by rfl) (hd:o.dst=some d:=by rfl) (N:Nat.blt d n=true:=by rfl) (hx:opv st x=some (I .i64 a):=by rfl) (hy:opv st y=some (I .i64 b):=by rfl):kE P n ops draw k st pre Q:=
 k_ (g_ Y hg (aYz J hd (lI N) hx hy W)) hk
end
end Go.AM
namespace Go.Proofs.YtockgoadliilhaaGreatDoor
open Go Go.AM
set_option maxRecDepth 20000
def j5 (n:Int):Core:=.mk 3 n [] zTy [] [] []
def a0b (s:Str):Core:=.mk 2 0 s zTy [] [] []
def zC:Core:=.mk 0 0 [] zTy [] [] []
def aBn:Str:=[97,100,100]
def aWm:Str:=[115,117,98]
def aUt:Str:=[109,117,108]
def aOi:Str:=[100,105,118]
def nEq:Str:=[101,113]
def nLt:Str:=[108,116]
def aNi (b:Bool):Core:=a0b (if b then [84,114,117,101] else [70,97,108,115,101])
def jO (s:Str) (a b:Int):Core×Int:=
 if s=aBn then(j5 (IntKind.i64.wrap (a+b)),0)
 else if s=aWm then(j5 (IntKind.i64.wrap (a-b)),0)
 else if s=aUt then(j5 (IntKind.i64.wrap (a*b)),0)
 else if s=aOi then(if b=0 then(zC,53) else(j5 (IntKind.i64.wrap (a.tdiv b)),0))
 else if s=nEq then(aNi (decide (a=b)),0)
 else if s=nLt then(aNi (decide (a<b)),0)
 else(zC,51)
theorem aFb (n:Int):aW Tryz.prog 42 [I .i64 n] [] (.pa (aB (j5 n))) []:=aLu n
theorem aRq (s:Str):aW Tryz.prog 146 [Go.AM.T s] [] (.pa (aB (a0b s))) []:=by
 refine bT (n:=5) tok Tryz.func146 rfl rfl rfl ?_;exact sg rfl (sg rfl (aI (rtC trw)))
theorem aLi (b:Bool):aW Tryz.prog 135 [B b] [] (.pa (aB (aNi b))) []:=by
 refine bT (n:=6) tok Tryz.func135 rfl rfl rfl ?_;refine sg rfl (a8 (sg rfl ?_));cases b with
 | true=>
  refine aA rfl (fun _=>a8 (aE mixed (kc (aRq [84,114,117,101]) ?_))) nofun;exact kz 1 rfl (aI (rtC trw))
 | false=>
  refine aA rfl nofun (fun _=>aD (a8 (aE mixed (kc (aRq [70,97,108,115,101]) ?_))));exact kz 1 rfl (aI (rtC trw))
theorem aXv (a b:Int):aW Tryz.prog 130 [I .i64 a,I .i64 b] [] (.pa (aB (j5 (IntKind.i64.wrap (a+b))))) []:=by
 refine bT (n:=9) tok Tryz.func130 rfl rfl rfl ?_;refine sg rfl (sk 2 rfl (kw (IntKind.i64.wrap (a+b)) rfl ?_));refine kc (aFb _) ?_;exact kz 1 rfl (aI (rtC trw))
theorem aXs (a b:Int):aW Tryz.prog 131 [I .i64 a,I .i64 b] [] (.pa (aB (j5 (IntKind.i64.wrap (a-b))))) []:=by
 refine bT (n:=9) tok Tryz.func131 rfl rfl rfl ?_;refine sg rfl (sk 2 rfl (kw (IntKind.i64.wrap (a-b)) rfl ?_));refine kc (aFb _) ?_;exact kz 1 rfl (aI (rtC trw))
theorem aXt (a b:Int):aW Tryz.prog 132 [I .i64 a,I .i64 b] [] (.pa (aB (j5 (IntKind.i64.wrap (a*b))))) []:=by
 refine bT (n:=9) tok Tryz.func132 rfl rfl rfl ?_;refine sg rfl (sk 2 rfl (kw (IntKind.i64.wrap (a*b)) rfl ?_));refine kc (aFb _) ?_;exact kz 1 rfl (aI (rtC trw))
theorem aXu (a b:Int) (hb:b≠0):aW Tryz.prog 133 [I .i64 a,I .i64 b] [] (.pa (aB (j5 (IntKind.i64.wrap (a.tdiv b))))) []:=by
 refine bT (n:=9) tok Tryz.func133 rfl rfl rfl ?_;refine sg rfl (sk 2 rfl (kw (op:=.quo) (a:=a) (b:=b) (IntKind.i64.wrap (a.tdiv b)) (ψ hb) ?_));refine kc (aFb _) ?_;exact kz 1 rfl (aI (rtC trw))
theorem aZt (a b:Int):aW Tryz.prog 134 [I .i64 a,I .i64 b] [] (.pa (aB (aNi (decide (a=b))))) []:=by
 have h:=aLi (decide (a=b));refine bT (n:=9) tok Tryz.func134 rfl rfl rfl ?_;refine sg rfl (sk 3 rfl (kc h ?_));exact kz 1 rfl (aI (rtC trw))
theorem aZs (a b:Int):aW Tryz.prog 136 [I .i64 a,I .i64 b] [] (.pa (aB (aNi (decide (a<b))))) []:=by
 have h:=aLi (decide (a<b));refine bT (n:=9) tok Tryz.func136 rfl rfl rfl ?_;refine sg rfl (sk 3 rfl (kc h ?_));exact kz 1 rfl (aI (rtC trw))
def tS:List (List C):=[[.str aBn,.fn 130],[.str aWm,.fn 131],[.str aUt,.fn 132],[.str aOi,.fn 133],[.str nEq,.fn 134],[.str nLt,.fn 136]]
theorem yK:jY tS:=trivial
theorem aT4:aW Tryz.prog 110 [] [] (.one (.c (.mp false tS))) []:=by
 refine bT (n:=3) tok Tryz.func110 rfl rfl rfl ?_;refine sg rfl (sgh [(0,.id 900)] rfl ?_ (hc:=by repeat (first | exact trivial | refine⟨by decide+kernel,?_⟩)));refine AWp.sub (Sub.fmap (id:=900) rfl (by simp[keys]) yK) ?_;exact aI rtT
end Go.Proofs.YtockgoadliilhaaGreatDoor
namespace Go.AM
open Go
section
variable {fn:Func}{st:St}{hin hout:List (Nat×AObj)}{res res2 res3:V}
theorem iB {tr:Tr}{a t u:Nat}{i:TI}{id off tv:Nat}{cells:List R}{v v2:V}{ids I:List Nat}(hw:tr.wf=true) (N:fn.results.toList=[.cell a t,.tmp u]:=by rfl) (hi:tr.get t=some i:=by rfl) (ha:st.e a=some (.one (.vp id off)):=by rfl) (hh:st.h id=some (.var tv cells):=by rfl) (hb:Nat.ble (off+i.size) cells.length=true:=by rfl) (hv:pL i ((cells.drop off).take i.size)=some v:=by rfl) (hu:st.e u=some v2:=by rfl)
  (hc:Conv st.h ids v res:=by first | exact .refl | exact .one (.c .nl .nil) | ((first | apply Go.AM.Conv.pa | apply Go.AM.Conv.agg);repeat (first | exact .nil | apply Go.AM.PureL.c .refl | apply Go.AM.PureL.c .nl | (apply Go.AM.PureL.hs;rfl;(first | rfl | assumption | simp);(first | rfl | exact Go.AM.take_all (by first | assumption | rfl | (simp;done)) | exact Go.AM.take_map.symm)))))
  (J:Conv st.h I v2 res2:=by exact .refl)
  (O:eQ (fun p=>∃o,st.h p.1=some o∧Ole (fun i=>i) o p.2) hout:=by repeat (first | exact trivial | refine⟨⟨_,rfl,by first | exact Go.AM.Ole.arr | exact Go.AM.Ole.var rfl | exact Go.AM.Ole.varS rfl⟩,?_⟩))
  (hok:(subset (V.tup [res,res2]).refs (keys hout)&&subset (dM hout) (keys hout)&&distinct (keys hout)&&subset (keys hin) (keys hout)&&(hin.all fun p=>p.2.plain)&&(hout.all fun p=>p.2.plain))=true:=by rfl):(Exit.ret=.normal∨Exit.ret=.ret)∧Fin tr.flat fn st hin (.tup [res,res2]) hout:=
 ⟨.inr rfl,⟨[v,v2],[res,res2],by rw[N];exact .cell ha (Tr.get_ok hw hi) hh hb hv (.tmp hu .nil),.cons hc (.cons J .nil),rfl⟩,O,hok⟩
theorem aYg {tr:Tr}{a t u N:Nat}{i:TI}{id off tv:Nat}{cells:List R}{v v2 v3:V}{ids I J:List Nat}(hw:tr.wf=true) (Z:fn.results.toList=[.cell a t,.tmp u,.tmp N]:=by rfl) (hi:tr.get t=some i:=by rfl) (ha:st.e a=some (.one (.vp id off)):=by rfl) (hh:st.h id=some (.var tv cells):=by rfl) (hb:Nat.ble (off+i.size) cells.length=true:=by rfl) (hv:pL i ((cells.drop off).take i.size)=some v:=by rfl) (hu:st.e u=some v2:=by rfl) (O:st.e N=some v3:=by rfl)
  (hc:Conv st.h ids v res:=by first | exact .refl | exact .one (.c .nl .nil) | ((first | apply Go.AM.Conv.pa | apply Go.AM.Conv.agg);repeat (first | exact .nil | apply Go.AM.PureL.c .refl | apply Go.AM.PureL.c .nl | (apply Go.AM.PureL.hs;rfl;(first | rfl | assumption | simp);(first | rfl | exact Go.AM.take_all (by first | assumption | rfl | (simp;done)) | exact Go.AM.take_map.symm)))))
  (W:Conv st.h I v2 res2:=by exact .refl) (Y:Conv st.h J v3 res3:=by exact .refl)
  (ho:eQ (fun p=>∃o,st.h p.1=some o∧Ole (fun i=>i) o p.2) hout:=by repeat (first | exact trivial | refine⟨⟨_,rfl,by first | exact Go.AM.Ole.arr | exact Go.AM.Ole.var rfl | exact Go.AM.Ole.varS rfl⟩,?_⟩))
  (hok:(subset (V.tup [res,res2,res3]).refs (keys hout)&&subset (dM hout) (keys hout)&&distinct (keys hout)&&subset (keys hin) (keys hout)&&(hin.all fun p=>p.2.plain)&&(hout.all fun p=>p.2.plain))=true:=by rfl):(Exit.ret=.normal∨Exit.ret=.ret)∧Fin tr.flat fn st hin (.tup [res,res2,res3]) hout:=
 ⟨.inr rfl,⟨[v,v2,v3],[res,res2,res3],by rw[Z];exact .cell ha (Tr.get_ok hw hi) hh hb hv (.tmp hu (.tmp O .nil)),.cons hc (.cons W (.cons Y .nil)),rfl⟩,ho,hok⟩
end
end Go.AM
namespace Go.Proofs.YtockgoadliilhaaGreatDoor
open Go Go.AM
set_option maxRecDepth 20000
set_option maxHeartbeats 4000000
structure Fld where
 name:Str
 tag:Int
 many:Int
 arity:Int
 ty:Ty
def iO (x:Fld):List C:=[.str x.name,.int .i64 x.tag,.int .i64 x.many,.int .i64 x.arity]++bD x.ty
structure Mod where
 fields:List Fld
 binds:List Bind
def kD (m:Mod):List C:=[.sl 8 (m.fields.map iO),.sl 15 (m.binds.map bC)]
abbrev CE:Type:=Core×Int
def eW (p:CE):V:=.tup [.pa (aB p.1),I .i64 p.2]
def aGk (sh:Bool) (p:CE) (g:Core→Core):CE:=if sh then(zC,51) else if p.2=0 then(g p.1,0) else(zC,p.2)
noncomputable def fI (a:Alt) (c:Core):Option Core:=
 if a.form=3 then some a.body
 else if a.form=2 then(if c.form=3∧c.n=a.n then some a.body else none)
 else match gvC c with
  | some (s,l)=>if s=a.name∧l.length=a.vars.length then some (xR a.body a.vars l) else none
  | none=>none
def aG6 (c:Core) (i:Nat) (r:Core):Core:=match c with | .mk f n s t ks bs al=>.mk f n s t (ks.set i r) bs al
def mA (st:Core→CE) (c:Core) (i:Nat):CE:=match c.kids[i]? with
 | some x=>aGk (shC x) (st x) (aG6 c i)
 | none=>(zC,51)
def mJ (bs:List Bind) (b:Bind):Core:=.mk 8 0 [] zTy [b.body] bs []
noncomputable def bK (bd:List Bind):Nat→Core→CE
 | 0,_=>(zC,51)
 | k+1,c=>
  let hd:=c.kids.headD zC
  if c.form=1 then(match bd.find? fun b=>decide (b.name=c.name) with | some b=>(b.body,0) | none=>(zC,51))
  else if c.form=4∨c.form=6 then
   (if c.form=4∧hd.form=5 then(dA (m30 (hd.kids.headD zC)) (hd.kids.headD zC) hd.name (c.kids.getD 1 zC),0)
   else if c.form=6∧hd.form=7 then(sTR (m30 (hd.kids.headD zC)) (hd.kids.headD zC) hd.name c.ty,0)
   else mA (bK bd k) c 0)
  else if c.form=8 then(xR hd (c.binds.map Bind.name) (c.binds.map (mJ c.binds)),0)
  else if c.form=9 then(if shC hd then(match c.alts.findSome? fun a=>fI a hd with | some r=>(r,0) | none=>(zC,52)) else mA (bK bd k) c 0)
  else if c.form=10 then
   (if ¬shC hd then mA (bK bd k) c 0
   else if ¬shC (c.kids.getD 1 zC) then mA (bK bd k) c 1
   else if hd.form=3∧(c.kids.getD 1 zC).form=3 then jO c.name hd.n (c.kids.getD 1 zC).n
   else(zC,51))
  else if c.form=11 then(zC,52)
  else(zC,51)
theorem aIc {α:Type}(g:α→List C) (l:List α) (i:Nat) (x:α):(l.map g).set i (g x)=(l.set i x).map g:=by
 induction l generalizing i with
 | nil=>rfl
 | cons y l I=>cases i with
  | zero=>rfl
  | succ i=>show g y::(l.map g).set i (g x)=g y::(l.set i x).map g;rw[I]
theorem aXw (f n:Int) (s:Str) (t:Ty) (ks:List Core) (bs:List Bind) (al:List Alt) (i:Nat) (r:Core) (hi:i<ks.length) (hk:ks.length≤600000000000):
  aW Tryz.prog 128 ([.pa (aB r)]++[R.vp 4 0,R.vp 5 0].map V.one) [(4,.var 37 (b9 (.mk f n s t ks bs al))),(5,.var 3 [.c (.int .i64 i)])] (.pa (aB (.mk f n s t (ks.set i r) bs al))) [(4,.var 37 (b9 (.mk f n s t (ks.set i r) bs al))),(5,.var 3 [.c (.int .i64 i)])]:=by
 have J:(aQ ks).length=ks.length:=by rw[aZ,ξ]
 have N:=nY (aQ ks) (by omega);have I:(aQ ks).set i (aB r)=aQ (ks.set i r):=by rw[aZ,aZ,aIc]
 have O:(aQ (ks.set i r)).length=ks.length:=by rw[aZ,ξ,B0]
 obtain⟨x,hx⟩:=aK hi;have W:(aQ ks)[i]?=some (aB x):=by rw[aZ];exact bJ aB hx
 refine bT (n:=15) tok Tryz.func128 rfl rfl rfl ?_;refine sgh [(0,.id 3),(1,.id 6)] rfl (sk 2 rfl (kc N ?_));refine kz 2 rfl (sgh [(5,.row i (aB x))] rfl (AWp.sub (Sub.freeze (id:=702) rfl) ?_));refine AWp.sub (Sub.varPure (x:=4) (cs:=aB (.mk f n s t (ks.set i r) bs al)) rfl (.c .refl (.c .refl (.c .refl (.c .refl (.c .refl (.c .refl (.c .refl (.hs rfl (by rw[B0]) (by rw[Cd];show aQ (ks.set i r)=List.take (aQ ks).length ((aQ ks).set i (aB r));rw[I,Ba];rw[O,J];exact le_refl _) (.c .refl (.c .refl .nil))))))))))) ?_;exact sg rfl (aI (rtC trw))
def kO (c:Core) (i:Nat):List (Nat×AObj):=[(4,.var 37 (b9 c)),(5,.var 3 [.c (.int .i64 i)])]
def yY (sh:Bool) (p:CE) (c:Core) (i:Nat):Core:=if sh then c else if p.2=0 then aG6 c i p.1 else c
theorem aPb (m:Mod) (X:Nat) (c x:Core) (i:Nat) (p:CE) (hi:i<c.kids.length) (hk:c.kids.length≤600000000000) (Z:cB (QL X) x) (O:aU x≤570000000000) (I:shC x=false→aW Tryz.prog 30 [.pa (kD m),.pa (aB x)] [] (eW p) []):
  aW Tryz.prog 127 [.pa (kD m),.pa (aB x),.one (.clo 128 [.vp 4 0,.vp 5 0])] (kO c i) (eW (aGk (shC x) p (aG6 c i))) (kO (yY (shC x) p c i) i):=by
 have W:=xC X x Z O;unfold kO;refine bT (n:=26) tok Tryz.func127 rfl rfl rfl ?_;refine sgh [(0,.id 13),(1,.id 14),(2,.id 16)] rfl (a8 (sk 1 rfl (kc W ?_)));refine az ?_;cases hS:shC x with
 | true=>
  exact aA rfl (fun _=>sg rfl (aI (iB trw))) nofun
 | false=>
  have I:=I hS;refine aA rfl nofun (fun _=>aD (sk 2 rfl (kc I ?_)));refine kz 6 rfl (a8 (sg rfl (aA rfl (fun hb=>?_) (fun hb=>?_))))
  ·have he:¬p.2=0:=by
    intro h;have hb:(!decide (p.2=0))=true:=hb;rw[Ai h] at hb;cases hb
   have J:aGk false p (aG6 c i)=(zC,p.2):=by unfold aGk;rw[ψ Ar,ψ he]
   have N:yY false p c i=c:=by unfold yY;rw[ψ Ar,ψ he]
   rw[J,N];exact sg rfl (aI (iB trw))
  ·have he:p.2=0:=by
    have hb:(!decide (p.2=0))=false:=hb;by_cases h:p.2=0
    ·exact h
    ·rw[Am h] at hb;cases hb
   have J:aGk false p (aG6 c i)=(aG6 c i p.1,0):=by unfold aGk;rw[ψ Ar,θ he]
   have N:yY false p c i=aG6 c i p.1:=by unfold yY;rw[ψ Ar,θ he]
   rw[J,N];obtain⟨f,n,s,t,ks,bs,al⟩:=c;have Y:=aXw f n s t ks bs al i p.1 hi hk;refine aD (sk 2 rfl (kv (args:=[.pa (aB p.1)]) Y ?_));exact kz 2 rfl (aI (iB trw))
theorem aZw (m:Mod) (X:Nat) (c x:Core) (i:Nat) (st:Core→CE) (hx:c.kids[i]?=some x) (hk:c.kids.length≤600000000000) (O:cB (QL X) x) (J:aU x≤570000000000) (N:shC x=false→aW Tryz.prog 30 [.pa (kD m),.pa (aB x)] [] (eW (st x)) []):
  aW Tryz.prog 107 [.pa (kD m),.pa (aB c),I .i64 i] [] (eW (mA st c i)) []:=by
 have hi:i<c.kids.length:=(ε.1 hx).1
 have hw:=aPb m X c x i (st x) hi hk O J N;have W:(aQ c.kids)[i]?=some (aB x):=by rw[aZ];exact bJ aB hx
 have he:mA st c i=aGk (shC x) (st x) (aG6 c i):=by unfold mA;rw[hx]
 rw[he];obtain⟨f,n,s,t,ks,bs,al⟩:=c;unfold kO at hw;refine bT (n:=18) tok Tryz.func107 rfl rfl rfl ?_;refine sg rfl (skh 7 [(4,.row i (aB x))] rfl (kc hw ?_));exact kz 4 rfl (aI (iB trw))
end Go.Proofs.YtockgoadliilhaaGreatDoor
namespace Go.Proofs.YtockgoadliilhaaGreatDoor
open Go Go.AM Go.Shelf
set_option maxRecDepth 100000
def ir:Ren:=⟨fun f=>if f=129 then 154 else if f=171 then 129 else if f=243 then 145 else if f=246 then 148 else if f=283 then 149 else if f=284 then 150 else if f=285 then 151 else if f=286 then 152 else if f=317 then 153 else if f=318 then 155 else if f=319 then 156 else if f=320 then 157 else if f=337 then 158 else if f=338 then 159 else f,fun t=>if t=0 then 0 else if t=2 then 2 else if t=3 then 3 else if t=4 then 4 else if t=5 then 5 else if t=9 then 9 else if t=20 then 20 else if t=37 then 136 else if t=46 then 182 else if t=51 then 179 else if t=53 then 172 else if t=171 then 171 else if t=173 then 175 else if t=212 then 178 else if t=213 then 180 else if t=232 then 185 else if t=233 then 186 else t,fun g=>if g=17 then 0 else if g=18 then 1 else if g=19 then 2 else g⟩
theorem il:LaysM.n171 Tryz.prog ir where
 mixed:=mixed
 f129:=by kernel_rfl
 f171:=by kernel_rfl
 f243:=by kernel_rfl
 f246:=by kernel_rfl
 f283:=by kernel_rfl
 f284:=by kernel_rfl
 f285:=by kernel_rfl
 f286:=by kernel_rfl
 f317:=by kernel_rfl
 f318:=by kernel_rfl
 f319:=by kernel_rfl
 f320:=by kernel_rfl
 f337:=by kernel_rfl
 f338:=by kernel_rfl
 t0:=by kernel_rfl
 a0:=fun w=>by kernel_rfl
 z0:=fun w=>by kernel_rfl
 v0:=fun w=>by kernel_rfl
 t2:=by kernel_rfl
 a2:=fun w=>by kernel_rfl
 z2:=fun w=>by kernel_rfl
 v2:=fun w=>by kernel_rfl
 t3:=by kernel_rfl
 a3:=fun w=>by kernel_rfl
 z3:=fun w=>by kernel_rfl
 v3:=fun w=>by kernel_rfl
 t4:=by kernel_rfl
 a4:=fun w=>by kernel_rfl
 z4:=fun w=>by kernel_rfl
 v4:=fun w=>by kernel_rfl
 t5:=by kernel_rfl
 a5:=fun w=>by kernel_rfl
 z5:=fun w=>by kernel_rfl
 v5:=fun w=>by kernel_rfl
 t9:=by kernel_rfl
 a9:=fun w=>by kernel_rfl
 z9:=fun w=>by kernel_rfl
 v9:=fun w=>by kernel_rfl
 t20:=by kernel_rfl
 a20:=fun w=>by kernel_rfl
 z20:=fun w=>by kernel_rfl
 v20:=fun w=>by kernel_rfl
 t37:=by kernel_rfl
 a37:=fun w=>by kernel_rfl
 z37:=fun w=>by kernel_rfl
 v37:=fun w=>by kernel_rfl
 t46:=by kernel_rfl
 a46:=fun w=>by kernel_rfl
 z46:=fun w=>by kernel_rfl
 v46:=fun w=>by kernel_rfl
 t51:=by kernel_rfl
 a51:=fun w=>by kernel_rfl
 z51:=fun w=>by kernel_rfl
 v51:=fun w=>by kernel_rfl
 t53:=by kernel_rfl
 a53:=fun w=>by kernel_rfl
 z53:=fun w=>by kernel_rfl
 v53:=fun w=>by kernel_rfl
 t171:=by kernel_rfl
 a171:=fun w=>by kernel_rfl
 z171:=fun w=>by kernel_rfl
 v171:=fun w=>by kernel_rfl
 t173:=by kernel_rfl
 a173:=fun w=>by kernel_rfl
 z173:=fun w=>by kernel_rfl
 v173:=fun w=>by kernel_rfl
 t212:=by kernel_rfl
 a212:=fun w=>by kernel_rfl
 z212:=fun w=>by kernel_rfl
 v212:=fun w=>by kernel_rfl
 t213:=by kernel_rfl
 a213:=fun w=>by kernel_rfl
 z213:=fun w=>by kernel_rfl
 t232:=by kernel_rfl
 a232:=fun w=>by kernel_rfl
 z232:=fun w=>by kernel_rfl
 v232:=fun w=>by kernel_rfl
 t233:=by kernel_rfl
 a233:=fun w=>by kernel_rfl
 z233:=fun w=>by kernel_rfl
 v233:=fun w=>by kernel_rfl
 g17:=by kernel_rfl
 g18:=by kernel_rfl
 g19:=by kernel_rfl
 i0:=by kernel_rfl
 i2:=by kernel_rfl
 i3:=by kernel_rfl
 i4:=by kernel_rfl
 i5:=by kernel_rfl
 i9:=by kernel_rfl
 i20:=by kernel_rfl
 i37:=by kernel_rfl
 i46:=by kernel_rfl
 i51:=by kernel_rfl
 i53:=by kernel_rfl
 i171:=by kernel_rfl
 i173:=by kernel_rfl
 i212:=by kernel_rfl
 i232:=by kernel_rfl
 i233:=by kernel_rfl
 m17:=by kernel_rfl
 m18:=by kernel_rfl
 m19:=by kernel_rfl
end Go.Proofs.YtockgoadliilhaaGreatDoor
namespace Go.AM
open Go
theorem Inv.grown {G:Ctx}{S:Sto}{μ:Mu}{H:cO}{w:World}(h:Inv G S μ H w) (k:Nat) (os:Array Obj):Inv G S μ H (Sort.grow (w.drewN k) os):=by
 have hold:∀b:Nat,b<w.heap.size→(Sort.grow (w.drewN k) os).heap[b]?=w.heap[b]?:=fun b hb=>by
  show(w.heap++os)[b]?=w.heap[b]?;exact Array.getElem?_append_left hb
 have I:w.heap.size≤(Sort.grow (w.drewN k) os).heap.size:=by
  show w.heap.size≤(w.heap++os).size;rw[Array.size_append];omega
 obtain⟨h1,h2,h3,h4,h5,h6,h7,J,N⟩:=h;refine⟨⟨fun b o v e=>?_,fun b mk e=>?_⟩,fun id o e=>(h2 id o e).evolve (Evolve.refl _ _ _) rfl fun b c hm=>⟨hold b ((h2 id o e).lt hm),fun _=>rfl,rfl⟩,h3,h4,?_,h6,h7,J,N⟩
 ·obtain⟨vs,t,fr,g1,g2⟩:=h1.1 b o v e;exact⟨vs,t,fr,by rw[hold b (dY g1)];exact g1,g2⟩
 ·have g:=h1.2 b mk e;obtain⟨_,g2⟩:=MK.holds_some g;rw[hold b (dY g2)];exact g
 ·obtain⟨f1,f2,f3,f4,f5,f6⟩:=h5;exact⟨f1,f2,f3,le_trans f4 I,fun b hb O=>by rw[hold b (lt_of_lt_of_le hb f4)];exact f5 b hb O,f6⟩
end Go.AM
namespace Go.Proofs.YtockgoadliilhaaGreatDoor
open Go Go.AM
set_option maxRecDepth 20000
theorem aLp (k:Nat) (h:k<1000000000000000000):aW Tryz.prog 129 [I .i64 (k:Int)] [] (Go.AM.T (Lib.decDigits k)) []:=by
 intro S μ w vals N hv;simp only [bS, aY, bB, Rep] at hv;obtain ⟨v1, O, rfl, rfl, rfl⟩ := hv;have J : Lib.TabIs Tryz.prog w "internal/strconv.uint64pow10" .u64 Lib.pow10Tab := by
  obtain ⟨h1, t, fr, h2⟩ := N.frame.tabAt 0 rfl;unfold Lib.TabIs World.var?;rw [show Tryz.prog.globalNamed "internal/strconv.uint64pow10" = some 0 by kernel_rfl];simp only [Cl, h2];rfl
 refine Calls.mono (Any.strconv_Itoa il (k:Int) (by omega) (by omega) w J) ?_;rintro e w' ⟨rfl,j,os,rfl⟩;refine⟨S,μ,_,rfl,N.grown j os,?_⟩;rw[Lib.itoa_nonneg];simp only[aY,bB,Rep]
end Go.Proofs.YtockgoadliilhaaGreatDoor
namespace Go.Proofs.YtockgoadliilhaaGreatDoor
open Go Go.AM
set_option maxRecDepth 20000
set_option maxHeartbeats 4000000
theorem aVq (hI:cK 540000000000) {D M X:Nat}(ab:M+D≤700000):∀(k:Nat) (c:Core),m30 c≤k→CG D M X c→∀(name:Str) (u:Ty),UOk u→∀x∈tyR (sTR k c name u),(x∈tyR c∧¬x=name)∨x∈tfR u:=by
 intro k
 induction k with
 | zero=>intro c h;have:=dX c;omega
 | succ k W=>
 intro c h hc name u hu x hx;obtain⟨f,n,nm,t,ks,bs,al⟩:=c;obtain⟨ht0,ht1,htb⟩:=hc.ty;have hq:=hc.q;obtain⟨q1,q2,q3,q4⟩:=aS.1 hq;have ac:tfR zTy=[]:=rfl;have Y:∀v,wfS v=true→∀x∈tfR (kB v [(name,u)]),(x∈tfR v∧¬x=name)∨x∈tfR u:=fun v h1 x hx=>by
  rcases aHt (tn v) v (le_refl _) h1 _ x hx with h | ⟨p,hp,_,h⟩
  ·exact .inl ⟨h.1,fun e=>h.2 (by rw[e];exact Ac.2 rfl)⟩
  ·rw[Ac.1 hp] at h;exact .inr h
 rw[sTR] at hx;by_cases h7:f=7
 ·subst h7;obtain⟨⟨kid,rfl⟩,rfl,rfl⟩:=dD hq (.inr (.inr rfl));obtain⟨g1,g2,g3⟩:=hc.kid (x:=kid) ζ;rw[θ rfl] at g2;obtain rfl:t=zTy:=(q1.2.1 rfl).1
  by_cases hs:nm=name∨¬name∈tyR (.mk 7 n nm zTy [kid] [] [])
  ·rw[θ ⟨rfl,hs⟩] at hx;refine .inl ⟨hx,fun e=>?_⟩;rw[e] at hx;rcases hs with rfl | hs
   ·rcases bI.1 hx with h | ⟨x,_,_,h | h⟩ | ⟨b,hb,_⟩ | ⟨a,ha,_⟩
    ·rw[ac] at h;cases h
    ·exact h rfl
    ·exact h rfl
    ·cases hb
    ·cases ha
   ·exact hs hx
  rw[ψ fun e=>hs e.2] at hx;have Z:∀(nm1:Str) (J:Core),m30 J≤k→CG D M X J→(∀y∈tyR J,¬y=nm1→y∈tyR kid∧(y=nm→y∈tfR u))→x∈tyR (gU (fun t=>kB t [(name,u)]) (fun x=>sTR k x name u) (.mk 7 n nm1 zTy [J] [] []))→(x∈tyR (.mk 7 n nm zTy [kid] [] [])∧¬x=name)∨x∈tfR u:=fun nm1 J hk1 hc1 hy hx=>by
   rw[gU] at hx;rcases bI.1 hx with h | ⟨y,hym,h,O⟩ | ⟨b,hb,_⟩ | ⟨a,ha,_⟩
   ·rw[sW,ac] at h;cases h
   ·obtain⟨N,I,rfl⟩:=Ad.1 hym;rw[Ac.1 I] at h;have O:¬x=nm1:=O.resolve_left (fun e=>e rfl);rcases W J hk1 hc1 name u hu x h with⟨h,hn⟩ | h
    ·obtain⟨h1,h2⟩:=hy x h O;by_cases e:x=nm
     ·exact .inr (h2 e)
     ·exact .inl ⟨bI.2 (.inr (.inl ⟨kid,ζ,h1,.inr e⟩)),hn⟩
    ·exact .inr h
   ·cases hb
   ·cases ha
  by_cases ad:nm∈tfR u
  ·rw[θ ⟨rfl,ad⟩,Al,By] at hx;generalize bA (tfR u++[kid].flatMap tyR)=z at hx;have hS1:=aB5 hI ab k kid (by omega) g1 nm (vT z) (UOk.var z);refine Z z _ (le_trans hS1.sz (by omega)) (aM5 hI ab g1 g2 k (by omega) nm z) (fun y hy aa=>?_) hx;rcases W kid (by omega) g1 nm (vT z) (UOk.var z) y hy with⟨h1,h2⟩ | h1
   ·exact⟨h1,fun e=>absurd e h2⟩
   ·rw[aFv] at h1;exact absurd (Ac.1 h1) aa
  ·rw[ψ fun e=>ad e.2] at hx;exact Z nm kid (by omega) g1 (fun y hy aa=>⟨hy,fun e=>absurd e aa⟩) hx
 ·rw[ψ fun e=>h7 e.1,ψ fun e=>h7 e.1,gU] at hx;rcases bI.1 hx with h | ⟨y,hy,h,_⟩ | ⟨y,hy,h⟩ | ⟨y,hy,h⟩
  ·exact(Y t ht0 x h).imp (fun h=>⟨bI.2 (.inl h.1),h.2⟩) id
  ·obtain⟨N,I,rfl⟩:=Ad.1 hy;exact(W N (by have:=(hc.kid I).2.2;omega) (hc.kid I).1 name u hu x h).imp (fun h=>⟨bI.2 (.inr (.inl ⟨N,I,h.1,.inl h7⟩)),h.2⟩) id
  ·obtain⟨N,I,rfl⟩:=Ad.1 hy;rcases h with h | h
   ·exact(Y N.ty (htb N I).1 x h).imp (fun h=>⟨bI.2 (.inr (.inr (.inl ⟨N,I,.inl h.1⟩))),h.2⟩) id
   ·exact(W N.body (by have:=(hc.bind I).2;omega) (hc.bind I).1 name u hu x h).imp (fun h=>⟨bI.2 (.inr (.inr (.inl ⟨N,I,.inr h.1⟩))),h.2⟩) id
  ·obtain⟨N,I,rfl⟩:=Ad.1 hy;exact(W N.body (by have:=(hc.alt I).2;omega) (hc.alt I).1 name u hu x h).imp (fun h=>⟨bI.2 (.inr (.inr (.inr ⟨N,I,h.1⟩))),h.2⟩) id
theorem dV {α:Type}{g:α→α}:∀{l:List α},(∀x∈l,g x=x)→l.map g=l
 | [],_=>rfl
 | x::l,h=>by rw[Al,h x ζ,dV fun y hy=>h y (κ _ hy)]
theorem aVr {X:Nat}:∀(k:Nat) (c:Core),m30 c≤k→cB (QL X) c→¬([]:Str)∈tyR c→sTR k c [] zTy=c:=by
 intro k
 induction k with
 | zero=>intro c h;have:=dX c;omega
 | succ k I=>
 intro c h N hn;obtain⟨f,n,nm,t,ks,bs,al⟩:=c;obtain⟨⟨_,_,O,W,_⟩,Y,Z,q4⟩:=aS.1 N;rw[m30] at h;rw[sTR];by_cases h7:f=7
 ·rw[θ ⟨h7,.inr hn⟩]
 ·have ts:∀v,wfS v=true→¬([]:Str)∈tfR v→kB v [([],zTy)]=v:=fun v hv J=>aAu (tn v) v (le_refl _) hv _ fun p hp h=>by rw[Ac.1 hp] at h;exact J h
  rw[ψ (fun e=>h7 e.1),ψ (fun e=>h7 e.1),gU,ts t O (fun e=>hn (bI.2 (.inl e)))];rw[dV (l:=ks) fun x hx=>I x (by have:=fE hx;omega) (Y x hx) fun e=>hn (bI.2 (.inr (.inl ⟨x,hx,e,.inl h7⟩)))]
  rw[dV (l:=bs) fun x hx=>by
   rw[ts x.ty (W (bhd x) (Ad.2 ⟨x,hx,rfl⟩)) fun e=>hn (bI.2 (.inr (.inr (.inl ⟨x,hx,.inl e⟩)))),I x.body (by have:=lY hx;omega) (Z x hx) fun e=>hn (bI.2 (.inr (.inr (.inl ⟨x,hx,.inr e⟩))))]
   cases x;rfl]
  rw[dV (l:=al) fun x hx=>by
   rw[I x.body (by have:=i7 hx;omega) (q4 x hx) fun e=>hn (bI.2 (.inr (.inr (.inr ⟨x,hx,e⟩))))]
   cases x;rfl]
theorem dK:j3.k=0:=by unfold Alg.k zTy;rw[tW,ψ (by decide),ψ (by decide),tWs];rfl
theorem dZ:tW j3 zTy r0=0:=dK
structure ST (n:Nat) (U:List Str) (c:Core):Prop where
 q:cB (QL 403) c
 cw:∀E,n*3≤E→cw j3 E c r0≤3+E
 ty:∀x∈tyR c,x∈U
 tl:tlC c≤6000
 sz:m30 c≤3500000
structure SR (n:Nat) (U:List Str) (s:Nat) (c:Core):Prop where
 q:cB (QL 403) c
 cw:∀E,n*3≤E→cw j3 E c r0≤3+E
 ty:∀x∈tyR c,x∈U
 tl:tlC c≤84000
 sz:60*m30 c≤210000000+s*s+120*s
theorem ST.mono {n m:Nat}{U:List Str}{c:Core}(h:ST n U c) (hm:n≤m):ST m U c:=⟨h.q,fun E I=>h.cw E (by omega),h.ty,h.tl,h.sz⟩
theorem ST.cg {n:Nat}{U:List Str}{c:Core}(h:ST n U c) (hn:n≤300) (I:U.length≤480000):CG 1000 650000 403 c:=by
 refine⟨h.q,?_,?_,le_trans h.sz (by decide)⟩
 ·have:=h.cw (n*3) (le_refl _);have:=s4 (A:=j3) (E:=0) (E':=n*3) (Ak _) (c:=c) (ρ:=r0) (ρ':=r0) (fun _=>le_refl _);omega
 ·have:=dO h.ty;have:=h.tl;omega
theorem ar0 {s:Nat}(h:s≤3500000):s*s≤12250000000000:=le_trans (mul_le_mul h h) (by decide)
theorem SR.big {n s:Nat}{U:List Str}{c:Core}(h:SR n U s c) (hs:s≤3500000):m30 c≤Big:=by
 have:=ar0 hs;have:=h.sz;have:Big=250000000000:=rfl;omega
theorem SR.cg {n s:Nat}{U:List Str}{c:Core}(h:SR n U s c) (hn:n≤300) (hs:s≤3500000) (I:U.length≤480000):CG 1000 650000 403 c:=by
 refine⟨h.q,?_,?_,h.big hs⟩
 ·have:=h.cw (n*3) (le_refl _);have:=s4 (A:=j3) (E:=0) (E':=n*3) (Ak _) (c:=c) (ρ:=r0) (ρ':=r0) (fun _=>le_refl _);omega
 ·have:=dO h.ty;have:=h.tl;omega
section
variable {n:Nat}{U:List Str}{f i:Int}{s:Str}{t:Ty}{ks:List Core}{bs:List Bind}{al:List Alt}
theorem ST.kid (h:ST n U (.mk f i s t ks bs al)) (h7:¬f=7) {x:Core}(hx:x∈ks):ST n U x:=by
 refine⟨(aS.1 h.q).2.1 x hx,fun E I=>?_,fun y hy=>h.ty y (bI.2 (.inr (.inl ⟨x,hx,hy,.inl h7⟩))),?_,?_⟩
 ·have:=(eZ.1 (h.cw E I)).2.2.1 x hx;rwa [ψ h7] at this
 ·have:=(mL (f:=f) (n:=i) (s:=s) (t:=t) (ks:=ks) (bs:=bs) (al:=al)).1 x hx;have:=h.tl;omega
 ·have:=fE hx;have:=h.sz;rw[m30] at this;omega
theorem ST.tkid (h:ST n U (.mk 7 i s t ks bs al)) {x:Core}(hx:x∈ks):ST n (s::U) x∧tlC x+1≤tlC (.mk 7 i s t ks bs al)∧m30 x<m30 (.mk 7 i s t ks bs al):=by
 have h1:=(mL (f:=7) (n:=i) (s:=s) (t:=t) (ks:=ks) (bs:=bs) (al:=al)).1 x hx;rw[θ rfl] at h1;have h2:=fE hx;have h3:=h.tl;have h4:=h.sz;refine⟨⟨(aS.1 h.q).2.1 x hx,fun E I=>?_,fun y hy=>?_,by omega,?_⟩,h1,?_⟩
 ·have:=(eZ.1 (h.cw E I)).2.2.1 x hx;rw[θ rfl] at this;exact le_trans (s4 (le_refl _) fun y=>Ak _) this
 ·by_cases e:y=s
  ·rw[e];exact ζ
  ·exact κ _ (h.ty y (bI.2 (.inr (.inl ⟨x,hx,hy,.inr e⟩))))
 ·rw[m30] at h4;omega
 ·rw[m30];omega
theorem ST.bind (h:ST n U (.mk f i s t ks bs al)) {x:Bind}(hx:x∈bs):ST n U x.body:=by
 refine⟨(aS.1 h.q).2.2.1 x hx,fun E I=>((eZ.1 (h.cw E I)).2.2.2.1 x hx).2,fun y hy=>h.ty y (bI.2 (.inr (.inr (.inl ⟨x,hx,.inr hy⟩)))),?_,?_⟩
 ·have:=(mL (f:=f) (n:=i) (s:=s) (t:=t) (ks:=ks) (bs:=bs) (al:=al)).2.1 x hx;have:=h.tl;omega
 ·have:=lY hx;have:=h.sz;rw[m30] at this;omega
theorem ST.alt (h:ST n U (.mk f i s t ks bs al)) {x:Alt}(hx:x∈al):ST n U x.body:=by
 refine⟨(aS.1 h.q).2.2.2 x hx,fun E I=>(eZ.1 (h.cw E I)).2.2.2.2 x hx,fun y hy=>h.ty y (bI.2 (.inr (.inr (.inr ⟨x,hx,hy⟩)))),?_,?_⟩
 ·have:=(mL (f:=f) (n:=i) (s:=s) (t:=t) (ks:=ks) (bs:=bs) (al:=al)).2.2 x hx;have:=h.tl;omega
 ·have:=i7 hx;have:=h.sz;rw[m30] at this;omega
theorem aCj (hf:okF f 0 0 0=true) (h7:¬f=7) (h5:¬f=5) (hs:s.length≤30):cB (QL 403) (.mk f i s zTy [] [] []):=by
 have hw:w30 s=30:=by unfold w30;omega
 exact aS.2 ⟨⟨hf,fun h=>absurd h h7,rfl,by simp,by unfold lw;rw[hw];decide,fun h=>absurd h h5,by simp,by simp⟩,by simp,by simp,by simp⟩
theorem aCi {w:Nat}(hf:okF f 0 0 0=true) (h7:¬f=7) (h5:¬f=5) (hs:s.length≤30):SR n U w (.mk f i s zTy [] [] []):=by
 have hw:w30 s=30:=by unfold w30;omega
 refine⟨aCj hf h7 h5 hs,fun E I=>eZ.2 ⟨by rw[dK];omega,by rw[dZ];omega,by simp,by simp,by simp⟩,fun y hy=>?_,?_,?_⟩
 ·rcases bI.1 hy with h | ⟨x,hx,_⟩ | ⟨x,hx,_⟩ | ⟨x,hx,_⟩
  ·cases h
  ·cases hx
  ·cases hx
  ·cases hx
 ·rw[tlC,iU,pQ,oV,ψ h7];omega
 ·rw[m30,cE,fF,gP,hw];omega
end
theorem ST.sr {n w:Nat}{U:List Str}{c:Core}(h:ST n U c):SR n U w c:=⟨h.q,h.cw,h.ty,by have:=h.tl;omega,by have:=h.sz;omega⟩
theorem aTf {n:Nat}{U:List Str}:∀(k:Nat) (c:Core),m30 c≤k→ST n U c→∀(s:Str) (l:List Core),gvC c=some (s,l)→(∀x∈l,ST n U x)∧(l.map m30).sum≤m30 c:=by
 intro k
 induction k with
 | zero=>intro c h;have:=dX c;omega
 | succ k J=>
 intro c h hc s l hg;obtain⟨f,i,nm,t,ks,bs,al⟩:=c;rw[gvC] at hg;by_cases h2:f=2
 ·rw[θ h2] at hg;cases hg;exact⟨by simp,by simp⟩
 rw[ψ h2] at hg;by_cases h4:f=4
 ·rw[θ h4] at hg;obtain⟨⟨a,b,rfl⟩,rfl,rfl⟩:=hY hc.q (.inl h4);have ha:=hc.kid (by omega) (x:=a) ζ;have hb:=hc.kid (by omega) (x:=b) (κ _ ζ);rw[m30,cE,cE,cE] at h ⊢;rw[gvH] at hg;cases I:gvC a with
  | none=>rw[I] at hg;cases hg
  | some p=>
   rw[I] at hg;obtain⟨s1,N⟩:=p;obtain⟨g1,g2⟩:=J a (by omega) ha s1 N I;have hg:=Option.some.inj hg;have e:l=N++[b]:=(congrArg Prod.snd hg).symm;rw[e];refine⟨fun x hx=>?_,?_⟩
   ·rcases ω.1 hx with hx | hx
    ·exact g1 x hx
    ·rw[Ac.1 hx];exact hb
   ·rw[As,List.sum_append];simp only[Al,By,Cb,sum_nil];omega
 rw[ψ h4] at hg;by_cases h6:f=6
 ·rw[θ h6] at hg;obtain⟨⟨a,rfl⟩,rfl,rfl⟩:=dD hc.q (.inr (.inl h6));have ha:=hc.kid (by omega) (x:=a) ζ;rw[m30,cE,cE] at h ⊢;rw[gvH] at hg;obtain⟨g1,g2⟩:=J a (by omega) ha s l hg;exact⟨g1,by omega⟩
 ·rw[ψ h6] at hg;cases hg
theorem aVo {a b s:Nat}(h:a+b≤s):a*a+2*(a*b)+b*b≤s*s:=by
 have h1:=mul_le_mul h h;have h2:(a+b)*(a+b)=a*a+2*(a*b)+b*b:=by rw[A0,Cv,Cv,mul_comm b a];omega
 omega
theorem a0o (a b:Nat):2*(a*b)≤a*a+b*b:=by
 rcases Nat.le_total a b with h | h
 ·obtain⟨d,rfl⟩:=Nat.exists_eq_add_of_le h;have I:a*(a+d)=a*a+a*d:=Cv ..;have J:(a+d)*(a+d)=a*a+a*d+(a*d+d*d):=by rw[A0,Cv,Cv,mul_comm d a]
  omega
 ·obtain⟨d,rfl⟩:=Nat.exists_eq_add_of_le h;have I:(b+d)*b=b*b+b*d:=by rw[A0,mul_comm d b]
  have J:(b+d)*(b+d)=b*b+b*d+(b*d+d*d):=by rw[A0,Cv,Cv,mul_comm d b]
  omega
theorem ar1 {a b s:Nat}(h:a+b≤s):60*(a*(b/31+1))≤s*s+120*s:=by
 have h1:=aVo h;have h2:a*(60*(b/31+1))≤a*(2*b+60):=mul_le_mul_left _ (by omega);have I:a*(60*(b/31+1))=60*(a*(b/31+1)):=by rw[mul_left_comm]
 have J:a*(2*b+60)=2*(a*b)+a*60:=by rw[Cv,mul_left_comm]
 omega
theorem ar2 {a b s:Nat}(h:a+b≤s):60*(a*(b/15+2))≤s*s+120*s:=by
 have h1:=aVo h;have h3:=a0o a b;have h2:a*(60*(b/15+2))≤a*(4*b+120):=mul_le_mul_left _ (by omega);have I:a*(60*(b/15+2))=60*(a*(b/15+2)):=by rw[mul_left_comm]
 have J:a*(4*b+120)=4*(a*b)+a*120:=by rw[Cv,mul_left_comm]
 omega
theorem ar3 {s v:Nat}(hs:s≤3500000) (h:60*v≤s*s+120*s):v≤Big:=by
 have:=ar0 hs;have:Big=250000000000:=rfl;omega
theorem ar4 {x m r C:Nat}(hx:x≤m) (h:60*r≤C+x*x+120*x):60*(m-x+r)≤C+m*m+120*m:=by
 have:=mul_le_mul hx hx;omega
theorem aDg {α:Type}{g:α→Nat}:∀{l:List α}{x:α},x∈l→g x≤(l.map g).sum
 | y::l,x,h=>by
  rw[Al,Cb];rcases Ao.1 h with e | h
  ·rw[e];omega
  ·have:=aDg (g:=g) h;omega
theorem qX {α:Type}{g:α→Nat}{K:Nat}:∀{l:List α},(∀x∈l,g x≤K)→(l.map g).sum≤l.length*K
 | [],_=>by simp
 | y::l,h=>by
  rw[Al,Cb,Aj,Nat.succ_mul];have:=h y ζ;have:=qX (l:=l) fun x hx=>h x (κ _ hx)
  omega
theorem aVn:∀I:List (Str×Ty),31*I.length≤(I.map fun p=>1+w30 p.1).sum
 | []=>le_refl _
 | p::l=>by simp only[Al,Cb,Aj];have:=aVn l;have:=jT p.1;omega
theorem aZ7 {s:Str}{I:List (Str×Ty)}{J:List (Str×List Str)}(h:lw s I J≤403):I.length≤12:=by
 unfold lw at h;have:=aVn I;have:=jT s;omega
theorem aZ8 {s:Str}{J:List (Str×Ty)}{I:List (Str×List Str)}(h:lw s J I≤403) {p:Str×List Str}(hp:p∈I):p.2.length≤12:=by
 unfold lw at h;have h1:=aDg (g:=fun p:Str×List Str=>1+w30 p.1+(p.2.map fun v=>1+w30 v).sum) hp;have h2:=vG p.2;have:=jT s;omega
section
variable {n:Nat}{U:List Str}
theorem aR3 (N:cK 540000000000) (hn:n≤299) (J:U.length≤480000) {body a:Core}{nm:Str}{s:Nat}(h1:ST n U body) (h2:ST n U a) (hs:m30 body+m30 a≤s):
  TB 403 body nm a (dA (m30 body) body nm a)∧SR (n+1) U s (dA (m30 body) body nm a):=by
 have I:=uF N (D:=1000) (M:=650000) (X:=403) (by decide) (by decide) (m30 body) body (le_refl _) (h1.cg (by omega) J) nm a (h2.cg (by omega) J);refine⟨I,I.rx.q,fun E O=>?_,fun x hx=>(I.rx.ty x hx).elim (h1.ty x) (h2.ty x),?_,?_⟩
 ·have:=I.rx.cw j3 E r0;have:=h1.cw E (by omega);have:=h2.cw E (by omega);omega
 ·have:=I.rx.tl;have:=h1.tl;have:=h2.tl;omega
 ·have:=I.sz (m30 a/31+1) (by omega) (by omega);have:=ar1 hs;omega
theorem aMv (N:cK 540000000000) (hn:n≤299) (O:U.length≤480000) {i i':Int}{s nm:Str}{u t':Ty}{body:Core}{bs:List Bind}{al:List Alt}
  (h:ST n U (.mk 6 i s u [.mk 7 i' nm t' [body] [] []] bs al)) {w:Nat}:
  SB 403 body nm u (sTR (m30 body) body nm u)∧SR (n+1) U w (sTR (m30 body) body nm u):=by
 have hh:=h.kid (by decide) (x:=.mk 7 i' nm t' [body] [] []) ζ;obtain⟨hb,_,_⟩:=hh.tkid (x:=body) ζ;have W:=h.cg (by omega) O;have J:=((hh.cg (by omega) O).kid (x:=body) ζ).1
 obtain⟨Y,Z,_⟩:=W.ty;have hu:UOk u:=⟨Y,by omega⟩
 have I:=aB5 N (by decide) (m30 body) body (le_refl _) J nm u hu;refine⟨I,I.q,fun E hE=>?_,fun x hx=>?_,?_,?_⟩
 ·have h1:=I.cw j3 E r0;have h2:=(eZ.1 (h.cw (n*3) (le_refl _))).2.1
  have h3:=(eZ.1 (hh.cw E (by omega))).2.2.1 body ζ;rw[θ rfl] at h3;refine le_trans h1 (le_trans (s4 (le_refl _) fun x=>?_) h3);unfold fO;split
  ·omega
  ·exact le_refl _
 ·rcases aVq N (by decide) (m30 body) body (le_refl _) J nm u hu x hx with⟨h1,h2⟩ | h1
  ·exact(Ao.1 (hb.ty x h1)).resolve_left h2
  ·exact h.ty x (bI.2 (.inl h1))
 ·have:=I.tl;have:=hb.tl;omega
 ·have:=I.sz;have:=hb.sz;omega
theorem aR1 {B s:Nat}{c r:Core}{l:List Core}(hc:ST n U c) (hl:∀b∈l,(∀E,n*3≤E→cw j3 E b r0≤3+E)∧(∀x∈tyR b,x∈U)∧tlC b≤6000) (I:l.length≤12) (J:60*(m30 c*B)≤s*s+120*s) (h:PR 403 B c l r):SR (n+1) U s r:=by
 refine⟨h.q,fun E N=>h.cw j3 E r0 _ (hc.cw E (by omega)) fun b hb=>(hl b hb).1 E (by omega),fun x hx=>?_,?_,?_⟩
 ·rcases h.ty x hx with h | ⟨b,hb,h⟩
  ·exact hc.ty x h
  ·exact(hl b hb).2.1 x h
 ·have h1:=h.tl;have h2:=qX (g:=tlC) (K:=6000) (l:=l) fun b hb=>(hl b hb).2.2
  have h3:=hc.tl;have h4:l.length*6000≤12*6000:=Ax _ I;omega
 ·have:=h.sz;omega
theorem aYc {B s:Nat}{c:Core}{l:List Core}(hn:n≤299) (W:U.length≤480000) (hc:ST n U c) (hl:∀b∈l,(∀E,n*3≤E→cw j3 E b r0≤3+E)∧(∀x∈tyR b,x∈U)∧tlC b≤6000) (I:l.length≤12) (hs:s≤3500000) (J:1≤B) (Y:60*(m30 c*B)≤s*s+120*s)
  (Z:∀b∈l,cB (QL 403) b) (N:∀b∈l,m30 b≤31*B) (O:∀b∈l,m30 b≤10000000):PO 1000 650000 403 B c l:=by
 refine⟨hc.q,(hc.cg (by omega) W).dep,Z,fun b hb=>?_,⟨U,?_,hc.ty,fun b hb=>(hl b hb).2.1⟩,J,N,ar3 hs Y,?_⟩
 ·have:=(hl b hb).1 (n*3) (le_refl _)
  have:=s4 (A:=j3) (E:=0) (E':=n*3) (Ak _) (c:=b) (ρ:=r0) (ρ':=r0) (fun _=>le_refl _);omega
 ·have h2:=qX (g:=tlC) (K:=6000) (l:=l) fun b hb=>(hl b hb).2.2
  have h3:=hc.tl;have h4:l.length*6000≤12*6000:=Ax _ I;omega
 ·have h2:=qX (g:=m30) (K:=10000000) (l:=l) O;have h4:l.length*10000000≤12*10000000:=Ax _ I;have:Big=250000000000:=rfl;omega
theorem aTb {i:Int}{s:Str}{t:Ty}{ks:List Core}{bs:List Bind}{al:List Alt}(h:ST n U (.mk 8 i s t ks bs al)) {b:Bind}(hb:b∈bs):
  cB (QL 403) (mJ bs b)∧((∀E,n*3≤E→cw j3 E (mJ bs b) r0≤3+E)∧(∀x∈tyR (mJ bs b),x∈U)∧tlC (mJ bs b)≤6000)∧m30 (mJ bs b)≤31*(fF bs/15+2)∧m30 (mJ bs b)≤10000000:=by
 have I:=h.bind hb;obtain⟨⟨g1,g2,g3,g4,g5,g6,g7,g8⟩,_,O,_⟩:=aS.1 h.q;have hs:=h.sz;rw[m30] at hs;have hm:=lY hb;have J:w30 ([]:Str)=30:=rfl;have em:m30 (mJ bs b)=31+m30 b.body+fF bs:=by
  unfold mJ;rw[m30,cE,cE,gP,J];omega
 have W:m30 b.body+31≤fF bs:=by
  have h1:=wI bs;have h2:m30 b.body≤cE (bs.map Bind.body):=fE (Ad.2 ⟨b,hb,rfl⟩);have h3:1≤bs.length:=List.length_pos_of_mem hb;omega
 refine⟨?_,⟨fun E N=>?_,fun x hx=>?_,?_⟩,by omega,by omega⟩
 ·unfold mJ;refine aS.2 ⟨⟨by simp[okF],fun e=>absurd e (by decide),rfl,g4,?_,fun e=>absurd e (by decide),g7,by simp⟩,by simpa using I.q,O,by simp⟩;unfold lw at g5 ⊢;rw[J];have:=jT s;simp only[By,sum_nil];omega
 ·unfold mJ;have g:=eZ.1 (h.cw E N);refine eZ.2 ⟨g.1,by rw[dZ];omega,fun x hx=>?_,g.2.2.2.1,by simp⟩;rw[Ac.1 hx,ψ (by decide)];exact I.cw E N
 ·unfold mJ at hx;rcases bI.1 hx with h1 | ⟨y,hy,h1,_⟩ | ⟨y,hy,h1⟩ | ⟨y,hy,_⟩
  ·cases h1
  ·rw[Ac.1 hy] at h1;exact I.ty x h1
  ·exact h.ty x (bI.2 (.inr (.inr (.inl ⟨y,hy,h1⟩))))
  ·cases hy
 ·unfold mJ;have g:=mL (f:=8) (n:=i) (s:=s) (t:=t) (ks:=ks) (bs:=bs) (al:=al);have ht:=h.tl;have:=(xY (K:=6000) (f:=8) (n:=0) (s:=[]) (t:=zTy) (ks:=[b.body]) (bs:=bs) (al:=[])).2 ⟨fun x hx=>by rw[Ac.1 hx];exact I.tl,fun x hx=>le_trans (g.2.1 x hx) ht,by simp⟩
  rwa [ψ (by decide),Bd] at this
theorem uU {i:Int}{s:Str}{t:Ty}{ks:List Core}{bs:List Bind}{al:List Alt}(h:cB (QL 403) (.mk 8 i s t ks bs al)):(∃a,ks=[a])∧al=[]∧bs.length≤12:=by
 obtain⟨⟨h1,_,_,_,h5,_⟩,_⟩:=aS.1 h;have h6:=aZ7 h5;rw[ξ] at h6;unfold okF at h1;rw[ψ (by decide),ψ (by decide),θ rfl] at h1;obtain⟨g1,g2⟩:=φ h1;rw[ξ] at g2;exact⟨Bp.1 g1,Bl.1 g2,h6⟩
theorem aH8:∀l:List (Str×List Str),31*l.length≤(l.map fun p=>1+w30 p.1+(p.2.map fun v=>1+w30 v).sum).sum
 | []=>by simp
 | p::l=>by
  have h1:=aH8 l;have h2:=jT p.1;rw[Al,Cb,Aj];omega
theorem xP {i:Int}{s:Str}{t:Ty}{ks:List Core}{bs:List Bind}{al:List Alt}(h:cB (QL 403) (.mk 9 i s t ks bs al)):(∃a,ks=[a])∧bs=[]∧al.length≤12∧∀a∈al,a.vars.length≤12:=by
 obtain⟨⟨h1,_,_,_,h5,_⟩,_⟩:=aS.1 h;unfold okF at h1;rw[ψ (by decide),ψ (by decide),ψ (by decide),θ rfl] at h1;obtain⟨g1,g2⟩:=φ h1;rw[ξ] at g2;refine⟨Bp.1 g1,Bl.1 g2,?_,fun a ha=>aZ8 h5 (Ad.2 ⟨a,ha,rfl⟩)⟩;unfold lw at h5;have h6:=aH8 (al.map ahd);rw[ξ] at h6;have:=jT s;omega
theorem aR2 (hn:n≤299) (O:U.length≤480000) {i:Int}{s:Str}{t:Ty}{a:Core}{bs:List Bind}(h:ST n U (.mk 8 i s t [a] bs [])):
  PO 1000 650000 403 (fF bs/15+2) a (bs.map (mJ bs))∧∀r,PR 403 (fF bs/15+2) a (bs.map (mJ bs)) r→SR (n+1) U (m30 (.mk 8 i s t [a] bs [])) r:=by
 have ha:=h.kid (by decide) (x:=a) ζ;have I:(bs.map (mJ bs)).length≤12:=by rw[ξ];exact(uU h.q).2.2
 have hl:∀b∈bs.map (mJ bs),cB (QL 403) b∧((∀E,n*3≤E→cw j3 E b r0≤3+E)∧(∀x∈tyR b,x∈U)∧tlC b≤6000)∧m30 b≤31*(fF bs/15+2)∧m30 b≤10000000:=fun b hb=>by
  obtain⟨W,J,rfl⟩:=Ad.1 hb;exact aTb h J
 have N:=ar2 (a:=m30 a) (b:=fF bs) (s:=m30 (.mk 8 i s t [a] bs [])) (by rw[m30,cE,cE];omega);exact⟨aYc hn O ha (fun b hb=>(hl b hb).2.1) I h.sz (by omega) N (fun b hb=>(hl b hb).1) (fun b hb=>(hl b hb).2.2.1) (fun b hb=>(hl b hb).2.2.2),fun _=>aR1 ha (fun b hb=>(hl b hb).2.1) I N⟩
theorem aPy (hn:n≤299) (O:U.length≤480000) {a:Alt}{c:Core}{s:Nat}(hs:m30 a.body+m30 c≤s) (J:s≤3500000) (ha:ST n U a.body) (hv:a.vars.length≤12) {l:List Core}(g1:∀x∈l,ST n U x) (g2:(l.map m30).sum≤m30 c) (hl:l.length=a.vars.length):
  PO 1000 650000 403 (m30 c/31+1) a.body l∧∀r,PR 403 (m30 c/31+1) a.body l r→SR (n+1) U s r:=by
 have hm:∀b∈l,m30 b≤m30 c:=fun b hb=>le_trans (vF hb) g2
 have I:∀b∈l,(∀E,n*3≤E→cw j3 E b r0≤3+E)∧(∀x∈tyR b,x∈U)∧tlC b≤6000:=fun b hb=>⟨(g1 b hb).cw,(g1 b hb).ty,(g1 b hb).tl⟩
 have N:=ar1 hs;exact⟨aYc hn O ha I (by omega) J (by omega) N (fun b hb=>(g1 b hb).q) (fun b hb=>by have:=hm b hb;omega) (fun b hb=>by have:=hm b hb;omega),fun _=>aR1 ha I (by omega) N⟩
theorem aMw (hn:n≤299) (J:U.length≤480000) {a:Alt}{c:Core}{s:Nat}(hs:m30 a.body+m30 c≤s) (I:s≤3500000) (ha:ST n U a.body) (hc:ST n U c) (hv:a.vars.length≤12) {nm:Str}{l:List Core}(hg:gvC c=some (nm,l)) (hl:l.length=a.vars.length):
  PO 1000 650000 403 (m30 c/31+1) a.body l∧∀r,PR 403 (m30 c/31+1) a.body l r→SR (n+1) U s r:=by
 obtain⟨g1,g2⟩:=aTf _ c (le_refl _) hc nm l hg;exact aPy hn J hs I ha hv g1 g2 hl
theorem aEf {x r:Core}:∀{ks:List Core}{j:Nat},ks[j]?=some x→cE (ks.set j r)+m30 x=cE ks+m30 r
 | y::ks,0,h=>by
  have e:y=x:=by simpa using h
  subst e;rw[List.set_cons_zero,cE,cE];omega
 | y::ks,j+1,h=>by
  rw[Cp,cE,cE];have:=aEf (r:=r) (ks:=ks) (j:=j) (by simpa using h);omega
theorem aYb {f i:Int}{s:Str}{t:Ty}{ks:List Core}{bs:List Bind}{al:List Alt}(h7:¬f=7) (h:ST n U (.mk f i s t ks bs al)) {j:Nat}{x r:Core}(hx:ks[j]?=some x) (I:SR (n+1) U (m30 x) r):
  SR (n+1) U (m30 (.mk f i s t ks bs al)) (aG6 (.mk f i s t ks bs al) j r):=by
 have J:=η hx;have hin:∀y∈ks.set j r,y=r∨y∈ks:=fun y hy=>(mem_or_eq_of_mem_set hy).symm
 obtain⟨g1,g2,g3,g4⟩:=aS.1 h.q;unfold aG6;refine⟨aS.2 ⟨by rw[B0];exact g1,fun y hy=>?_,g3,g4⟩,fun E N=>?_,fun y hy=>?_,?_,?_⟩
 ·rcases hin y hy with rfl | hy
  ·exact I.q
  ·exact g2 y hy
 ·obtain⟨O,W,Y,Z,c5⟩:=eZ.1 (h.cw E (by omega));refine eZ.2 ⟨O,W,fun y hy=>?_,Z,c5⟩;rcases hin y hy with rfl | hy
  ·rw[ψ h7];exact I.cw E N
  ·exact Y y hy
 ·rcases bI.1 hy with h1 | ⟨z,hz,h1,_⟩ | h1
  ·exact h.ty y (bI.2 (.inl h1))
  ·rcases hin z hz with rfl | hz
   ·exact I.ty y h1
   ·exact h.ty y (bI.2 (.inr (.inl ⟨z,hz,h1,.inl h7⟩)))
  ·exact h.ty y (bI.2 (.inr (.inr h1)))
 ·have g:=mL (f:=f) (n:=i) (s:=s) (t:=t) (ks:=ks) (bs:=bs) (al:=al);have ht:=h.tl;have:=(xY (K:=84000) (f:=f) (n:=i) (s:=s) (t:=t) (ks:=ks.set j r) (bs:=bs) (al:=al)).2 ⟨fun y hy=>?_,fun y hy=>by have:=g.2.1 y hy;omega,fun y hy=>by have:=g.2.2 y hy;omega⟩
  ·rwa [ψ h7,Bd] at this
  ·rcases hin y hy with rfl | hy
   ·exact I.tl
   ·have:=g.1 y hy;omega
 ·have g1:=aEf (r:=r) hx;have g2:=fE J;have e:m30 (.mk f i s t (ks.set j r) bs al)=m30 (.mk f i s t ks bs al)-m30 x+m30 r:=by
   rw[m30,m30];omega
  rw[e];exact ar4 (by rw[m30];omega) I.sz
end
theorem jJ {bd:List Bind}{k:Nat}{f i:Int}{s:Str}{t:Ty}{ks:List Core}{bs:List Bind}{al:List Alt}:bK bd (k+1) (.mk f i s t ks bs al)=
  if f=1 then(match bd.find? fun b=>decide (b.name=s) with | some b=>(b.body,0) | none=>(zC,51))
  else if f=4∨f=6 then
   (if f=4∧(ks.headD zC).form=5 then(dA (m30 ((ks.headD zC).kids.headD zC)) ((ks.headD zC).kids.headD zC) (ks.headD zC).name (ks.getD 1 zC),0)
   else if f=6∧(ks.headD zC).form=7 then(sTR (m30 ((ks.headD zC).kids.headD zC)) ((ks.headD zC).kids.headD zC) (ks.headD zC).name t,0)
   else mA (bK bd k) (.mk f i s t ks bs al) 0)
  else if f=8 then(xR (ks.headD zC) (bs.map Bind.name) (bs.map (mJ bs)),0)
  else if f=9 then(if shC (ks.headD zC)=true then(match al.findSome? fun a=>fI a (ks.headD zC) with | some r=>(r,0) | none=>(zC,52)) else mA (bK bd k) (.mk f i s t ks bs al) 0)
  else if f=10 then
   (if ¬shC (ks.headD zC)=true then mA (bK bd k) (.mk f i s t ks bs al) 0
   else if ¬shC (ks.getD 1 zC)=true then mA (bK bd k) (.mk f i s t ks bs al) 1
   else if(ks.headD zC).form=3∧(ks.getD 1 zC).form=3 then jO s (ks.headD zC).n (ks.getD 1 zC).n
   else(zC,51))
  else if f=11 then(zC,52)
  else(zC,51):=by rw[bK];rfl
structure BI (U:List Str) (bd:List Bind):Prop where
 len:bd.length≤1000
 all:∀b∈bd,ST 0 U b.body
theorem aUm {n w:Nat}{U:List Str}{s:Str}{a b:Int}(h:(jO s a b).2=0):SR n U w (jO s a b).1:=by
 have hi:∀m,SR n U w (j5 m):=fun m=>aCi (by decide) (by decide) (by decide) (by decide)
 have ht:∀c,SR n U w (aNi c):=fun c=>by cases c<;>exact aCi (by decide) (by decide) (by decide) (by decide)
 unfold jO at h ⊢;by_cases h1:s=aBn
 ·rw[θ h1];exact hi _
 rw[ψ h1] at h ⊢;by_cases h1:s=aWm
 ·rw[θ h1];exact hi _
 rw[ψ h1] at h ⊢;by_cases h1:s=aUt
 ·rw[θ h1];exact hi _
 rw[ψ h1] at h ⊢;by_cases h1:s=aOi
 ·rw[θ h1] at h ⊢;by_cases h0:b=0
  ·rw[θ h0] at h;cases h
  ·rw[ψ h0];exact hi _
 rw[ψ h1] at h ⊢;by_cases h1:s=nEq
 ·rw[θ h1];exact ht _
 rw[ψ h1] at h ⊢;by_cases h1:s=nLt
 ·rw[θ h1];exact ht _
 ·rw[ψ h1] at h;cases h
theorem aEp {sh:Bool}{p:CE}{g:Core→Core}(h:(aGk sh p g).2=0):sh=false∧p.2=0∧(aGk sh p g).1=g p.1:=by
 unfold aGk at h ⊢;cases sh with
 | true=>cases h
 | false=>
  rw[ψ Ar] at h ⊢;by_cases h0:p.2=0
  ·rw[θ h0];exact⟨rfl,h0,rfl⟩
  ·rw[ψ h0] at h;exact absurd h h0
theorem nB (W:cK 540000000000) {n:Nat}{U:List Str}(hn:n≤299) (Y:U.length≤480000) {bd:List Bind}(hB:BI U bd):∀(k:Nat) (c:Core),m30 c≤k→ST n U c→(bK bd k c).2=0→SR (n+1) U (m30 c) (bK bd k c).1:=by
 intro k
 induction k with
 | zero=>intro c h;have:=dX c;omega
 | succ k ih=>
 intro c h hc he;obtain⟨f,i,s,t,ks,bs,al⟩:=c;have J:∀j,¬f=7→(mA (bK bd k) (.mk f i s t ks bs al) j).2=0→SR (n+1) U (m30 (.mk f i s t ks bs al)) (mA (bK bd k) (.mk f i s t ks bs al) j).1:=fun j h7 he=>by
  unfold mA at he ⊢;cases hx:ks[j]? with
  | none=>
   have O:(Core.mk f i s t ks bs al).kids[j]?=none:=hx;rw[O] at he;cases he
  | some x=>
   have O:(Core.mk f i s t ks bs al).kids[j]?=some x:=hx;rw[O] at he ⊢;dsimp only at he ⊢;obtain⟨_,Z,N⟩:=aEp he;rw[N];have aa:=η hx;exact aYb h7 hc hx (ih x (by have:=fE aa;rw[m30] at h;omega) (hc.kid h7 aa) Z)
 rw[jJ] at he ⊢;by_cases h1:f=1
 ·rw[θ h1] at he ⊢;cases hf:bd.find? fun b=>decide (b.name=s) with
  | none=>rw[hf] at he;cases he
  | some b=>exact((hB.all b (B3 hf)).mono (Ak _)).sr
 rw[ψ h1] at he ⊢;by_cases ab:f=4∨f=6
 ·rw[θ ab] at he ⊢;by_cases ha:f=4∧(ks.headD zC).form=5
  ·rw[θ ha];obtain⟨rfl,ha⟩:=ha;obtain⟨⟨a,b,rfl⟩,rfl,rfl⟩:=hY hc.q (.inl rfl);have ka:=hc.kid (by decide) (x:=a) ζ;have kb:=hc.kid (by decide) (x:=b) (κ _ ζ);obtain⟨f',i',s',t',ks',bs',al'⟩:=a;have ha:f'=5:=ha;subst ha;obtain⟨⟨body,rfl⟩,rfl,rfl⟩:=dD ka.q (.inl rfl);exact(aR3 W hn Y (ka.kid (by decide) (x:=body) ζ) kb (by rw[m30,cE,cE,cE,m30,cE,cE];omega)).2
  rw[ψ ha] at he ⊢;by_cases hb:f=6∧(ks.headD zC).form=7
  ·rw[θ hb];obtain⟨rfl,hb⟩:=hb;obtain⟨⟨a,rfl⟩,rfl,rfl⟩:=dD hc.q (.inr (.inl rfl));have ka:=hc.kid (by decide) (x:=a) ζ;obtain⟨f',i',s',t',ks',bs',al'⟩:=a;have hb:f'=7:=hb;subst hb;obtain⟨⟨body,rfl⟩,rfl,rfl⟩:=dD ka.q (.inr (.inr rfl));exact(aMv W hn Y hc).2
  rw[ψ hb] at he ⊢;exact J 0 (by omega) he
 rw[ψ ab] at he ⊢;by_cases h8:f=8
 ·rw[θ h8];subst h8;obtain⟨⟨a,rfl⟩,rfl,h12⟩:=uU hc.q;obtain⟨g1,g2⟩:=aR2 hn Y hc;exact g2 _ (aPg W (by decide) (by decide) a _ _ (by rw[ξ,ξ]) (by rw[ξ];omega) g1).2
 rw[ψ h8] at he ⊢;by_cases h9:f=9
 ·rw[θ h9] at he ⊢;subst h9;obtain⟨⟨a,rfl⟩,rfl,h12,hv⟩:=xP hc.q;cases ac:shC a with
  | true=>
   have e:shC ([a].headD zC)=true:=ac;rw[θ e] at he ⊢;have ka:=hc.kid (by decide) (x:=a) ζ;cases ad:al.findSome? fun x=>fI x ([a].headD zC) with
   | none=>rw[ad] at he;cases he
   | some r=>
    obtain⟨x,hx,I⟩:=List.exists_of_findSome?_eq_some ad;have kx:=hc.alt hx;have I:fI x a=some r:=I;have hm:=i7 hx;have hsz:=hc.sz;show SR (n+1) U _ r;unfold fI at I;by_cases e1:x.form=3
    ·rw[θ e1] at I;cases I;exact(kx.mono (Nat.le_succ _)).sr
    rw[ψ e1] at I;by_cases Z:x.form=2
    ·rw[θ Z] at I;by_cases N:a.form=3∧a.n=x.n
     ·rw[θ N] at I;cases I;exact(kx.mono (Nat.le_succ _)).sr
     ·rw[ψ N] at I;cases I
    rw[ψ Z] at I;cases hg:gvC a with
    | none=>rw[hg] at I;cases I
    | some p=>
     obtain⟨nm,l⟩:=p;rw[hg] at I;dsimp only at I;by_cases N:nm=x.name∧l.length=x.vars.length
     ·rw[θ N] at I;cases I;obtain⟨g1,g2⟩:=aMw hn Y (s:=m30 (.mk 9 i s t [a] [] al)) (by rw[m30,cE,cE];omega) hsz kx ka (hv x hx) hg N.2;exact g2 _ (aPg W (by decide) (by decide) x.body _ _ N.2.symm (by have:=hv x hx;omega) g1).2
     ·rw[ψ N] at I;cases I
  | false=>
   have e:¬shC ([a].headD zC)=true:=by rw[show shC ([a].headD zC)=shC a from rfl,ac];decide
   rw[ψ e] at he ⊢;exact J 0 (by decide) he
 rw[ψ h9] at he ⊢;by_cases ae:f=10
 ·rw[θ ae] at he ⊢;by_cases g1:¬shC (ks.headD zC)=true
  ·rw[θ g1] at he ⊢;exact J 0 (by omega) he
  rw[ψ g1] at he ⊢;by_cases g2:¬shC (ks.getD 1 zC)=true
  ·rw[θ g2] at he ⊢;exact J 1 (by omega) he
  rw[ψ g2] at he ⊢;by_cases g3:(ks.headD zC).form=3∧(ks.getD 1 zC).form=3
  ·rw[θ g3] at he ⊢;exact aUm he
  ·rw[ψ g3] at he;cases he
 rw[ψ ae] at he;by_cases ag:f=11
 ·rw[θ ag] at he;cases he
 ·rw[ψ ag] at he;cases he
mutual
theorem kU {X:Nat}:∀c:Core,cB (QL X) c→m30 c≤X*eX c
 | .mk f n s t ks bs al,h=>by
  obtain⟨⟨_,_,_,_,h5,_⟩,h2,h3,h4⟩:=aS.1 h;have I:=u1 ks h2;have J:=u2 bs h3;have N:=u4 al h4;unfold lw at h5;rw[m30,eX,Cv,Cv,Cv,mul_one];omega
theorem u1 {X:Nat}:∀l:List Core,(∀x∈l,cB (QL X) x)→cE l≤X*dC l
 | [],_=>by rw[cE];exact Ak _
 | c::l,h=>by
  rw[cE,dC,Cv];have:=kU c (h c ζ);have:=u1 l fun x hx=>h x (κ _ hx)
  omega
theorem u2 {X:Nat}:∀l:List Bind,(∀x∈l,cB (QL X) x.body)→fF l≤X*jU l+((l.map bhd).map fun p=>1+w30 p.1).sum
 | [],_=>by rw[fF];exact Ak _
 | .mk s t c::l,h=>by
  rw[fF,jU,Cv,Al,Al,Cb];have:=kU c (h _ ζ);have:=u2 l fun x hx=>h x (κ _ hx)
  show _≤_+(1+w30 s+_);omega
theorem u4 {X:Nat}:∀l:List Alt,(∀x∈l,cB (QL X) x.body)→gP l≤X*jV l+((l.map ahd).map fun p=>1+w30 p.1+(p.2.map fun v=>1+w30 v).sum).sum
 | [],_=>by rw[gP];exact Ak _
 | .mk f n s v c::l,h=>by
  rw[gP,jV,Cv,Al,Al,Cb];have:=kU c (h _ ζ);have:=u4 l fun x hx=>h x (κ _ hx)
  show _≤_+(1+w30 s+(v.map fun v=>1+w30 v).sum+_);omega
end
mutual
theorem n8:∀c:Core,tlC c≤eX c
 | .mk f n s t ks bs al=>by
  have I:=xV ks;have J:=xW bs;have N:=xX al;rw[tlC,eX];split<;>omega
theorem xV:∀l:List Core,iU l≤dC l
 | []=>by rw[iU];exact Ak _
 | c::l=>by rw[iU,dC];have:=n8 c;have:=xV l;omega
theorem xW:∀l:List Bind,pQ l≤jU l
 | []=>by rw[pQ];exact Ak _
 | .mk s t c::l=>by rw[pQ,jU];have:=n8 c;have:=xW l;omega
theorem xX:∀l:List Alt,oV l≤jV l
 | []=>by rw[oV];exact Ak _
 | .mk f n s v c::l=>by rw[oV,jV];have:=n8 c;have:=xX l;omega
end
theorem SR.st {n s:Nat}{U:List Str}{c:Core}(h:SR n U s c) (hs:eX c≤6000):ST n U c:=
 ⟨h.q,h.cw,h.ty,le_trans (n8 c) hs,by have:=kU c h.q;have:403*eX c≤403*6000:=mul_le_mul_left _ hs;omega⟩
theorem uQ {p q:Prop} [Decidable p] [Decidable q] (h:(bif decide p then decide q else false)=true):p∧q:=by
 by_cases hp:p
 ·rw[Ai hp] at h;exact⟨hp,φ h⟩
 ·rw[Am hp] at h;cases h
theorem RowsLe.snoc {r r':List C}(h:CsLe r r'):∀l:List (List C),RowsLe (l++[r]) (l++[r'])
 | []=>.cons h .nil
 | x::l=>.cons (CsLe.refl x) (RowsLe.snoc h l)
def aEq {α:Type}(p:α→Bool):List α→Nat→Int
 | [],_=> -1
 | x::l,i=>if p x=true then(i:Int) else aEq p l (i+1)
theorem rP {α:Type}(p:α→Bool):∀(l:List α) (i:Nat),(∃(k:Nat) (x:α),aEq p l i=((i+k:Nat):Int)∧l[k]?=some x∧l.find? p=some x)∨(aEq p l i= -1∧l.find? p=none)
 | [],i=>.inr ⟨rfl,rfl⟩
 | x::l,i=>by
  rw[aEq,List.find?_cons];cases h:p x with
  | true=>rw[θ rfl];exact .inl ⟨0,x,rfl,rfl,rfl⟩
  | false=>
   rw[ψ Ar];rcases rP p l (i+1) with⟨k,y,h1,h2,h3⟩ | h
   ·exact .inl ⟨k+1,y,by rw[h1];congr 1;omega,h2,h3⟩
   ·exact .inr h
theorem aT5 (b:Bind) (f n:Int) (s:Str) (t:Ty) (ks:List Core) (bs:List Bind) (al:List Alt):aW Tryz.prog 105 ([.pa (bC b)]++[R.vp 3 0].map V.one) [(3,.var 37 (b9 (.mk f n s t ks bs al)))] (B (decide (b.name=s))) [(3,.var 37 (b9 (.mk f n s t ks bs al)))]:=by
 refine bT (n:=9) tok Tryz.func105 rfl rfl rfl ?_;exact sgh [(0,.id 12)] rfl (sg rfl (aI rtT))
theorem aLq (l:List Bind) (hl:l.length≤1000000000) (f n:Int) (s:Str) (t:Ty) (ks:List Core) (bs:List Bind) (al:List Alt):aW Tryz.prog 104 [.one (.c (.sl 15 (l.map bC))),.one (.clo 105 [.vp 3 0])] [(3,.var 37 (b9 (.mk f n s t ks bs al)))] (I .i64 (aEq (fun b:Bind=>decide (b.name=s)) l 0)) [(3,.var 37 (b9 (.mk f n s t ks bs al)))]:=by
 have N:(l.map bC).length=l.length:=ξ _;refine bT (n:=19) tok Tryz.func104 rfl rfl rfl ?_;refine sg rfl (a8 (sg rfl (aC (aL (fun i:Nat=>mk [(0,.one (.c (.sl 15 (l.map bC)))),(1,.one (.clo 105 [.vp 3 0])),(7,I .i64 ((l.map bC).length:Int)),(8,I .i64 i)] [(3,.var 37 (b9 (.mk f n s t ks bs al)))]) (fun i=>i≤l.length∧aEq (fun b:Bind=>decide (b.name=s)) l 0=aEq (fun b:Bind=>decide (b.name=s)) (l.drop i) i) (fun i=>l.length-i) 0 ⟨Ak _,rfl⟩ sl ?_))));intro i ⟨hi,hid⟩;refine sg rfl (a8 (aA rfl (fun hb=>?_) (fun hb=>?_)))
 ·have J:=ltD hb N;obtain⟨b,O⟩:=aK J;have Z:=bJ bC O;have hc:=aT5 b f n s t ks bs al;have W:l.drop i=b::l.drop (i+1):=by rw[Ca J,(ε.1 O).2]
  rw[W,aEq] at hid;refine aD (a8 (aC (sg rfl (skh 5 [(3,.row i (bC b))] rfl (kv (args:=[.pa (bC b)]) hc ?_)))));refine az (aA rfl (fun hb=>?_) (fun hb=>?_))
  ·rw[θ hb] at hid;rw[hid];exact sg rfl (aI rtT)
  ·rw[ψ (by rw[show decide (b.name=s)=false from hb];exact Ar)] at hid;exact aD (ag [] rfl ⟨i+1,⟨J,hid⟩,by dsimp only;omega,sl⟩)
 have Y:=geD hb N hi;subst Y;rw[drop_length,aEq] at hid;rw[hid];exact aM (sg rfl (aI rtT))
theorem aTx (m:Mod) (hm:m.binds.length≤1000000000) (f n:Int) (s:Str) (t:Ty) (ks:List Core) (bs:List Bind) (al:List Alt):
  aW Tryz.prog 68 [.pa (kD m),.pa (aB (.mk f n s t ks bs al))] [] (eW (match m.binds.find? fun b=>decide (b.name=s) with | some b=>(b.body,0) | none=>(zC,51))) []:=by
 have I:=aLq m.binds hm f n s t ks bs al;rcases rP (fun b:Bind=>decide (b.name=s)) m.binds 0 with⟨k,b,h1,h2,h3⟩ | ⟨h1,h3⟩
 ·rw[h1,Bd] at I;rw[h3];have J:=bJ bC h2;have N:=(ε.1 h2).1
  refine bT (n:=22) tok Tryz.func68 rfl rfl rfl ?_;refine sg rfl (sk 4 rfl (kc I ?_));exact kz 1 rfl (a8 (sg rfl (aA rfl (fun hb=>absurd (φ hb) (by omega)) (fun _=>aD (sgh [(4,.row k (bC b))] rfl (aI (iB trw)))))))
 ·rw[h1] at I;rw[h3];refine bT (n:=22) tok Tryz.func68 rfl rfl rfl ?_;refine sg rfl (sk 4 rfl (kc I ?_));exact kz 1 rfl (a8 (sg rfl (aA rfl (fun _=>sg rfl (aI (iB trw))) (fun hb=>absurd hb (by decide)))))
section
variable {n:Nat}{U:List Str}
theorem aLv (m:Mod) (i:Int) (s:Str) (t:Ty) (body b r:Core) (i':Int) (s':Str) (t':Ty) (I:aW Tryz.prog 106 [.pa (aB body),Go.AM.T s',.pa (aB b)] [] (.pa (aB r)) []):
  aW Tryz.prog 69 [.pa (kD m),.pa (aB (.mk 4 i s t [.mk 5 i' s' t' [body] [] [],b] [] []))] [] (eW (r,0)) []:=by
 refine bT (n:=54) tok Tryz.func69 rfl rfl rfl ?_;refine sg rfl (sgh [(2,.row 0 (aB (.mk 5 i' s' t' [body] [] [])))] rfl (a8 (aC (a8 (agF 4 [] rfl rfl rfl (aA rfl (fun _=>skh 10 [(2,.row 0 (aB body)),(8,.row 1 (aB b))] rfl (kc I ?_)) (fun hb=>absurd hb (by simp[Core.form]))))))));exact kz 2 rfl (aI (iB trw))
theorem aX2 (J:cK 540000000000) (hn:n≤299) (N:U.length≤480000) (m:Mod) (i:Int) (s:Str) (t:Ty) (body b:Core) (i':Int) (s':Str) (t':Ty) (h:ST n U (.mk 4 i s t [.mk 5 i' s' t' [body] [] [],b] [] [])):
  aW Tryz.prog 69 [.pa (kD m),.pa (aB (.mk 4 i s t [.mk 5 i' s' t' [body] [] [],b] [] []))] [] (eW (dA (m30 body) body s' b,0)) []:=by
 have ka:=h.kid (by decide) (x:=.mk 5 i' s' t' [body] [] []) ζ;have kb:=h.kid (by decide) (x:=b) (κ _ ζ);have I:=ka.kid (by decide) (x:=body) ζ;exact aLv m i s t body b _ i' s' t' (aR3 J hn N I kb (nm:=s') (s:=m30 body+m30 b) (le_refl _)).1.imp
theorem aX1 (I:cK 540000000000) (hn:n≤299) (J:U.length≤480000) (m:Mod) (i:Int) (s:Str) (t:Ty) (body:Core) (i':Int) (s':Str) (t':Ty) (h:ST n U (.mk 6 i s t [.mk 7 i' s' t' [body] [] []] [] [])):
  aW Tryz.prog 69 [.pa (kD m),.pa (aB (.mk 6 i s t [.mk 7 i' s' t' [body] [] []] [] []))] [] (eW (sTR (m30 body) body s' t,0)) []:=by
 have N:=(aMv I hn J h (w:=0)).1.imp;refine bT (n:=54) tok Tryz.func69 rfl rfl rfl ?_;refine sg rfl (sgh [(2,.row 0 (aB (.mk 7 i' s' t' [body] [] [])))] rfl (a8 (aC (a8 (agF 4 [] rfl rfl rfl (aA rfl (fun hb=>absurd hb (by simp[Core.form])) (fun _=>a8 (agF 4 [] rfl rfl rfl (aA rfl (fun _=>skh 8 [(2,.row 0 (aB body))] rfl (kc N ?_)) (fun hb=>absurd hb (by simp[Core.form])))))))))));exact kz 2 rfl (aI (iB trw))
theorem aX0 (m:Mod) (f i:Int) (s:Str) (t:Ty) (a:Core) (ks:List Core) (bs:List Bind) (al:List Alt) (p:CE) (h1:¬(f=4∧a.form=5)) (h2:¬(f=6∧a.form=7))
  (hk:aW Tryz.prog 107 [.pa (kD m),.pa (aB (.mk f i s t (a::ks) bs al)),I .i64 (0:Nat)] [] (eW p) []):
  aW Tryz.prog 69 [.pa (kD m),.pa (aB (.mk f i s t (a::ks) bs al))] [] (eW p) []:=by
 refine bT (n:=54) tok Tryz.func69 rfl rfl rfl ?_;refine sg rfl (sgh [(2,.row 0 (aB a))] rfl (a8 (AWp.cut (mk [(2,.one (.vp 2 0)),(3,.one (.vp 3 0)),(4,.one (.vp 4 0))] [(2,.var 82 ((kD m).map .c)),(3,.var 37 (b9 (.mk f i s t (a::ks) bs al))),(4,.var 37 bM)]) ?_ ?_)))
 ·exact aC (a8 (agF 4 [] rfl rfl rfl (aA rfl (fun hb=>(h1 (uQ hb)).elim) (fun _=>a8 (agF 4 [] rfl rfl rfl (aA rfl (fun hb=>(h2 (uQ hb)).elim) (fun _=>aD sl)))))))
 refine sk 2 rfl (kc hk ?_);exact kz 4 rfl (aI (iB trw))
theorem aZv (hI:cK 540000000000) (hn:n≤299) (hU:U.length≤480000) (m:Mod) (i:Int) (s:Str) (t:Ty) (a:Core) (bs:List Bind) (h:ST n U (.mk 8 i s t [a] bs [])):
  aW Tryz.prog 70 [.pa (kD m),.pa (aB (.mk 8 i s t [a] bs []))] [] (eW (xR a (bs.map Bind.name) (bs.map (mJ bs)),0)) []:=by
 have h12:=(uU h.q).2.2
 have Y:=(aPg hI (by decide) (by decide) a (bs.map Bind.name) (bs.map (mJ bs)) (by rw[ξ,ξ]) (by rw[ξ];omega) (aR2 hn hU h).1).1
 have O:(aR bs).length=bs.length:=by rw[bP,ξ]
 refine bT (n:=39) tok Tryz.func70 rfl rfl rfl ?_;refine sg rfl (sg rfl (sg rfl (AWp.sub (Sub.own (t:=6) (id:=720) 9 1 rfl rfl) ?_)));refine AWp.sub (Sub.own (t:=7) (id:=721) 37 10 rfl rfl) ?_;refine a8 (sg rfl (aC (aL (fun k:Nat=>mk [(3,.one (.vp 3 0)),(4,.one (.vp 4 0)),(6,.one (.hs 720 0 ((bs.take k).map Bind.name).length ((bs.take k).map Bind.name).length)),(7,.one (.hs 721 0 ((bs.take k).map (mJ bs)).length ((bs.take k).map (mJ bs)).length)),(11,.one (.c (.sl 15 (aR bs)))),(12,I .i64 ((aR bs).length:Int)),(13,I .i64 k)] [(3,.var 37 (b9 (.mk 8 i s t [a] bs []))),(4,.var 37 bM),(720,.arr 9 1 (((bs.take k).map Bind.name).map bO) 0),(721,.arr 37 10 (((bs.take k).map (mJ bs)).map aB) 0)]) (fun k=>k≤bs.length) (fun k=>bs.length-k) 0 (Ak _) sl ?_)));intro k hk;refine sg rfl (a8 (aA rfl (fun hb=>?_) (fun hb=>?_)))
 ·have W:=ltD hb O;obtain⟨b,J⟩:=aK W;have hbi':=dJ J;have e1:(bs.take (k+1)).map Bind.name=(bs.take k).map Bind.name++[b.name]:=by rw[Bh,J,As];rfl
  have e2:(bs.take (k+1)).map (mJ bs)=(bs.take k).map (mJ bs)++[mJ bs b]:=by rw[Bh,J,As];rfl
  have hl1:((bs.take k).map Bind.name).length≤12:=by rw[ξ,At];omega
  have hl2:((bs.take k).map (mJ bs)).length≤12:=by rw[ξ,At];omega
  have hx1:(((bs.take k).map Bind.name).map bO).length=((bs.take k).map Bind.name).length:=ξ _;have hx2:(((bs.take k).map (mJ bs)).map aB).length=((bs.take k).map (mJ bs)).length:=ξ _;generalize (bs.take k).map Bind.name=N at *;generalize (bs.take k).map (mJ bs)=L at *;refine aD (a8 (aC (sgh [(0,.row k (bC b))] rfl (sgh [(3,.all)] rfl (ag [(5,.all),(7,.all)] rfl (AWp.sub (Sub.arrWeak (x:=721) rfl (RowsLe.snoc (r':=aB (mJ bs b)) ?_ (L.map aB))) ?_))))))
  ·repeat (first | exact .nil | apply Go.AM.CsLe.cons .refl | apply Go.AM.CsLe.cons .nl)
  refine ag [] rfl ⟨k+1,W,by dsimp only;omega,?_⟩;dsimp only;rw[e1,e2];exact sl
 have Z:=geD hb O hk;subst Z;rw[Au];refine aM (AWp.sub (Sub.freeze (id:=720) rfl) ?_);refine AWp.sub (Sub.freeze (id:=721) rfl) ?_;refine skh 6 [(2,.row 0 (aB a))] rfl (kc Y ?_);exact kz 2 rfl (aI (iB trw))
end
noncomputable def tkP (a:Alt) (c:Core):Core×Bool:=
 if a.form=3 then(a.body,true)
 else if a.form=2 then(a.body,decide (c.form=3)&&decide (c.n=a.n))
 else match gvC c with
  | some (s,l)=>if s=a.name∧l.length=a.vars.length then(xR a.body a.vars l,true) else(zC,false)
  | none=>(zC,false)
theorem aH4 (a:Alt) (c:Core):fI a c=if(tkP a c).2=true then some (tkP a c).1 else none:=by
 unfold fI tkP;by_cases h3:a.form=3
 ·rw[θ h3,θ h3];rfl
 rw[ψ h3,ψ h3];by_cases h2:a.form=2
 ·rw[θ h2,θ h2];by_cases h:c.form=3∧c.n=a.n
  ·rw[θ h,θ (by simp[h.1,h.2])]
  ·rw[ψ h,ψ (by simpa using h)]
 rw[ψ h2,ψ h2];cases gvC c with
 | none=>rfl
 | some p=>
  obtain⟨s,l⟩:=p;dsimp only;by_cases h:s=a.name∧l.length=a.vars.length
  ·simp[θ h]
  ·simp[ψ h]
theorem aVc {f i:Int}{s:Str}{vs:List Str}{body:Core}{I J:Int}{cs:Str}{N:Ty}{ks:List Core}{bs:List Bind}{al:List Alt}:tkP (.mk f i s vs body) (.mk I J cs N ks bs al)=
  if f=3 then(body,true)
  else if f=2 then(body,decide (I=3)&&decide (J=i))
  else match gvC (.mk I J cs N ks bs al) with
   | some (s1,l)=>if s1=s∧l.length=vs.length then(xR body vs l,true) else(zC,false)
   | none=>(zC,false):=rfl
theorem aT1 (a:Alt) (c:Core) (hl:aU c≤570000000000) (hg:aW Tryz.prog 67 [.pa (aB c)] [] (wQ (gvC c)) [])
  (hp:∀s l,gvC c=some (s,l)→l.length=a.vars.length→aW Tryz.prog 108 [.pa (aB a.body),bN a.vars,.one (.c (.sl 10 (l.map aB)))] [] (.pa (aB (xR a.body a.vars l))) []):
  aW Tryz.prog 109 [.pa (cR a),.pa (aB c)] [] (.tup [.pa (aB (tkP a c).1),B (tkP a c).2]) []:=by
 obtain⟨f,i,s,vs,body⟩:=a;obtain⟨I,N,cs,W,ks,bs,al⟩:=c;rw[aVc];refine bT (n:=58) tok Tryz.func109 rfl rfl rfl ?_;refine sg rfl (a8 (sg rfl ?_));by_cases h3:f=3
 ·subst h3;rw[θ rfl];exact aC (sg rfl (aA rfl (fun _=>sg rfl (aI (iB trw))) (fun hb=>by simp[Alt.form] at hb)))
 rw[ψ h3];by_cases h2:f=2
 ·subst h2;rw[θ rfl];refine aC (sg rfl (aA rfl (fun hb=>by simp[Alt.form] at hb) (fun _=>sg rfl (aA rfl (fun _=>?_) (fun hb=>by simp[Alt.form] at hb)))));by_cases hc:I=3
  ·have hd:decide (I=3)=true:=Ai hc;have e:(decide (I=3)&&decide (N=i))=decide (N=i):=by rw[hd];rfl
   rw[e];exact sgh [(5,.bv true),(11,.bv true)] rfl (aI (iB trw))
  ·have hd:decide (I=3)=false:=Am hc;have e:(decide (I=3)&&decide (N=i))=false:=by rw[hd];rfl
   rw[e];exact sgh [(5,.bv false),(11,.bv false)] rfl (aI (iB trw))
 rw[ψ h2];refine AWp.cut (mk [(2,.one (.vp 2 0)),(3,.one (.vp 3 0)),(4,.one (.vp 4 0))] [(2,.var 88 ((cR (.mk f i s vs body)).map .c)),(3,.var 37 (b9 (.mk I N cs W ks bs al))),(4,.var 37 bM)]) ?_ ?_
 ·exact aC (sg rfl (aA rfl (fun hb=>absurd (φ hb) h3) (fun _=>sg rfl (aA rfl (fun hb=>absurd (φ hb) h2) (fun _=>aD sl)))))
 cases O:gvC (.mk I N cs W ks bs al) with
 | none=>
  rw[O] at hg;exact sgh [(1,.pc (wQ none))] rfl (a8 (a8 (agF 3 [] rfl rfl rfl (aA rfl (fun _=>sg rfl (aI (iB trw))) (fun hb=>by simp[Alt.form] at hb)))))
 | some p=>
  obtain⟨s1,J⟩:=p;rw[O] at hg;have Z:(J.map aB).length=J.length:=ξ _;have aa:(vs.map bO).length=vs.length:=ξ _;dsimp only;refine sgh [(1,.pc (wQ (some (s1,J))))] rfl (a8 (a8 (agF 3 [] rfl rfl rfl (aA rfl (fun hb=>?_) (fun hb=>?_)))))
  ·have hn:¬(s1=s∧J.length=vs.length):=by
    rintro⟨rfl,h⟩;simp[h,Alt.name,Alt.vars] at hb
   rw[ψ hn];exact sg rfl (aI (iB trw))
  ·have hy:s1=s∧J.length=vs.length:=by
    simp at hb;have h2:(J.length:Int)=(vs.length:Int):=hb.2;exact⟨hb.1,by omega⟩
   rw[θ hy];have Y:=hp s1 J O hy.2;refine aD (sk 5 rfl (kc Y ?_));exact kz 2 rfl (aI (iB trw))
theorem aT7 (m:Mod) (i:Int) (s:Str) (t:Ty) (a:Core) (al:List Alt) (p:CE) (hl:al.length≤12) (O:aW Tryz.prog 29 [.pa (aB a)] [] (B (shC a)) [])
  (hk:shC a=false→aW Tryz.prog 107 [.pa (kD m),.pa (aB (.mk 9 i s t [a] [] al)),I .i64 (0:Nat)] [] (eW p) [])
  (W:∀x∈al,aW Tryz.prog 109 [.pa (cR x),.pa (aB a)] [] (.tup [.pa (aB (tkP x a).1),B (tkP x a).2]) []):
  aW Tryz.prog 71 [.pa (kD m),.pa (aB (.mk 9 i s t [a] [] al))] [] (eW (if shC a=true then(match al.findSome? fun x=>fI x a with | some r=>(r,0) | none=>(zC,52)) else p)) []:=by
 have N:(c8 al).length=al.length:=by rw[c6,ξ]
 refine bT (n:=41) tok Tryz.func71 rfl rfl rfl ?_;refine sg rfl (a8 (skh 4 [(2,.row 0 (aB a))] rfl (kc O ?_)));refine kz 1 rfl ?_;cases hs:shC a with
 | false=>
  have hk:=hk hs;rw[ψ Ar];refine aA rfl (fun _=>sk 2 rfl (kc hk ?_)) nofun;exact kz 4 rfl (aI (iB trw))
 | true=>
  rw[θ rfl];refine aA rfl nofun (fun _=>aD (a8 (sg rfl (aC (aL (fun k:Nat=>mk [(3,.one (.vp 3 0)),(4,.one (.vp 4 0)),(22,.one (.c (.sl 14 (c8 al)))),(23,I .i64 ((c8 al).length:Int)),(24,I .i64 k)] [(3,.var 37 (b9 (.mk 9 i s t [a] [] al))),(4,.var 37 bM)]) (fun k=>k≤al.length∧(al.findSome? fun x=>fI x a)=(al.drop k).findSome? fun x=>fI x a) (fun k=>al.length-k) 0 ⟨Ak _,rfl⟩ sl ?_)))));intro k ⟨hi,hid⟩;refine sg rfl (a8 (aA rfl (fun hb=>?_) (fun hb=>?_)))
  ·have J:=ltD hb N;obtain⟨x,hx⟩:=aK J;have hx':(c8 al)[k]?=some (cR x):=by rw[c6];exact bJ cR hx
   have ht:=W x (η hx);have Y:al.drop k=x::al.drop (k+1):=by rw[Ca J,(ε.1 hx).2]
   rw[Y,Cq,aH4] at hid;generalize tkP x a=q at *;obtain⟨qc,qb⟩:=q;refine aD (a8 (aC (sgh [(0,.row k (cR x))] rfl (skh 5 [(3,.row 0 (aB a))] rfl (kc ht ?_)))));refine kz 6 rfl (sg rfl ?_);cases qb with
   | true=>
    rw[θ rfl] at hid;dsimp only at hid;rw[hid];exact aA rfl (fun _=>sg rfl (aI (iB trw))) nofun
   | false=>
    rw[ψ Ar] at hid;dsimp only at hid;exact aA rfl nofun (fun _=>aD (ag [] rfl ⟨k+1,⟨J,hid⟩,by dsimp only;omega,sl⟩))
  have Z:=geD hb N hi;subst Z;rw[drop_length,List.findSome?_nil] at hid;rw[hid];exact aM (sg rfl (aI (iB trw)))
noncomputable def eqB {α:Type}(a b:α):Bool:= @decide (a=b) (Classical.propDecidable _)
theorem aK6 {α:Type}{a b:α}(h:a=b):eqB a b=true:= @decide_eq_true _ (Classical.propDecidable _) h
theorem aK7 {α:Type}{a b:α}(h:¬a=b):eqB a b=false:= @decide_eq_false _ (Classical.propDecidable _) h
theorem lT {α:Type}{a b:α}(h:eqB a b=true):a=b:= @of_decide_eq_true _ (Classical.propDecidable _) h
theorem wB {α:Type}{a b:α}(h:eqB a b=false):¬a=b:= @of_decide_eq_false _ (Classical.propDecidable _) h
theorem wO {α:Type}{l m:List α}(h:l.length=m.length) (he:∀j,j<l.length→l[j]?=m[j]?):l=m:=
 Bo fun j=>by
  by_cases hj:j<l.length
  ·exact he j hj
  ·rw[List.getElem?_eq_none (by omega),List.getElem?_eq_none (by omega)]
theorem aXn:∀(k:Nat) (t u:Ty),tn t≤k→tn t≤1000000000→aW Tryz.prog 99 [tyV t,tyV u] [] (B (eqB t u)) []:=by
 intro k
 induction k with
 | zero=>intro t u h;have:=kG t;omega
 | succ k ih=>
 intro t u h Y;obtain⟨f,n,s,a⟩:=t;rw[tn] at h Y;have hal:=aAw a;obtain⟨f',n',s',J⟩:=u;have O:(dT a).length=a.length:=by rw[eU,ξ]
 have hkA':(dT J).length=J.length:=by rw[eU,ξ]
 refine bT (n:=55) tok Tryz.func99 rfl rfl rfl ?_;refine sg rfl (a8 (a8 (agF 6 [] rfl rfl rfl (aA rfl (fun hb=>?_) (fun hb=>?_)))))
 ·rw[aK7 (fun e=>by cases e;simp at hb)];exact sg rfl (aI rtT)
 simp[Ty.form,Ty.n,Ty.name,gC] at hb;obtain⟨d1,d2,d3,d4⟩:=hb;obtain rfl:=φ d1;obtain rfl:=φ d2;obtain rfl:=φ d3;have e4:a.length=J.length:=by have:=φ d4;omega
 refine aD (a8 (sg rfl (aC (aL (fun i:Nat=>mk [(2,.one (.vp 2 0)),(3,.one (.vp 3 0)),(5,I .i64 i)] [(2,.var 33 ((bD (.mk f n s a)).map .c)),(3,.var 33 ((bD (.mk f n s J)).map .c))]) (fun i=>i≤a.length∧∀j,j<i→a[j]?=J[j]?) (fun i=>a.length-i) 0 ⟨Ak _,fun j hj=>by omega⟩ sl ?_))));intro i ⟨hi,N⟩;refine a8 (sg rfl (aA rfl (fun hb=>?_) (fun hb=>?_)))
 ·have W:i<a.length:=ltD hb O;obtain⟨x,hx⟩:=aK W;obtain⟨y,hy⟩:=aK (l:=J) (k:=i) (by omega);have hx':(dT a)[i]?=some (bD x):=by rw[eU];exact bJ bD hx
  have hy':(dT J)[i]?=some (bD y):=by rw[eU];exact bJ bD hy
  have hc:=ih x y (by have:=jI (η hx);omega) (by have:=jI (η hx);omega);refine aD (a8 (aC (skh 10 [(3,.row i (bD x)),(8,.row i (bD y))] rfl (kc hc ?_))));refine kz 1 rfl ?_;cases he:eqB x y with
  | false=>
   have Z:=wB he;refine sg rfl (aA rfl (fun _=>?_) nofun)
   rw[aK7 (fun e=>by
    injection e with _ _ _ e;rw[e,hy] at hx
    exact Z (Option.some.inj hx).symm)]
   exact sg rfl (aI rtT)
  | true=>
   have heq:=lT he;refine sg rfl (aA rfl nofun (fun _=>aD (ag [] rfl ⟨i+1,⟨W,fun j hj=>?_⟩,by dsimp only;omega,sl⟩)));by_cases e:j=i
   ·rw[e,hx,hy,heq]
   ·exact N j (by omega)
 have aa:=geD hb O hi;subst aa;rw[aK6 (by rw[wO e4 N])];exact aM (sg rfl (aI rtT))
theorem aMk {T:Ty→Prop}{f n:Int}{s:Str}{t:Ty}{ks:List Core}{bs:List Bind}{al:List Alt}(h:allT T (.mk f n s t ks bs al)):T t∧(∀x∈ks,allT T x)∧(∀x∈bs,T x.ty∧allT T x.body)∧∀x∈al,allT T x.body:=by
 obtain⟨h1,h2,h3,h4⟩:=h;exact⟨h1,sD h2,o4 h3,sG h4⟩
theorem aBo {p:Prop} [Decidable p] {e:Bool}(h:(bif decide p then e else false)=true):p∧e=true:=by
 by_cases hp:p
 ·rw[Ai hp] at h;exact⟨hp,h⟩
 ·rw[Am hp] at h;cases h
theorem wL {p:Prop} [Decidable p] {e:Bool}(h:(bif decide p then e else false)=false):¬p∨e=false:=by
 by_cases hp:p
 ·rw[Ai hp] at h;exact .inr h
 ·exact .inl hp
theorem aZy:∀(k:Nat) (c d:Core),aU c≤k→aU c≤500000000→allT (fun t=>tn t≤1000000000) c→aW Tryz.prog 49 [.pa (aB c),.pa (aB d)] [] (B (eqB c d)) []:=by
 intro k
 induction k with
 | zero=>intro c d h;have:=bR c;omega
 | succ k ih=>
 intro c d h hb9 hT;obtain⟨f,n,s,t,ks,bs,al⟩:=c;obtain⟨f',n',s',t',ks',bs',al'⟩:=d;obtain⟨z1,z2,z3,hkl,hbl,hal⟩:= @dW f n s t ks bs al;obtain⟨hT1,hT2,hT3,hT4⟩:=aMk hT;have hkB:(aR bs).length=bs.length:=by rw[bP,ξ]
 have hkK:(aQ ks).length=ks.length:=by rw[aZ,ξ]
 have hkA:(c8 al).length=al.length:=by rw[c6,ξ]
 have hkB':(aR bs').length=bs'.length:=by rw[bP,ξ]
 have hkK':(aQ ks').length=ks'.length:=by rw[aZ,ξ]
 have hkA':(c8 al').length=al'.length:=by rw[c6,ξ]
 refine bT (n:=184) tok Tryz.func49 rfl rfl rfl ?_;refine sg rfl (a8 (a8 (agF 6 [] rfl rfl rfl (aA rfl (fun hb=>?_) (fun hb=>?_)))))
 ·rw[aK7 (fun e=>by cases e;simp at hb)];exact sg rfl (aI rtT)
 simp[Core.form,Core.n,Core.name,rZ,l9,gM] at hb;obtain⟨d1,d2,d3,d4,d5,d6⟩:=hb;obtain rfl:=φ d1;obtain rfl:=φ d2;obtain rfl:=φ d3;have e4:ks.length=ks'.length:=by have:=φ d4;omega
 have e5:bs.length=bs'.length:=by have:=φ d5;omega
 have e6:al.length=al'.length:=by have:=φ d6;omega
 clear d1 d2 d3 d4 d5 d6;have hte:=aXn (tn t) t t' (le_refl _) hT1;refine aD (sk 4 rfl (kc hte ?_));refine kz 1 rfl ?_;have q0:eqB t t'=true→t=t':=lT;have p0:eqB t t'=false→¬Core.mk f n s t ks bs al=.mk f n s t' ks' bs' al':=fun h e=>wB h (by injection e)
 generalize eqB t t'=e0 at q0 p0;refine a8 (sg rfl (aC (aL (fun p:Nat×Bool=>mk [(2,.one (.vp 2 0)),(3,.one (.vp 3 0)),(5,B p.2),(6,I .i64 p.1)] [(2,.var 37 (b9 (.mk f n s t ks bs al))),(3,.var 37 (b9 (.mk f n s t' ks' bs' al')))]) (fun p=>p.1≤ks.length∧(p.2=true→t=t'∧∀j,j<p.1→ks[j]?=ks'[j]?)∧(p.2=false→¬Core.mk f n s t ks bs al=.mk f n s t' ks' bs' al')) (fun p=>ks.length-p.1) (0,e0) ⟨Ak _,fun h=>⟨q0 h,fun j hj=>by cases hj⟩,p0⟩ sl ?_)));clear q0 p0;rintro⟨i,e⟩ ⟨hi,Y,p1⟩;dsimp only at hi Y p1 ⊢;refine a8 (a8 (agF 6 [] rfl rfl rfl (aA rfl (fun hb=>?_) (fun hb=>?_))))
 ·obtain⟨J,rfl⟩:=aBo hb;have J:i<ks.length:=by
   have J:(i:Int)<((aQ ks).length:Int):=J;omega
  obtain⟨g1,g2⟩:=Y rfl;obtain⟨x,hx⟩:=aK J;obtain⟨y,hy⟩:=aK (l:=ks') (k:=i) (by omega);have hx':(aQ ks)[i]?=some (aB x):=by rw[aZ];exact bJ aB hx
  have hy':(aQ ks')[i]?=some (aB y):=by rw[aZ];exact bJ aB hy
  have hm:=η hx;have hc:=ih x y (by have:=z1 x hm;omega) (by have:=z1 x hm;omega) (hT2 x hm);refine aD (a8 (aC (aE mixed (ak 10 [(3,.row i (aB x)),(8,.row i (aB y))] rfl (kc hc ?_)))));refine kz 1 rfl (ag [] rfl ⟨(i+1,eqB x y),⟨J,fun h=>⟨g1,fun j hj=>?_⟩,fun h e=>?_⟩,by dsimp only;omega,sl⟩)
  ·by_cases e:j=i
   ·rw[e,hx,hy,lT h]
   ·exact g2 j (by dsimp only at hj;omega)
  ·injection e with _ _ _ _ e;rw[e,hy] at hx;exact wB h (Option.some.inj hx).symm
 have q2:e=true→t=t'∧ks=ks':=fun h=>by
  obtain⟨g1,g2⟩:=Y h;refine⟨g1,wO e4 fun j hj=>g2 j ?_⟩;rcases wL hb with W | W
  ·have W:¬(i:Int)<((aQ ks).length:Int):=W;omega
  ·rw[h] at W;cases W
 clear Y hb;refine aM (a8 (sg rfl (aC (aL (fun p:Nat×Bool=>mk [(2,.one (.vp 2 0)),(3,.one (.vp 3 0)),(5,B p.2),(7,I .i64 p.1)] [(2,.var 37 (b9 (.mk f n s t ks bs al))),(3,.var 37 (b9 (.mk f n s t' ks' bs' al')))]) (fun p=>p.1≤bs.length∧(p.2=true→(t=t'∧ks=ks')∧∀j,j<p.1→bs[j]?=bs'[j]?)∧(p.2=false→¬Core.mk f n s t ks bs al=.mk f n s t' ks' bs' al')) (fun p=>bs.length-p.1) (0,e) ⟨Ak _,fun h=>⟨q2 h,fun j hj=>by cases hj⟩,p1⟩ sl ?_))));clear q2 p1 hi;rintro⟨i,e⟩ ⟨hi,Y,p1⟩;dsimp only at hi Y p1 ⊢;refine a8 (a8 (agF 6 [] rfl rfl rfl (aA rfl (fun hb=>?_) (fun hb=>?_))))
 ·obtain⟨J,rfl⟩:=aBo hb;have J:i<bs.length:=by
   have J:(i:Int)<((aR bs).length:Int):=J;omega
  obtain⟨g1,g2⟩:=Y rfl;obtain⟨x,hx⟩:=aK J;obtain⟨y,hy⟩:=aK (l:=bs') (k:=i) (by omega);have hx':(aR bs)[i]?=some (bC x):=by rw[bP];exact bJ bC hx
  have hy':(aR bs')[i]?=some (bC y):=by rw[bP];exact bJ bC hy
  have hm:=η hx;obtain⟨hT3a,hT3b⟩:=hT3 x hm;have hc:=ih x.body y.body (by have:=z2 x hm;omega) (by have:=z2 x hm;omega) hT3b;have hte:=aXn (tn x.ty) x.ty y.ty (le_refl _) hT3a;have hne:∀p:Prop,(¬p→¬x=y)→(x=y→p):=fun p h e=>Classical.byContradiction fun hp=>h hp e
  have hend:¬x=y→¬Core.mk f n s t ks bs al=.mk f n s t' ks' bs' al':=fun h e=>by
   injection e with _ _ _ _ _ e;rw[e,hy] at hx;exact h (Option.some.inj hx).symm
  obtain⟨xs,Z,N⟩:=x;obtain⟨ys,yt,O⟩:=y;have hte:aW Tryz.prog 99 [tyV Z,tyV yt] [] (B (eqB Z yt)) []:=hte;have hc:aW Tryz.prog 49 [.pa (aB N),.pa (aB O)] [] (B (eqB N O)) []:=hc;refine aD (a8 (aC (skh 12 [(3,.row i (bC (.mk xs Z N))),(9,.row i (bC (.mk ys yt O)))] rfl (kc hte ?_))));refine kz 1 rfl (a8 (AWp.cut (mk [(2,.one (.vp 2 0)),(3,.one (.vp 3 0)),(5,B (bif eqB Z yt then eqB N O else false)),(7,I .i64 i)] [(2,.var 37 (b9 (.mk f n s t ks bs al))),(3,.var 37 (b9 (.mk f n s t' ks' bs' al')))]) ?_ ?_))
  ·refine sg rfl ?_;cases he:eqB Z yt with
   | false=>
    exact aA rfl nofun (fun _=>aD sl)
   | true=>
    refine aA rfl (fun _=>aE mixed (ak 12 [(3,.row i (bC (.mk xs Z N))),(9,.row i (bC (.mk ys yt O)))] rfl (kc hc ?_))) nofun;exact kz 1 rfl sl
  have hr1:(bif eqB Z yt then eqB N O else false)=true→Z=yt∧N=O:=fun h=>by
   cases he:eqB Z yt with
   | false=>rw[he] at h;cases h
   | true=>rw[he] at h;exact⟨lT he,lT h⟩
  have hr2:(bif eqB Z yt then eqB N O else false)=false→¬Bind.mk xs Z N=.mk ys yt O:=fun h e=>by
   injection e with _ e1 e2;rw[aK6 e1,aK6 e2] at h;cases h
  generalize (bif eqB Z yt then eqB N O else false)=r at hr1 hr2;refine sgh [(3,.row i (bC (.mk xs Z N))),(9,.row i (bC (.mk ys yt O)))] rfl (aA rfl (fun hb=>?_) (fun hb=>?_))
  ·have hn:¬xs=ys:=fun e=>by simp[Bind.name,e] at hb
   exact ag [] rfl (ag [] rfl ⟨(i+1,false),⟨J,fun h=>(by cases h),fun _=>hend fun e=>hn (by injection e)⟩,by dsimp only;omega,sl⟩)
  ·have hn:xs=ys:=by simp[Bind.name] at hb;exact φ hb
   refine aD (ag [] rfl ⟨(i+1,r),⟨J,fun h=>⟨g1,fun j hj=>?_⟩,fun h=>hend (hr2 h)⟩,by dsimp only;omega,sl⟩);by_cases e:j=i
   ·obtain⟨r1,r2⟩:=hr1 h;rw[e,hx,hy,hn,r1,r2]
   ·exact g2 j (by dsimp only at hj;omega)
 have q2:e=true→(t=t'∧ks=ks')∧bs=bs':=fun h=>by
  obtain⟨g1,g2⟩:=Y h;refine⟨g1,wO e5 fun j hj=>g2 j ?_⟩;rcases wL hb with W | W
  ·have W:¬(i:Int)<((aR bs).length:Int):=W;omega
  ·rw[h] at W;cases W
 clear Y hb;refine aM (a8 (sg rfl (aC (aL (fun p:Nat×Bool=>mk [(2,.one (.vp 2 0)),(3,.one (.vp 3 0)),(5,B p.2),(8,I .i64 p.1)] [(2,.var 37 (b9 (.mk f n s t ks bs al))),(3,.var 37 (b9 (.mk f n s t' ks' bs' al')))]) (fun p=>p.1≤al.length∧(p.2=true→((t=t'∧ks=ks')∧bs=bs')∧∀j,j<p.1→al[j]?=al'[j]?)∧(p.2=false→¬Core.mk f n s t ks bs al=.mk f n s t' ks' bs' al')) (fun p=>al.length-p.1) (0,e) ⟨Ak _,fun h=>⟨q2 h,fun j hj=>by cases hj⟩,p1⟩ sl ?_))));clear q2 p1 hi;rintro⟨i,e⟩ ⟨hi,Y,p1⟩;dsimp only at hi Y p1 ⊢;refine a8 (a8 (agF 6 [] rfl rfl rfl (aA rfl (fun hb=>?_) (fun hb=>?_))))
 ·obtain⟨J,rfl⟩:=aBo hb;have J:i<al.length:=by
   have J:(i:Int)<((c8 al).length:Int):=J;omega
  obtain⟨g1,g2⟩:=Y rfl;obtain⟨x,hx⟩:=aK J;obtain⟨y,hy⟩:=aK (l:=al') (k:=i) (by omega);have hx':(c8 al)[i]?=some (cR x):=by rw[c6];exact bJ cR hx
  have hy':(c8 al')[i]?=some (cR y):=by rw[c6];exact bJ cR hy
  have hm:=η hx;have hc:=ih x.body y.body (by have:=z3 x hm;omega) (by have:=z3 x hm;omega) (hT4 x hm);have hend:¬x=y→¬Core.mk f n s t ks bs al=.mk f n s t' ks' bs' al':=fun h e=>by
   injection e with _ _ _ _ _ _ e;rw[e,hy] at hx;exact h (Option.some.inj hx).symm
  have hav:=eV hm;have hvl:=mQ x;have hst:=aB4 x.vars y.vars (by rw[aU] at hb9;omega);obtain⟨xf,xn,xs,xv,N⟩:=x;obtain⟨yf,yn,ys,yv,O⟩:=y;have hst:aW Tryz.prog 100 [bN xv,bN yv] [] (B (decide (xv=yv))) []:=hst;have hc:aW Tryz.prog 49 [.pa (aB N),.pa (aB O)] [] (B (eqB N O)) []:=hc;refine aD (a8 (aC (sgh [(3,.row i (cR (.mk xf xn xs xv N)))] rfl (sgh [(3,.row i (cR (.mk yf yn ys yv O)))] rfl (sk 4 rfl (kc hst ?_))))));refine kz 1 rfl (a8 (AWp.cut (mk [(2,.one (.vp 2 0)),(3,.one (.vp 3 0)),(5,B (bif decide (xv=yv) then eqB N O else false)),(8,I .i64 i),(9,.one (.vp 9 0)),(10,.one (.vp 10 0))] [(2,.var 37 (b9 (.mk f n s t ks bs al))),(3,.var 37 (b9 (.mk f n s t' ks' bs' al'))),(9,.var 88 ((cR (.mk xf xn xs xv N)).map .c)),(10,.var 88 ((cR (.mk yf yn ys yv O)).map .c))]) ?_ ?_))
  ·refine sg rfl ?_;cases he:decide (xv=yv) with
   | false=>
    exact aA rfl nofun (fun _=>aD sl)
   | true=>
    refine aA rfl (fun _=>aE mixed (ak 4 [] rfl (kc hc ?_))) nofun;exact kz 1 rfl sl
  have hr1:(bif decide (xv=yv) then eqB N O else false)=true→xv=yv∧N=O:=fun h=>by
   cases he:decide (xv=yv) with
   | false=>rw[he] at h;cases h
   | true=>rw[he] at h;exact⟨φ he,lT h⟩
  have hr2:(bif decide (xv=yv) then eqB N O else false)=false→¬Alt.mk xf xn xs xv N=.mk yf yn ys yv O:=fun h e=>by
   injection e with _ _ _ e1 e2;rw[Ai e1,aK6 e2] at h;cases h
  generalize (bif decide (xv=yv) then eqB N O else false)=r at hr1 hr2;refine a8 (agF 6 [] rfl rfl rfl (aA rfl (fun hb=>?_) (fun hb=>?_)))
  ·have hn:¬(xf=yf∧xn=yn∧xs=ys):=fun e=>by obtain⟨e1,e2,e3⟩:=e;simp[Alt.form,Alt.n,Alt.name,e1,e2,e3] at hb
   exact ag [] rfl (ag [] rfl ⟨(i+1,false),⟨J,fun h=>(by cases h),fun _=>hend fun e=>hn (by injection e with e1 e2 e3;exact⟨e1,e2,e3⟩)⟩,by dsimp only;omega,sl⟩)
  ·have hn:xf=yf∧xn=yn∧xs=ys:=by
    simp[Alt.form,Alt.n,Alt.name] at hb;obtain⟨b1,b2,b3⟩:=hb;exact⟨φ b1,φ b2,φ b3⟩
   refine aD (ag [] rfl ⟨(i+1,r),⟨J,fun h=>⟨g1,fun j hj=>?_⟩,fun h=>hend (hr2 h)⟩,by dsimp only;omega,sl⟩);by_cases e:j=i
   ·obtain⟨r1,r2⟩:=hr1 h;obtain⟨n1,n2,n3⟩:=hn;rw[e,hx,hy,n1,n2,n3,r1,r2]
   ·exact g2 j (by dsimp only at hj;omega)
 have q2:eqB (Core.mk f n s t ks bs al) (.mk f n s t' ks' bs' al')=e:=by
  cases e with
  | false=>exact aK7 (p1 rfl)
  | true=>
   obtain⟨⟨⟨g1,g2⟩,g3⟩,g4⟩:=Y rfl
   have g5:al=al':=wO e6 fun j hj=>g4 j (by
    rcases wL hb with W | W
    ·have W:¬(i:Int)<((c8 al).length:Int):=W;omega
    ·cases W)
   rw[g1,g2,g3,g5];exact aK6 rfl
 rw[q2];exact aM (sg rfl (aI rtT))
end Go.Proofs.YtockgoadliilhaaGreatDoor
