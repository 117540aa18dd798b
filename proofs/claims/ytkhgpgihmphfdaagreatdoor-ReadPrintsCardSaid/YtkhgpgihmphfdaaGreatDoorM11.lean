/-
  Texts Rd51 to Rd59 in one.
-/
import Derived.Test.YtkhgpgihmphfdaaGreatDoorM10
open List (drop_eq_getElem_cons drop_eq_nil_of_le drop_length drop_zero length_append length_cons length_map length_nil length_pos_iff length_set length_take map_append map_set set_append_right take_add_one take_length)
open Nat (le_refl le_trans lt_irrefl lt_succ_self sub_self succ_pos zero_le)
namespace Go.Proofs.YtkhgpgihmphfdaaGreatDoor
open Go Go.AM
set_option maxRecDepth 20000
set_option maxHeartbeats 4000000
theorem aQk {f o:Nat}{out:List Pt}{z:Z}(h:¬z.e=0):fC f o out z=(out,z):=by
 cases f with
 | zero=>rfl
 | succ f=>rw[fC,η h]
theorem aZv (L:List Tk) (hN:aQ3 L) (f:Nat) (ihS:∀g,g≤f→aNg L g):aWe L (f+1):=by
 intro o z h he hf J;have hn:=eQ h;have hnm:=hN _ h.mem;have hlp:=h.lp;rw[iO];refine pI (n:=58) tok Tryz.func230 rfl rfl rfl rfl ?_;refine sg rfl (sk 3 rfl (kc hn ?_));refine kz 2 rfl (aA (sg rfl ?_));by_cases E:(b8 z).kind=2
 ·obtain⟨f,rfl⟩:∃g,f=g+1:=⟨f-1,by omega⟩
  have M:bA (f+1) o z=((.mk (lX (b8 z)) (b8 z).pl (b8 z).n (jC (b8 z)) [],true),tlZ z):=by
   rw[bA,η (fun k=>k he),ζ (by omega)]
  rw[M,η (show ¬(true=false) from fun k=>Bool.noConfusion k),ζ ⟨E,he⟩];have h1:=h.tlp (by rw[E];decide);have hrt:=aOt h (by rw[E];decide);have htl:=sY h;have hlen:=h.len;have hLl:=h.l;have u:∃W,W=fC (f+1) o [] (tlZ z):=⟨_,rfl⟩
  obtain⟨W,u⟩:=u;rw[←u,hnm (by omega)];generalize b8 z=t at hn E M hnm ⊢;have d:(!decide (t.kind=2))=false:=by rw[θ E];rfl
  refine aB rfl (fun hb=>absurd (hb.symm.trans d) Bool.noConfusion) (fun _=>aD ?_);unfold rO;refine aA (agN [] rfl ?_);rw[←hrt];refine sg rfl (AWp.sub (Sub.ownCell (x:=8) (k:=4) (id:=501) 51 10 rfl rfl rfl) ?_);refine aF (aJ (fun q:List Pt×Z×Nat=>mk [(0,rP),(1,I .i64 (o:Nat)),(4,.one (.vp 4 0)),(8,.one (.vp 8 0))] [(600,rO L q.2.1),(4,.var 51 (aWj.map .c)),(8,.var 51 [.c (.int .i64 4),.c (.int .i64 t.pl),.c (.int .i64 0),.c (.str t.text),.hs 501 0 q.1.length q.1.length,.c (.int .i64 0),.c (.int .i64 0),.c (.str []),.c .nl,.c .nl]),(501,.arr 51 10 (q.1.map bL) 0)]) (fun q=>ZA L q.2.1∧q.2.1.e=0∧W=fC q.2.2 o q.1 q.2.1∧q.2.2≤f+1∧3*q.2.1.R.length+1≤q.2.2∧q.1.length+q.2.1.R.length≤4001) (fun q=>q.2.1.R.length+1) ([],tlZ z,f+1) ⟨h1,he,u,le_refl _,by dsimp only;omega,by dsimp only;rw[length_nil];omega⟩ sl ?_);clear u hn M htl h1 hrt hlp hlen he hf h;rintro⟨out,U,g⟩ ⟨h',O,u,hgf,hg,hol⟩;dsimp only at h' O u hgf hg hol ⊢;have hout:(out.map bL).length=out.length:=ξ _;obtain⟨g,rfl⟩:∃k,g=k+1:=⟨g-1,by omega⟩
  rw[fC,ζ O] at u;have hs:=ihS g (by omega) o U h' O (by omega) J;obtain⟨g1,_,g3,g4⟩:=(gK L g).1 o U h';have hlp:=h'.lp;unfold aN9 at hs;generalize bA g o U=y at hs g1 g3 g4 u;obtain⟨⟨q,b⟩,z2⟩:=y;dsimp only at hs g1 g3 g4 u;by_cases A:z2.e=0
  case neg=>
   have hp:=bH.err hs A;have hb:W.2=z2:=by
    rw[aQk A] at u;rw[u];split<;>rfl
   rw[hb,aL A];exact aF (sk 2 rfl (kp hp))
  have hs:=bH.ok hs A;refine aF (sk 2 rfl (kc hs ?_));refine kz 6 rfl (aA (sg rfl ?_));cases b with
  | false=>
   rw[ζ rfl] at u;refine aB rfl (fun _=>AWp.sub (Sub.freeze (id:=501) rfl) ?_) (fun hb=>Bool.noConfusion hb);refine sg rfl ?_;rw[u];dsimp only;rw[bC A];unfold bL;rw[iS (Pt.mk _ _ _ _ _)];exact aE (rtC trw (hc:=.agg (.c .refl (.c .refl (.c .refl (.c .refl (.hs rfl hout.symm (Go.AM.take_all hout.symm) (.c .refl (.c .refl (.c .refl (.c .nl (.c .nl .nil))))))))))))
  | true=>
   rw[η (show ¬(true=false) from fun k=>Bool.noConfusion k)] at u;have Y:out.map bL++[bL q]=(out++[q]).map bL:=by rw[Af];rfl
   have hle:(out++[q]).length=out.length+1:=by rw[ψ];rfl
   have g4':z2.R.length≤U.R.length:=g4;have g3':=g3 rfl A;rw[ζ rfl];refine aB rfl (fun hb=>Bool.noConfusion hb) (fun _=>aD (ag [(3,.all)] rfl ⟨(out++[q],z2,g),⟨g1,A,u,by dsimp only;omega,by dsimp only;omega,by dsimp only;rw[hle];omega⟩,by dsimp only;omega,?_⟩));exact sl (he:=⟨rfl,rfl,rfl,rfl,trivial⟩) (hh:=⟨⟨_,rfl,.var rfl⟩,⟨_,rfl,.var rfl⟩,⟨_,rfl,.var (by rw[hle,←hout];rfl)⟩,⟨_,rfl,.arrS Y⟩,trivial⟩)
 have d:(!decide ((b8 z).kind=2))=true:=by rw[φ E];rfl
 refine aB rfl (fun _=>?_) (fun hb=>absurd (hb.symm.trans d) Bool.noConfusion);rw[η (show ¬((b8 z).kind=2∧z.e=0) from fun k=>E k.1)];have hs:=ihS f (le_refl _) o z h he (by omega) J;unfold aN9 at hs;generalize bA f o z=y at hs ⊢;obtain⟨⟨q,b⟩,z1⟩:=y;dsimp only at hs ⊢;by_cases B:z1.e=0
 case neg=>
  have hp:=bH.err hs B;have hb:(if b=false then(zPt,bV 12 (b8 z).pl z1) else(q,z1)).2=z1:=by
   rw[gW B];split<;>rfl
  rw[hb,aL B];exact sk 2 rfl (kp hp)
 have hs:=bH.ok hs B;refine sk 2 rfl (kc hs ?_);refine kz 6 rfl ?_;cases b with
 | false=>
  have hm:=bO 12 (b8 z).pl;rw[ζ rfl];unfold bV;rw[ζ B];dsimp only;rw[aL (show ¬(12:Int)=0 by decide)];exact sk 3 rfl (kp hm)
 | true=>
  have hm:=bN 12 (b8 z).pl;rw[η (show ¬(true=false) from fun k=>Bool.noConfusion k),ζ rfl];dsimp only;rw[bC B];refine sk 3 rfl (kc hm ?_);exact az (sg rfl (aE (rtC trw)))
theorem a19 (L:List Tk) (hN:aQ3 L):∀f,(∀g,g≤f→aNg L g)∧∀g,g≤f→aWe L g:=by
 intro f
 induction f with
 | zero=>exact⟨fun g u o z h he y ho=>by have:=h.lp;omega,fun g u o z h he y ho=>by have:=h.lp;omega⟩
 | succ f q=>
  refine⟨fun g u=>?_,fun g u=>?_⟩
  ·by_cases h:g≤f
   ·exact q.1 g h
   ·rw[show g=f+1 by omega];exact aL3 L hN f (q.2 f (le_refl _))
  ·by_cases h:g≤f
   ·exact q.2 g h
   ·rw[show g=f+1 by omega];exact aZv L hN f q.1
theorem aF0 (l:List Tk) (hl:l.length≤4001):aW Tryz.prog 198 [.one (.c (.sl 4 (l.map aI)))] [] (.one (.c (.sl 10 ((iB l).map bL)))) []:=by
 have u:(l.map aI).length=l.length:=ξ _;refine b9 (n:=22) tok Tryz.func198 rfl rfl rfl ?_;refine sg rfl (sg rfl (AWp.sub (Sub.own (t:=3) (id:=500) 51 10 rfl rfl) ?_));refine aA (sg rfl (aF (aJ (fun i:Nat=>mk [(3,.one (.hs 500 0 i i)),(6,.one (.c (.sl 4 (l.map aI)))),(7,I .i64 ((l.map aI).length:Nat)),(8,I .i64 (i:Nat))] [(500,.arr 51 10 ((iB (l.take i)).map bL) 0)]) (fun i=>i≤l.length) (fun i=>l.length-i) 0 (Ab _) sl ?_)));intro i hi;have q:((iB (l.take i)).map bL).length=i:=by rw[ξ,sU,Ai];omega
 refine sg rfl (aA (aB rfl (fun hb=>?_) (fun hb=>?_)))
 ·have y:=ltD hb u;obtain⟨t,ht⟩:=aG y;have E:=aP aI ht;have A:(iB (l.take (i+1))).map bL=(iB (l.take i)).map bL++[bL (.mk 2 t.pl 0 t.text [])]:=by
   unfold iB;rw[Bh,ht,Af,Af];rfl
  exact aD (aA (aF (sgh [(0,.row i (aI t))] rfl (ag [(6,.all)] rfl (agN [] rfl ⟨i+1,y,by dsimp only;omega,sl (he:=⟨Go.AM.hs_ren (congrArg (· +1) q) (congrArg (· +1) q),rfl,rfl,rfl,trivial⟩) (hh:=⟨⟨_,rfl,.arrS A.symm⟩,trivial⟩)⟩)))))
 ·have B:=geD hb u hi;subst B;rw[Al] at q ⊢;refine aH (AWp.sub (Sub.freeze (id:=500) rfl) ?_);exact sg rfl (aE (rtH (hsz:=q.symm) (hlen:=q.symm)))
def aSp (L:List Tk) (ex:Nat→Z→Ex×Z) (N:Nat):Prop:=∀(deep:Nat) (z:Z),ZA L z→z.e=0→z.R.length≤N→deep≤41→bH Tryz.prog 197 [rP,I .i64 (deep:Nat)] [(600,rO L z)] (iP L (.pa (bR (ex deep z).1)) (ex deep z).2 [])
def yJ (ex:Nat→Z→Ex×Z):Prop:=∀(deep:Nat) (z:Z),¬z.e=0→(ex deep z).2=z
theorem xQ:∀f,yJ (yP f)
 | 0=>fun _ _ h=>gW h
 | f+1=>fun deep z h=>by
  show(aAx (yP f) deep z).2=z;unfold aAx;rw[ζ h]
theorem aTx {s:Str}{z:Z}(he:z.e=0):bT s z=if isZ s z=true then(true,tlZ z) else(false,z):=by
 unfold bT;by_cases hu:isZ s z=true
 ·rw[ζ ⟨he,hu⟩,ζ hu];rfl
 ·rw[η (fun k=>hu k.2),η hu]
section
variable {L:List Tk}{ex:Nat→Z→Ex×Z}{N:Nat}(hO:ExO L ex) (hB:yJ ex) (hS:aSp L ex N)
include hO hS
theorem aL9 (deep:Nat) {z:Z}(h:ZA L z) (he:z.e=0) (hN:z.R.length≤N+1) (hd:deep≤40):bH Tryz.prog 221 [rP,I .i64 (deep:Nat)] [(600,rO L z)] (iP L (.tup [.pa (bR (iV ex deep z).1.1),B (iV ex deep z).1.2]) (iV ex deep z).2 []):=by
 unfold iV;rw[η (fun k=>k he)];have hn:=eQ h;have hm:=gH h he cG;have hLl:=h.l;have A:=fun hk=>aOt h hk
 refine pI (n:=73) tok Tryz.func221 rfl rfl rfl rfl ?_;refine sg rfl (sk 3 rfl (kc hn ?_));refine kz 2 rfl (aA (sg rfl ?_));generalize ht:b8 z=t at A ⊢;refine aF (sg rfl ?_);by_cases O:t.kind=1
 ·have d:decide (t.kind=1)=true:=θ O;rw[ζ (show 0<t.kind∧t.kind<4 by omega)];dsimp only;rw[bC (show(tlZ z).e=0 from he),A (by omega)];have U:r7 t=.mk 1 t.pl 0 t.text [] [] [] oW:=by unfold r7;rw[η (by omega),O]
  rw[U];unfold rO;exact aB rfl (fun _=>aA (agN [] rfl (sg rfl (aE sD)))) (fun hb=>absurd (hb.symm.trans d) Bool.noConfusion)
 refine aB rfl (fun hb=>absurd (κ hb) O) (fun _=>sg rfl ?_);by_cases Y:t.kind=2
 ·have d:decide (t.kind=2)=true:=θ Y;rw[ζ (show 0<t.kind∧t.kind<4 by omega)];dsimp only;rw[bC (show(tlZ z).e=0 from he),A (by omega)];have U:r7 t=.mk 2 t.pl 0 t.text [] [] [] oW:=by unfold r7;rw[η (by omega),Y]
  rw[U];unfold rO;exact aB rfl (fun _=>aA (agN [] rfl (sg rfl (aE sD)))) (fun hb=>absurd (hb.symm.trans d) Bool.noConfusion)
 refine aB rfl (fun hb=>absurd (κ hb) Y) (fun _=>sg rfl ?_);by_cases k3:t.kind=3
 ·have d:decide (t.kind=3)=true:=θ k3;rw[ζ (show 0<t.kind∧t.kind<4 by omega)];dsimp only;rw[bC (show(tlZ z).e=0 from he),A (by omega)];unfold r7;rw[ζ k3];unfold rO;exact aB rfl (fun _=>aA (agN [] rfl (sg rfl (aE sD)))) (fun hb=>absurd (hb.symm.trans d) Bool.noConfusion)
 refine aB rfl (fun hb=>absurd (κ hb) k3) (fun _=>aD ?_);rw[η (show ¬(0<t.kind∧t.kind<4) by omega)];have h1:=h.may cG;have M:=gF h (s:=cG);have e1:=(jW cG z).trans he;have J:= @kB cG z;generalize bT cG z=m at hm h1 M e1 J ⊢;obtain⟨b,z1⟩:=m;dsimp only at hm h1 M e1 J ⊢;refine aA (sk 1 rfl (kc hm ?_));refine kz 1 rfl ?_;cases b with
 | false=>
  obtain rfl:=J rfl;rw[ζ rfl];dsimp only;rw[bC he];exact aB rfl (fun _=>sg rfl (aE sD)) (fun hb=>Bool.noConfusion hb)
 | true=>
  rw[η (by decide)];have M:=M rfl;have hx:=hS (deep+1) z1 h1 e1 (by omega) (by omega);obtain⟨g1,_⟩:=hO (deep+1) z1 h1;generalize ex (deep+1) z1=y at hx g1 ⊢;obtain⟨b,z2⟩:=y;dsimp only at hx g1 ⊢;refine aB rfl (fun hb=>Bool.noConfusion hb) (fun _=>aD ?_);by_cases q:z2.e=0
  case neg=>
   have hp:=bH.err hx q;rw[bK q,aL q];exact aA (aC mixed (akN 3 [] rfl (kp hp)))
  have hx:=bH.ok hx q;refine aA (aC mixed (akN 3 [] rfl (kc hx ?_)));refine akN 2 [] rfl (az ?_);have u:=dM g1 q nY;generalize aQ nY z2=z3 at u ⊢;by_cases E:z3.e=0
  case neg=>
   have hp:=bH.err u E;rw[aL E];exact sk 1 rfl (kp hp)
  have u:=bH.ok u E;rw[bC E];refine sk 1 rfl (kc u ?_);exact az (sg rfl (aE sD))
omit hO
include hB
theorem aZ2 (a:Int) (deep:Nat) {z:Z}(h:ZA L z) (he:z.e=0) (hN:z.R.length≤N) (hd:deep≤40):bH Tryz.prog 218 [rP,I .i64 a,I .i64 (deep:Nat)] [(600,rO L z)] (iP L (.pa (bR (uS ex a deep z).1)) (uS ex a deep z).2 []):=by
 obtain⟨g1,g2,g3⟩:=aCs a h;have u:=hS (deep+1) (uM a z).2 g1;have q:=hB (deep+1) (uM a z).2;have A:(uM a z).2.R.length≤N:=le_trans g3 hN;unfold uS;generalize hy:ex (deep+1) (uM a z).2=y at u q ⊢;obtain⟨b,z6⟩:=y;dsimp only at u q ⊢;unfold uM at u q g1 g2 A ⊢;dsimp only at u q g1 g2 A ⊢;have O:=pP h he;have h1:=h.words;have B:(aU z).2.e=0:=by unfold aU;rw[ζ he];exact he
 generalize aU z=w at u q g1 g2 A O h1 B ⊢;obtain⟨l,z1⟩:=w;dsimp only at u q g1 g2 A O h1 B ⊢;have hn:=eQ h1;have U:(l.map aI).length=l.length:=ξ _;have hv:=aF0 l g2;refine pI (n:=35) tok Tryz.func218 rfl rfl rfl rfl ?_;refine sg rfl (sk 1 rfl (kc O ?_));refine kz 1 rfl ?_;by_cases hl:l=[]
 ·subst hl;rw[ζ rfl] at q;unfold bV at q;rw[ζ B,eZ (show ¬(12:Int)=0 by decide),bK (show ¬(12:Int)=0 by decide)] at q;rw[q (show ¬(12:Int)=0 by decide),aL (show ¬(12:Int)=0 by decide)];have hm:=bO 12 (b8 z1).pl;refine sk 6 rfl (kc hn ?_);exact ak 1 [] rfl (kp hm)
 rw[η hl] at u q g1 A;have d0:decide ((0:Int)<((l.length:Nat):Int))=true:=θ (by have:=Cg.2 hl;omega);have hm:=bN 12 (b8 z1).pl;refine sk 6 rfl (kc hn ?_);refine ak 1 [] rfl ?_;rw[U,d0];refine kc hm ?_;refine az ?_;by_cases Y:l.length≤8
 case neg=>
  have d:decide (((l.length:Nat):Int)≤8)=false:=φ (by omega);rw[iE Y B,bK cS] at q;rw[q cS,aL cS];have hm:=bO 2 a;refine sk 4 rfl ?_;rw[U,d];exact kp hm
 have d:decide (((l.length:Nat):Int)≤8)=true:=θ (by omega);have hm:=bN 2 a;rw[iD Y] at u q g1 A;refine sk 4 rfl ?_;rw[U,d];refine kc hm ?_;refine az ?_;have E:=dM h1 B arrow;generalize aQ arrow z1=z3 at E u q g1 A;by_cases J:z3.e=0
 case neg=>
  have hp:=bH.err E J;rw[q J,aL J];exact sk 1 rfl (kp hp)
 have E:=bH.ok E J;refine sk 1 rfl (kc E ?_);refine az ?_;have u:=u J A (by omega);refine sk 2 rfl (kc hv ?_);refine akN 3 [] rfl ?_;by_cases M:z6.e=0
 case neg=>
  have hp:=bH.err u M;rw[aL M];exact kp hp
 have u:=bH.ok u M;rw[bC M];refine kc u ?_;exact ak 3 [(7,.all)] rfl (az (aE (rtC trw)))
theorem y4 (A:Tk) (deep:Nat) {z:Z}(h:ZA L z) (he:z.e=0) (hN:z.R.length≤N) (hd:deep≤41):bH Tryz.prog 164 [rP,tkV A,I .i64 (deep:Nat)] [(600,rO L z)] (iP L (.pa (aY (dP ex A deep z).1)) (dP ex A deep z).2 []):=by
 obtain⟨g1,g2,g3⟩:=y7 A h;have u:=hS deep (gR A z).2 g1;have q:=hB deep (gR A z).2;have J:(gR A z).2.R.length≤N:=le_trans g3 hN;unfold dP;generalize hy:ex deep (gR A z).2=y at u q ⊢;obtain⟨b,z6⟩:=y;dsimp only at u q ⊢;unfold gR at u q g1 g2 J ⊢;dsimp only at u q g1 g2 J ⊢;have U:=pP h he;have h1:=h.words;have M:(aU z).2.e=0:=by unfold aU;rw[ζ he];exact he
 generalize aU z=w at u q g1 g2 J U h1 M ⊢;obtain⟨l,z1⟩:=w;dsimp only at u q g1 g2 J U h1 M ⊢;have Y:(l.map aI).length=l.length:=ξ _;have hv:=aF0 l g2;refine pI (n:=40) tok Tryz.func164 rfl rfl rfl rfl ?_;refine sg rfl (sk 1 rfl (kc U ?_));refine kz 1 rfl ?_;by_cases aa:l.length≤8
 case neg=>
  have d:decide (((l.length:Nat):Int)≤8)=false:=φ (by omega);rw[iE aa M,bK cS] at q;rw[q cS,aL cS];have hm:=bO 2 A.pl;refine sk 5 rfl ?_;rw[Y,d];exact kp hm
 have d:decide (((l.length:Nat):Int)≤8)=true:=θ (by omega);have hm:=bN 2 A.pl;rw[iD aa] at u q g1 J;refine sk 5 rfl ?_;rw[Y,d];refine kc hm ?_;refine az ?_;have B:=dM h1 M eqS;generalize aQ eqS z1=z3 at B u q g1 J;by_cases E:z3.e=0
 case neg=>
  have hp:=bH.err B E;rw[q E,aL E];exact sk 1 rfl (kp hp)
 have B:=bH.ok B E;refine sk 1 rfl (kc B ?_);refine az ?_;have u:=u E J hd;by_cases O:z6.e=0
 case neg=>
  have hp:=bH.err u O;rw[aL O];exact sk 2 rfl (kp hp)
 have u:=bH.ok u O;rw[bC O];refine sk 2 rfl (kc u ?_);refine kz 2 rfl (aA (sg rfl ?_));cases l with
 | nil=>
  exact aB rfl (fun hb=>Bool.noConfusion hb) (fun _=>aD (sg rfl (aE (rtC trw))))
 | cons t l=>
  have d0:decide ((0:Int)<(((t::l).map aI).length:Int))=true:=θ (by rw[Y,ω];omega);have ht:((t::l).map aI)[0]?=some (aI t):=rfl;refine aB rfl (fun _=>aC mixed (ak 5 [(1,.row 0 (aI t))] rfl (kc hv ?_))) (fun hb=>absurd (hb.symm.trans d0) Bool.noConfusion);exact ak 4 [(7,.all)] rfl (az (sg rfl (aE (rtC trw))))
end
def aWl (s:Sg):AObj:=.var 100 ((c6 s).map .c)
theorem aU3 (x:Bd) (s:Sg):aW Tryz.prog 166 ([.pa (aY x)]++[R.vp 6 0].map V.one) [(6,aWl s)] (B (decide (x.name=s.name))) [(6,aWl s)]:=by
 refine b9 (n:=9) tok Tryz.func166 rfl rfl rfl ?_;exact sgh [(0,.id 12)] rfl (sg rfl (aE rtT))
theorem aP3 (b:List Bd) (hl:b.length≤4001) (s:Sg):aW Tryz.prog 165 [hsV 511 b.length,.one (.clo 166 [.vp 6 0])] [(511,bdA b 0),(6,aWl s)] (I .i64 (aHs (fun x=>decide (x.name=s.name)) b 0)) [(511,bdA b 0),(6,aWl s)]:=by
 have B:(b.map aY).length=b.length:=ξ _;refine b9 (n:=19) tok Tryz.func165 rfl rfl rfl ?_;refine sg rfl (aA (sg rfl (aF (aJ (fun i:Nat=>mk [(0,hsV 511 b.length),(1,.one (.clo 166 [.vp 6 0])),(7,I .i64 (b.length:Int)),(8,I .i64 i)] [(511,bdA b 0),(6,aWl s)]) (fun i=>i≤b.length∧aHs (fun x=>decide (x.name=s.name)) b 0=aHs (fun x=>decide (x.name=s.name)) b i) (fun i=>b.length-i) 0 ⟨Ab _,rfl⟩ sl ?_))));intro i ⟨hi,hid⟩;refine sg rfl (aA (aB rfl (fun hb=>?_) (fun hb=>?_)))
 ·have q:i<b.length:=by have:=κ hb;omega
  obtain⟨x,u⟩:=aG q;have A:=aP aY u;have hc:=aU3 x s;rw[aAq _ u] at hid;refine aD (aA (aF (sg rfl (skh 5 [(4,.row i (aY x))] rfl (kv (args:=[.pa (aY x)]) hc ?_)))));refine az (aB rfl (fun hb=>?_) (fun hb=>?_))
  ·rw[ζ hb] at hid;rw[hid];exact sg rfl (aE rtT)
  ·rw[η (by rw[show decide (x.name=s.name)=false from hb];exact χ)] at hid;exact aD (ag [] rfl ⟨i+1,⟨q,hid⟩,by dsimp only;omega,sl⟩)
 have y:i=b.length:=by have:=Ac hb;omega
 subst y;rw[aFb] at hid;rw[hid];exact aH (sg rfl (aE rtT))
def aWt (n:Nat) (y:List Bd×Z):Except Value (V×List (Nat×AObj)):=if y.2.e=0 then .ok (hsV 511 n,[(511,bdA y.1 0)]) else .error (vS y.2.e y.2.p)
theorem pZ {l:List Sg}{b:List Bd}{z:Z}(h:¬z.e=0):(dG l b z).2=z:=by
 cases l with
 | nil=>rfl
 | cons s l=>rw[dG,η h]
theorem aL8 (sigs:List Sg) (binds:List Bd) {z:Z}(he:z.e=0) (h1:sigs.length≤4001) (h2:binds.length≤4001):
  bH Tryz.prog 121 [.one (.c (.sl 9 (sigs.map c6))),hsV 511 binds.length] [(511,bdA binds 0)] (aWt binds.length (dG sigs binds z)):=by
 have hsl:(sigs.map c6).length=sigs.length:=ξ _;have u:∃W,W=dG sigs binds z:=⟨_,rfl⟩
 obtain⟨W,u⟩:=u;rw[←u];refine pI (n:=43) tok Tryz.func121 rfl rfl rfl rfl ?_;refine sg rfl (aA (sg rfl (aF (aJ (fun q:Nat×List Bd=>mk [(1,hsV 511 binds.length),(8,.one (.c (.sl 9 (sigs.map c6)))),(9,I .i64 ((sigs.map c6).length:Nat)),(10,I .i64 (q.1:Nat))] [(511,bdA q.2 0)]) (fun q=>q.1≤sigs.length∧q.2.length=binds.length∧W=dG (sigs.drop q.1) q.2 z) (fun q=>sigs.length-q.1) (0,binds) ⟨Ab _,rfl,u⟩ sl ?_))));clear u;rintro⟨i,b⟩ ⟨hi,A,u⟩;dsimp only at hi A u ⊢;have O:(b.map aY).length=b.length:=ξ _;refine sg rfl (aA (aB rfl (fun hb=>?_) (fun hb=>?_)))
 case refine_2=>
  have hge:i=sigs.length:=by have:=Ac hb;omega
  rw[drop_eq_nil_of_le (by omega),dG] at u;refine aH (sg rfl ?_);rw[u];unfold aWt;rw[ζ he];exact aE rtT
 have J:i<sigs.length:=by have:=κ hb;omega
 obtain⟨s,hs⟩:=aG J;have hs':=aP c6 hs;have U:sigs.drop i=s::sigs.drop (i+1):=by
  obtain⟨k1,k2⟩:=Ah.1 hs;rw[←k2];exact Az k1
 rw[U,dG,ζ he] at u;have B:=aP3 b (by omega) s;have Y:aHs (fun x=>decide (x.name=s.name)) b 0=match b.findIdx? (fun x=>decide (x.name=s.name)) with | none=> -1 | some d=>(d:Int):=by
  unfold aHs;rw[B8];cases b.findIdx? _ with
  | none=>rfl
  | some d=>simp
 rw[Y,A] at B;unfold aWl at B;refine aD (aA (aF (sgh [(0,.row i (c6 s))] rfl (sk 2 rfl (kc B ?_)))));refine kz 1 rfl ?_;cases M:b.findIdx? (fun x=>decide (x.name=s.name)) with
 | none=>
  rw[M] at u;dsimp only at u ⊢;have hm:=bO 21 s.pl;have E:W.2=⟨z.R,21,s.pl⟩:=by
   unfold bV at u;rw[ζ he] at u;rw[u,pZ (show ¬(21:Int)=0 by decide)]
  unfold aWt;rw[E,η (show ¬(21:Int)=0 by decide)];exact sk 4 rfl (kp hm)
 | some k=>
  rw[M] at u;dsimp only at u ⊢;have hk:=rH M;obtain⟨x,hx⟩:=aG hk;have hx':=aP aY hx;rw[hx] at u;dsimp only at u;have dk:decide ((0:Int)≤(k:Int))=true:=θ (by omega);have hm:=bN 21 s.pl;refine sk 4 rfl ?_;rw[dk];refine kc hm ?_;refine az ?_;cases y:x.has with
  | true=>
   rw[ζ y] at u;have hm:=bO 20 s.pl;have E:W.2=⟨z.R,20,s.pl⟩:=by
    unfold bV at u;rw[ζ he] at u;rw[u,pZ (show ¬(20:Int)=0 by decide)]
   unfold aWt;rw[E,η (show ¬(20:Int)=0 by decide)];refine skh 8 [(4,.row k (aY x))] rfl ?_;rw[y];refine kpD (.tup []) [] hm ?_;exact az trivial
  | false=>
   rw[η (by rw[y];exact χ)] at u;have hm:=bN 20 s.pl;refine skh 8 [(4,.row k (aY x))] rfl ?_;rw[y];refine kc hm ?_;refine az ?_;have hs1:(b.map aY).set k (aY (.mk x.name x.pl true x.sig x.body))=(b.set k (.mk x.name x.pl true x.sig x.body)).map aY:=by rw[map_set]
   have hs2:((b.map aY).set k (aY (.mk x.name x.pl true x.sig x.body))).set k (aY (lV x s.ty))=(b.set k (lV x s.ty)).map aY:=by rw[List.set_set,map_set]
   have hx2:((b.map aY).set k (aY (.mk x.name x.pl true x.sig x.body)))[k]?=some (aY (.mk x.name x.pl true x.sig x.body)):=by rw[List.getElem?_set_self (by rw[O];exact hk)]
   exact ag [(8,.row k (aY x)),(11,.row k (aY (.mk x.name x.pl true x.sig x.body)))] rfl (agN [] rfl ⟨(i+1,b.set k (lV x s.ty)),⟨J,by dsimp only;rw[C3,A],u⟩,by dsimp only;omega,sl (hh:=⟨⟨_,rfl,.arrS hs2⟩,trivial⟩)⟩)
def zBd:Bd:=.mk [] 0 false oW zEx
def aCw (sigs:List Sg) (binds:List Bd):List (Nat×AObj):=[(7,.var 85 [.hs 510 0 sigs.length sigs.length]),(8,.var 28 [.hs 511 0 binds.length binds.length]),(510,sgA sigs 0),(511,bdA binds 0)]
def dtA (l:List Dt):AObj:=.arr 81 5 (l.map cQ) 0
def clA (l:List Cl):AObj:=.arr 87 6 (l.map cX) 0
def inA (l:List In):AObj:=.arr 90 6 (l.map dD) 0
def aKy (p:Pg) (sigs:List Sg):List (Nat×AObj):=[(4,.var 85 [.hs 510 0 sigs.length sigs.length]),(3,.var 30 [.hs 512 0 p.datas.length p.datas.length,.hs 513 0 p.classes.length p.classes.length,.hs 514 0 p.insts.length p.insts.length,.hs 511 0 p.binds.length p.binds.length]),(510,sgA sigs 0),(511,bdA p.binds 0),(512,dtA p.datas),(513,clA p.classes),(514,inA p.insts)]
section
variable {L:List Tk}{ex:Nat→Z→Ex×Z}{N:Nat}(hB:yJ ex) (hS:aSp L ex N) (hZ:rN L) (hwt:wt L≤30000)
include hB hS hZ hwt
theorem aZr (sigs:List Sg) (binds:List Bd) (deep:Nat) {z:Z}(h:ZA L z) (he:z.e=0) (hN:z.R.length≤N) (hd:deep≤41) (h1:sigs.length≤4001) (h2:binds.length≤4001):
  bH Tryz.prog 120 [rP,.one (.vp 7 0),.one (.vp 8 0),I .i64 (deep:Nat)] ((600,rO L z)::aCw sigs binds) (iP L (.tup []) (aV ex sigs binds deep z).2 (aCw (aV ex sigs binds deep z).1.1 (aV ex sigs binds deep z).1.2)):=by
 have hw:=jN h he 1 (by decide);have g1:=h.word (k:=1) (by decide);have l1:=Ze.word 1 z;have hsl:(sigs.map c6).length=sigs.length:=ξ _;have U:(binds.map aY).length=binds.length:=ξ _;unfold aV;generalize aR 1 z=w at hw g1 l1 ⊢;obtain⟨B,O⟩:=w;dsimp only at hw g1 l1 ⊢;refine pI (n:=39) tok Tryz.func120 rfl rfl rfl rfl ?_;by_cases q:O.e=0
 case neg=>
  have hp:=bH.err hw q;rw[n8 q];dsimp only;rw[η χ];have hb:(dP ex B deep O).2=O:=by
   unfold dP gR;dsimp only;rw[n7 q,eZ q,bK q];exact hB _ _ q
  dsimp only;rw[hb,aL q];exact sk 1 rfl (kp hp)
 have hw:=bH.ok hw q;have hm:=gH g1 q eT;have g2:=g1.may eT;have l2:=Ze.may eT O;have M:=(jW eT O).trans q;generalize bT eT O=m at hm g2 l2 M ⊢;obtain⟨b,z2⟩:=m;dsimp only at hm g2 l2 M ⊢;refine sk 1 rfl (kc hw ?_);refine ak 2 [(2,.id 40)] rfl (az (aA (sk 1 rfl (kc hm ?_))));refine az ?_;cases b with
 | true=>
  rw[ζ rfl];have E:=nM g2 M hZ hwt;generalize bM z2=y at E ⊢;obtain⟨s,z3⟩:=y;dsimp only at E ⊢;refine aB rfl (fun _=>?_) (fun hb=>Bool.noConfusion hb);by_cases u:z3.e=0
  case neg=>
   have hp:=bH.err E u;rw[aL u];refine sk 9 rfl (kpD (.pa (kU oW)) [(600,rO L z2)] hp ?_);exact ak 5 [(11,.all)] rfl (az trivial)
  have E:=bH.ok E u;rw[bC u];have A:sigs.map c6++[c6 ⟨B.text,B.pl,s⟩]=(sigs++[(⟨B.text,B.pl,s⟩:Sg)]).map c6:=by rw[Af];rfl
  have hle:(sigs++[(⟨B.text,B.pl,s⟩:Sg)]).length=sigs.length+1:=by rw[ψ];rfl
  generalize sigs++[(⟨B.text,B.pl,s⟩:Sg)]=S at A hle ⊢;refine sk 9 rfl (kc E ?_);refine ak 5 [(11,.all)] rfl (az (AWp.sub (st2:=mk [] ((600,rO L z3)::aCw S binds)) (sl (hh:=⟨⟨_,rfl,.var rfl⟩,⟨_,rfl,.var (by rw[hle,←hsl];rfl)⟩,⟨_,rfl,.var rfl⟩,⟨_,rfl,.arrS A⟩,⟨_,rfl,Go.AM.Ole.arr⟩,trivial⟩)) ?_));exact aE rtN
 | false=>
  rw[η χ];have J:=y4 hB hS B deep g2 M (le_trans (l1.trans l2) hN) hd;generalize dP ex B deep z2=y at J ⊢;obtain⟨Y,z3⟩:=y;dsimp only at J ⊢;have hz0:(binds.map aY++[(aY zBd)])[binds.length]?=some (aY zBd):=by rw[Bg (by omega),U,Cq];rfl
  refine aB rfl (fun hb=>Bool.noConfusion hb) (fun _=>aD ?_);by_cases u:z3.e=0
  case neg=>
   have hp:=bH.err J u;rw[aL u];refine aC mixed (ak 6 [] rfl (kpD (.pa (aY zBd)) [(600,rO L z2)] hp ?_));exact ak 7 [(8,.all),(11,.row binds.length (aY zBd))] rfl (az trivial)
  have J:=bH.ok J u;rw[bC u];have A:(binds.map aY++[(aY zBd)]).set binds.length (aY Y)=(binds++[Y]).map aY:=by
   rw[set_append_right _ _ (by omega),U,Cq,Af];rfl
  have hle:(binds++[Y]).length=binds.length+1:=by rw[ψ];rfl
  refine aC mixed (ak 6 [] rfl (kc J ?_));refine ak 7 [(8,.all),(11,.row binds.length (aY zBd))] rfl (az ?_);generalize hSe:binds++[Y]=S at A hle ⊢;exact rtN (ho:=⟨⟨_,rfl,.var rfl⟩,⟨_,rfl,.var rfl⟩,⟨_,rfl,.var (by rw[hle,←U];rfl)⟩,⟨_,rfl,Go.AM.Ole.arr⟩,⟨_,rfl,.arrS A⟩,trivial⟩)
theorem aZq (p:Pg) (sigs:List Sg) (deep:Nat) {z:Z}(h:ZA L z) (he:z.e=0) (hN:z.R.length≤N) (hd:deep≤41) (h1:sigs.length≤4001) (h2:p.binds.length≤4001):
  bH Tryz.prog 120 [rP,.one (.vp 4 0),.one (.vp 3 3),I .i64 (deep:Nat)] ((600,rO L z)::aKy p sigs) (iP L (.tup []) (aV ex sigs p.binds deep z).2 (aKy ⟨p.datas,p.classes,p.insts,(aV ex sigs p.binds deep z).1.2⟩ (aV ex sigs p.binds deep z).1.1)):=by
 have hw:=jN h he 1 (by decide);have g1:=h.word (k:=1) (by decide);have l1:=Ze.word 1 z;have hsl:(sigs.map c6).length=sigs.length:=ξ _;have U:(p.binds.map aY).length=p.binds.length:=ξ _;unfold aV;generalize aR 1 z=w at hw g1 l1 ⊢;obtain⟨B,O⟩:=w;dsimp only at hw g1 l1 ⊢;refine pI (n:=39) tok Tryz.func120 rfl rfl rfl rfl ?_;by_cases q:O.e=0
 case neg=>
  have hp:=bH.err hw q;rw[n8 q];dsimp only;rw[η χ];have hb:(dP ex B deep O).2=O:=by
   unfold dP gR;dsimp only;rw[n7 q,eZ q,bK q];exact hB _ _ q
  dsimp only;rw[hb,aL q];exact sk 1 rfl (kp hp)
 have hw:=bH.ok hw q;have hm:=gH g1 q eT;have g2:=g1.may eT;have l2:=Ze.may eT O;have M:=(jW eT O).trans q;generalize bT eT O=m at hm g2 l2 M ⊢;obtain⟨b,z2⟩:=m;dsimp only at hm g2 l2 M ⊢;refine sk 1 rfl (kc hw ?_);refine ak 2 [(2,.id 40)] rfl (az (aA (sk 1 rfl (kc hm ?_))));refine az ?_;cases b with
 | true=>
  rw[ζ rfl];have E:=nM g2 M hZ hwt;generalize bM z2=y at E ⊢;obtain⟨s,z3⟩:=y;dsimp only at E ⊢;refine aB rfl (fun _=>?_) (fun hb=>Bool.noConfusion hb);by_cases u:z3.e=0
  case neg=>
   have hp:=bH.err E u;rw[aL u];refine sk 9 rfl (kpD (.pa (kU oW)) [(600,rO L z2)] hp ?_);exact ak 5 [(11,.all)] rfl (az trivial)
  have E:=bH.ok E u;rw[bC u];have A:sigs.map c6++[c6 ⟨B.text,B.pl,s⟩]=(sigs++[(⟨B.text,B.pl,s⟩:Sg)]).map c6:=by rw[Af];rfl
  have hle:(sigs++[(⟨B.text,B.pl,s⟩:Sg)]).length=sigs.length+1:=by rw[ψ];rfl
  generalize sigs++[(⟨B.text,B.pl,s⟩:Sg)]=S at A hle ⊢;refine sk 9 rfl (kc E ?_);refine ak 5 [(11,.all)] rfl (az (AWp.sub (st2:=mk [] ((600,rO L z3)::aKy ⟨p.datas,p.classes,p.insts,p.binds⟩ S)) (sl (hh:=⟨⟨_,rfl,.var rfl⟩,⟨_,rfl,.var (by rw[hle,←hsl];rfl)⟩,⟨_,rfl,.var rfl⟩,⟨_,rfl,.arrS A⟩,⟨_,rfl,Go.AM.Ole.arr⟩,⟨_,rfl,Go.AM.Ole.arr⟩,⟨_,rfl,Go.AM.Ole.arr⟩,⟨_,rfl,Go.AM.Ole.arr⟩,trivial⟩)) ?_));exact aE rtN
 | false=>
  rw[η χ];have J:=y4 hB hS B deep g2 M (le_trans (l1.trans l2) hN) hd;generalize dP ex B deep z2=y at J ⊢;obtain⟨Y,z3⟩:=y;dsimp only at J ⊢;have hz0:(p.binds.map aY++[(aY zBd)])[p.binds.length]?=some (aY zBd):=by rw[Bg (by omega),U,Cq];rfl
  refine aB rfl (fun hb=>Bool.noConfusion hb) (fun _=>aD ?_);by_cases u:z3.e=0
  case neg=>
   have hp:=bH.err J u;rw[aL u];refine aC mixed (ak 6 [] rfl (kpD (.pa (aY zBd)) [(600,rO L z2)] hp ?_));exact ak 7 [(8,.all),(11,.row p.binds.length (aY zBd))] rfl (az trivial)
  have J:=bH.ok J u;rw[bC u];have A:(p.binds.map aY++[(aY zBd)]).set p.binds.length (aY Y)=(p.binds++[Y]).map aY:=by
   rw[set_append_right _ _ (by omega),U,Cq,Af];rfl
  have hle:(p.binds++[Y]).length=p.binds.length+1:=by rw[ψ];rfl
  refine aC mixed (ak 6 [] rfl (kc J ?_));refine ak 7 [(8,.all),(11,.row p.binds.length (aY zBd))] rfl (az ?_);generalize hSe:p.binds++[Y]=S at A hle ⊢;exact rtN (ho:=⟨⟨_,rfl,.var rfl⟩,⟨_,rfl,.var rfl⟩,⟨_,rfl,.var (by rw[hle,←U];rfl)⟩,⟨_,rfl,Go.AM.Ole.arr⟩,⟨_,rfl,.arrS A⟩,⟨_,rfl,Go.AM.Ole.arr⟩,⟨_,rfl,Go.AM.Ole.arr⟩,⟨_,rfl,Go.AM.Ole.arr⟩,trivial⟩)
end
section
variable {σ:Type}(sh:Str) (step:σ→Z→σ×Z)
def lpZ:Nat→Nat→σ→Z→σ×Z
 | 0,_,s,z=>(s,z)
 | f+1,n,s,z=>if(b6 sh n z).1=true then lpZ f (n+1) (step s (b6 sh n z).2).1 (step s (b6 sh n z).2).2 else(s,(b6 sh n z).2)
def yQ (s:σ) (z:Z):σ×Z:=
 ((lpZ b5 step ((aQ dH z).R.length+1) 0 s (aQ dH z)).1,aQ b5 (lpZ b5 step ((aQ dH z).R.length+1) 0 s (aQ dH z)).2)
end
theorem iL {σ:Type}{sh:Str}{step:σ→Z→σ×Z}{f n:Nat}{s:σ}{z:Z}(h:¬z.e=0):lpZ sh step f n s z=(s,z):=by
 cases f with
 | zero=>rfl
 | succ f=>rw[lpZ,aQj h,η χ]
theorem tO (s:Str) (z:Z):moreA s 0 z=z:=η fun k=>lt_irrefl 0 k.1
theorem xC {σ:Type}{L:List Tk}{sh:Str}{step:σ→Z→σ×Z}{Inv:Nat→σ→Prop}(u:∀n s z,Inv n s→n<60→ZA L z→z.e=0→ZA L (step s z).2∧Inv (n+1) (step s z).1∧((step s z).2.e=0→(step s z).2.R.length<z.R.length)∧Ze z (step s z).2):
  ∀(f n:Nat) (s:σ) (z:Z),n≤60→Inv n s→ZA L z→ZA L (lpZ sh step f n s z).2∧(∃m,m≤60∧Inv m (lpZ sh step f n s z).1)∧Ze z (lpZ sh step f n s z).2
 | 0,n,s,z,hn,q,h=>⟨h,⟨n,hn,q⟩,Ze.refl z⟩
 | f+1,n,s,z,hn,q,h=>by
  rw[lpZ];split
  ·rename_i hm;obtain⟨e,y⟩:=eH hm;obtain⟨A,B,_,E⟩:=u n s _ q (by omega) (h.more sh n) e;obtain⟨g1,g2,g3⟩:=xC u f (n+1) _ _ y B A;exact⟨g1,g2,((Ze.more sh n z).trans E).trans g3⟩
  ·exact⟨h.more _ _,⟨n,hn,q⟩,Ze.more _ _ _⟩
theorem aKo (ex:Nat→Z→Ex×Z) (deep:Nat):∀(f n:Nat) (sigs:List Sg) (binds:List Bd) (z:Z),fW ex deep f n sigs binds z=lpZ b5 (fun(s:List Sg×List Bd) z=>aV ex s.1 s.2 deep z) f n (sigs,binds) z
 | 0,_,_,_,_=>rfl
 | f+1,n,sigs,binds,z=>by
  rw[fW,lpZ];split
  ·exact aKo ex deep f _ _ _ _
  ·rfl
def pR:AObj:=.var 118 [.vp 600 0]
def dO (deep:Nat):AObj:=.var 3 [.c (.int .i64 (deep:Nat))]
theorem rM {L:List Tk}{z:Z}(h:ZA L z):aW Tryz.prog 194 ([]++[R.vp 2 0].map V.one) [(600,rO L z),(2,pR)] (B (eD b5 z)) [(600,rO L z),(2,pR)]:=by
 have hi:=oB h b5;have e:eD b5 z=isZ b5 z:=η (fun k=>by cases k);rw[e];refine b9 (n:=4) tok Tryz.func194 rfl rfl rfl ?_;refine sg rfl (sk 1 rfl (kc hi ?_));exact kz 1 rfl (aE rtT)
theorem aU6 (deep:Nat) {step:(List Sg×List Bd)→Z→(List Sg×List Bd)×Z}{Inv:Nat→(List Sg×List Bd)→Prop}{L:List Tk}{N:Nat}
  (hone:∀n s z,Inv n s→n<60→ZA L z→z.e=0→z.R.length≤N→bH Tryz.prog 228 ([]++[R.vp 3 0,R.vp 7 0,R.vp 8 0,R.vp 5 0].map V.one) ((600,rO L z)::(3,pR)::(5,dO deep)::aCw s.1 s.2) (iP L (.tup []) (step s z).2 ((3,pR)::(5,dO deep)::aCw (step s z).1.1 (step s z).1.2)))
  (hst:∀n s z,Inv n s→n<60→ZA L z→z.e=0→ZA L (step s z).2∧Inv (n+1) (step s z).1∧((step s z).2.e=0→(step s z).2.R.length<z.R.length)∧Ze z (step s z).2)
  {z:Z} (h:ZA L z) (he:z.e=0) (hN:z.R.length≤N) {s:(List Sg×List Bd)} (hI:Inv 0 s):
  bH Tryz.prog 113 [rP,.one (.clo 194 [R.vp 2 0]),.one (.clo 228 [R.vp 3 0,R.vp 7 0,R.vp 8 0,R.vp 5 0])] ((600,rO L z)::(2,pR)::(3,pR)::(5,dO deep)::aCw s.1 s.2) (iP L (.tup []) (lpZ b5 step (z.R.length+1) 0 s z).2 ((2,pR)::(3,pR)::(5,dO deep)::aCw (lpZ b5 step (z.R.length+1) 0 s z).1.1 (lpZ b5 step (z.R.length+1) 0 s z).1.2)):=by
 have u:∃W,W=lpZ b5 step (z.R.length+1) 0 s z:=⟨_,rfl⟩
 obtain⟨W,u⟩:=u;rw[←u];refine pI (n:=35) tok Tryz.func113 rfl rfl rfl rfl ?_;refine sg rfl (aF (aJ (fun q:Nat×(List Sg×List Bd)×Z×Nat=>mk [(0,rP),(1,.one (.clo 194 [R.vp 2 0])),(2,.one (.clo 228 [R.vp 3 0,R.vp 7 0,R.vp 8 0,R.vp 5 0])),(6,I .i64 (q.1:Nat))] ((600,rO L q.2.2.1)::(2,pR)::(3,pR)::(5,dO deep)::aCw q.2.1.1 q.2.1.2)) (fun q=>Inv q.1 q.2.1∧q.1≤60∧ZA L q.2.2.1∧q.2.2.1.e=0∧q.2.2.1.R.length≤N∧q.2.2.1.R.length<q.2.2.2∧moreA b5 q.1 q.2.2.1=q.2.2.1∧W=lpZ b5 step q.2.2.2 q.1 q.2.1 q.2.2.1) (fun q=>q.2.2.1.R.length) (0,s,z,z.R.length+1) ⟨hI,Ab _,h,he,hN,Bv _,tO _ _,u⟩ sl ?_));clear u h he hN hI;rintro⟨n,s,z,f⟩ ⟨hI,hn,h,he,hN,hf,hA,u⟩;dsimp only at hI hn h he hN hf hA u;refine aF (aA (aF (aJ (fun y:Z=>mk [(0,rP),(1,.one (.clo 194 [R.vp 2 0])),(2,.one (.clo 228 [R.vp 3 0,R.vp 7 0,R.vp 8 0,R.vp 5 0])),(6,I .i64 (n:Nat))] ((600,rO L y)::(2,pR)::(3,pR)::(5,dO deep)::aCw s.1 s.2)) (fun y=>ZA L y∧y.e=0∧dC z=dC y∧y.R.length≤z.R.length) (fun y=>y.R.length) z ⟨h,he,rfl,le_refl _⟩ sl ?_)));rintro y ⟨h2,B,e2,hle2⟩

 have hm:=gH h2 B cM;obtain⟨m1,m2,m3⟩:=nK h2;have O:=h2.may cM;have he3:=(jW cM y).trans B;generalize bT cM y=m at hm m1 m2 m3 O he3;obtain⟨b,z3⟩:=m;dsimp only at m1 m2 m3 O he3;refine aA (sk 1 rfl (kc hm ?_));refine az (aB rfl (fun hb=>?_) (fun hb=>?_))
 ·have hb:b=true:=hb;have:=m3 hb;exact aD (aF (aD ⟨z3,⟨O,he3,e2.trans m1.symm,by omega⟩,m3 hb,sl⟩))
 have hb:b=false:=hb;obtain⟨g1,g2⟩:=m2 hb;subst g1;have e3:dC z=z3:=e2.trans g2;clear m1 m2 m3 O e2 hm;have hf0:∃g,f=g+1:=⟨f-1,by omega⟩
 obtain⟨f,rfl⟩:=hf0;rw[lpZ] at u;unfold b6 at u;rw[hA,e3] at u;have hs3:=rM h2;have hn3:=eQ h2;refine aH (aA (sk 1 rfl (kv (args:=[]) hs3 ?_)));refine az (aB rfl (fun hb=>?_) (fun hb=>?_))
 ·have hb:eD b5 z3=true:=hb;rw[ζ (show ¬z3.e=0∨eD b5 z3=true from .inr hb)] at u;rw[η χ] at u;rw[u,bC B];exact aE rtN
 have hb:eD b5 z3=false:=hb;have hnb:¬(¬z3.e=0∨eD b5 z3=true):=fun k=>k.elim (fun k=>k B) fun k=>by rw[hb] at k;cases k
 rw[η hnb] at u;refine aD ?_;by_cases hn60:n<60
 case neg=>
  have d:decide (((n:Nat):Int)<60)=false:=φ (by omega);rw[iE (by omega) B] at u;dsimp only at u;rw[φ cS,η χ] at u;rw[u,aL cS];have hmn:=bO 2 (b8 z3).pl;refine sk 5 rfl (kc hn3 ?_);refine ak 1 [] rfl ?_;rw[d];exact kp hmn
 have d:decide (((n:Nat):Int)<60)=true:=θ (by omega);rw[iD (by omega),θ B,ζ rfl] at u;have hmo:=bN 2 (b8 z3).pl;refine sk 5 rfl (kc hn3 ?_);refine ak 1 [] rfl ?_;rw[d];refine kc hmo ?_;refine az ?_;have ho:=hone n s z3 hI hn60 h2 B (by omega);obtain⟨E,k2,k3,_⟩:=hst n s z3 hI hn60 h2 B;generalize step s z3=y at ho E k2 k3 u;obtain⟨s4,z4⟩:=y;dsimp only at ho E k2 k3 u;by_cases A:z4.e=0
 case neg=>
  have hp:=bH.err ho A;rw[iL A] at u;rw[u,aL A];exact sk 1 rfl (kpv (args:=[]) hp)
 have ho:=bH.ok ho A;have k3:=k3 A;refine sk 1 rfl (kv (args:=[]) ho ?_);refine az (aA (agN [] rfl ?_));have hlp:=E.lp;have J:=oB E cM;have hn4:=eQ E;have U:=rM E;have hmo4:=bN 12 (b8 z4).pl;cases Y:isZ cM z4 with
 | true=>
  rw[Y] at J;have M:moreA b5 (n+1) z4=z4:=η fun k=>by rw[Y] at k;cases k.2.2.1
  refine aC mixed (ak 1 [] rfl (kc J ?_));refine ak 7 [(2,.bv true),(5,.bv true)] rfl (kc hn4 ?_);refine ak 1 [(2,.bv true),(5,.bv true)] rfl (kc hmo4 ?_);exact az ⟨(n+1,s4,z4,f),⟨k2,by omega,E,A,by dsimp only;omega,by dsimp only;omega,M,u⟩,by dsimp only;omega,sl⟩
 | false=>
  rw[Y] at J;cases aa:eD b5 z4 with
  | true=>
   rw[aa] at U;have M:moreA b5 (n+1) z4=z4:=η fun k=>by rw[aa] at k;cases k.2.2.2
   refine aC mixed (ak 1 [] rfl (kc J ?_));refine ak 2 [(2,.bv false)] rfl (kvG (args:=[]) U ?_);refine ak 4 [(2,.bv false),(5,.bv false)] rfl (kc hn4 ?_);refine ak 1 [(2,.bv false),(5,.bv false)] rfl (kc hmo4 ?_);exact az ⟨(n+1,s4,z4,f),⟨k2,by omega,E,A,by dsimp only;omega,by dsimp only;omega,M,u⟩,by dsimp only;omega,sl⟩
  | false=>
   rw[aa] at U;have hmn4:=bO 12 (b8 z4).pl;have M:moreA b5 (n+1) z4=⟨z4.R,12,(b8 z4).pl⟩:=(ζ ⟨succ_pos n,A,Y,aa⟩).trans (ζ A);have h12:¬(12:Int)=0:=by decide
   have hWb:W.2=⟨z4.R,12,(b8 z4).pl⟩:=by
    obtain⟨f,rfl⟩:∃g,f=g+1:=⟨f-1,by omega⟩
    rw[lpZ] at u;unfold b6 at u;rw[M,nP h12,ζ (show ¬(Z.mk z4.R 12 (b8 z4).pl).e=0∨_ from .inl h12),η χ] at u;rw[u]
   rw[hWb,aL h12];refine aC mixed (ak 1 [] rfl (kc J ?_));refine ak 2 [(2,.bv false)] rfl (kvG (args:=[]) U ?_);refine ak 4 [(2,.bv false),(5,.bv false)] rfl (kc hn4 ?_);refine ak 1 [(2,.bv false),(5,.bv false)] rfl (kpD (.tup []) [] hmn4 ?_);exact az trivial
theorem aP8 (deep:Nat) {step:(List Sg×List Bd)→Z→(List Sg×List Bd)×Z}{Inv:Nat→(List Sg×List Bd)→Prop}{L:List Tk}{N:Nat}
  (J:∀n s z,Inv n s→n<60→ZA L z→z.e=0→z.R.length≤N→bH Tryz.prog 228 ([]++[R.vp 3 0,R.vp 7 0,R.vp 8 0,R.vp 5 0].map V.one) ((600,rO L z)::(3,pR)::(5,dO deep)::aCw s.1 s.2) (iP L (.tup []) (step s z).2 ((3,pR)::(5,dO deep)::aCw (step s z).1.1 (step s z).1.2)))
  (I:∀n s z,Inv n s→n<60→ZA L z→z.e=0→ZA L (step s z).2∧Inv (n+1) (step s z).1∧((step s z).2.e=0→(step s z).2.R.length<z.R.length)∧Ze z (step s z).2)
  {z:Z} (h:ZA L z) (he:z.e=0) (hN:z.R.length≤N) {s:(List Sg×List Bd)} (M:Inv 0 s):
  bH Tryz.prog 158 [rP,.one (.clo 228 [R.vp 3 0,R.vp 7 0,R.vp 8 0,R.vp 5 0])] ((600,rO L z)::(3,pR)::(5,dO deep)::aCw s.1 s.2) (iP L (.tup []) (yQ step s z).2 ((3,pR)::(5,dO deep)::aCw (yQ step s z).1.1 (yQ step s z).1.2)):=by
 have q:=dM h he dH;have h1:=h.need dH;have O:=Ze.need dH z;unfold yQ;generalize aQ dH z=E at q h1 O ⊢;have U:E.R.length≤z.R.length:=O;refine pI (n:=12) tok Tryz.func158 rfl rfl rfl rfl ?_;refine sg rfl ?_;by_cases u:E.e=0
 case neg=>
  have hp:=bH.err q u;rw[iL u];dsimp only;rw[bK u,aL u];exact sk 1 rfl (kp hp)
 have q:=bH.ok q u;refine sk 1 rfl (kc q ?_);refine az ?_;have y:=aU6 deep (step:=step) (Inv:=Inv) (L:=L) (N:=N) J I h1 u (by omega) M;have hok:=(xC (sh:=b5) I (E.R.length+1) 0 s E (Ab _) M h1).1
 generalize lpZ b5 step (E.R.length+1) 0 s E=W at y hok ⊢;obtain⟨s2,z2⟩:=W;dsimp only at y hok ⊢;by_cases A:z2.e=0
 case neg=>
  have hp:=bH.err y A;rw[bK A,aL A];exact sk 3 rfl (kp hp)
 have y:=bH.ok y A;refine sk 3 rfl (kc y ?_);refine az ?_;have q:=dM hok A b5;generalize aQ b5 z2=z3 at q ⊢;by_cases B:z3.e=0
 case neg=>
  have hp:=bH.err q B;rw[aL B];exact aC mixed (ak 1 [] rfl (kp hp))
 have q:=bH.ok q B;rw[bC B];refine aC mixed (ak 1 [] rfl (kc q ?_));exact az rtN
theorem jD:∀{l:List Sg}{b:List Bd}{z:Z},(dG l b z).2.e=0→(dG l b z).2=z
 | [],b,z,_=>rfl
 | s::l,b,z,h=>by
  rw[dG] at h ⊢;by_cases he:z.e=0
  case neg=>rw[η he]
  rw[ζ he] at h ⊢;have hb:∀e p:Int,¬e=0→(dG l b (bV e p z)).2.e=0→False:=fun e p q h0=>by
   have y:bV e p z=⟨z.R,e,p⟩:=ζ he;rw[y,pZ (show ¬(Z.mk z.R e p).e=0 from q)] at h0;exact q h0
  cases u:b.findIdx? (fun x=>decide (x.name=s.name)) with
  | none=>rw[u] at h;exact(hb 21 _ (by decide) h).elim
  | some k=>
   rw[u] at h;dsimp only at h ⊢;cases hx:b[k]? with
   | none=>rfl
   | some x=>
    rw[hx] at h;dsimp only at h ⊢;by_cases hh:x.has=true
    ·rw[ζ hh] at h;exact(hb 20 _ (by decide) h).elim
    ·rw[η hh] at h ⊢;exact jD h
section
variable {L:List Tk}{ex:Nat→Z→Ex×Z}{N:Nat}(hB:yJ ex) (hS:aSp L ex N) (hZ:rN L) (hwt:wt L≤30000)
include hB hS hZ hwt
theorem aZ0 (sigs:List Sg) (binds:List Bd) (deep:Nat) {z:Z}(h:ZA L z) (he:z.e=0) (hN:z.R.length≤N) (u:deep≤40) (h1:sigs.length≤4001) (h2:binds.length≤4001):
  bH Tryz.prog 228 ([]++[R.vp 3 0,R.vp 7 0,R.vp 8 0,R.vp 5 0].map V.one) ((600,rO L z)::(3,pR)::(5,dO deep)::aCw sigs binds) (iP L (.tup []) (aV ex sigs binds (deep+1) z).2 ((3,pR)::(5,dO deep)::aCw (aV ex sigs binds (deep+1) z).1.1 (aV ex sigs binds (deep+1) z).1.2)):=by
 have hs:=aZr hB hS hZ hwt sigs binds (deep+1) h he hN (by omega) h1 h2;generalize aV ex sigs binds (deep+1) z=y at hs ⊢;obtain⟨⟨S,Bs⟩,z2⟩:=y;dsimp only at hs ⊢;refine pI (n:=8) tok Tryz.func228 rfl rfl rfl rfl ?_;by_cases q:z2.e=0
 case neg=>
  have hp:=bH.err hs q;rw[aL q];exact aC mixed (akN 3 [] rfl (kp hp))
 have hs:=bH.ok hs q;rw[bC q];refine aC mixed (akN 3 [] rfl (kc hs ?_));exact az rtN
omit hB hS hZ hwt
theorem aO4 (deep:Nat) (z:Z):mW ex deep z=lpZ b5 (fun(s:List Sg×List Bd) z=>aV ex s.1 s.2 (deep+1) z) ((aQ dH z).R.length+1) 0 ([],[]) (aQ dH z):=aKo ex (deep+1) _ _ _ _ _
include hB hS hZ hwt
theorem aZz (hO:ExO L ex) (a:Int) (deep:Nat) {z:Z}(h:ZA L z) (he:z.e=0) (hN:z.R.length≤N) (hd:deep≤40):bH Tryz.prog 219 [rP,I .i64 a,I .i64 (deep:Nat)] [(600,rO L z)] (iP L (.pa (bR (uR ex a deep z).1)) (uR ex a deep z).2 []):=by
 have hst:∀(n:Nat) (s:List Sg×List Bd) (z:Z),(gY s.1∧eY s.2∧s.1.length≤n∧s.2.length≤n)→n<60→ZA L z→z.e=0→ZA L (aV ex s.1 s.2 (deep+1) z).2∧(gY (aV ex s.1 s.2 (deep+1) z).1.1∧eY (aV ex s.1 s.2 (deep+1) z).1.2∧(aV ex s.1 s.2 (deep+1) z).1.1.length≤n+1∧(aV ex s.1 s.2 (deep+1) z).1.2.length≤n+1)∧((aV ex s.1 s.2 (deep+1) z).2.e=0→(aV ex s.1 s.2 (deep+1) z).2.R.length<z.R.length)∧Ze z (aV ex s.1 s.2 (deep+1) z).2:=fun n s z M hn h he=>by
  obtain⟨k1,k2,k3,k4,k5,k6,k7⟩:=kV hO hwt s.1 s.2 (deep+1) h M.1 M.2.1;exact⟨k1,⟨k2,k3,by have:=M.2.2.1;omega,by have:=M.2.2.2;omega⟩,k6,k7⟩
 have hI0:gY ([]:List Sg)∧eY ([]:List Bd)∧([]:List Sg).length≤0∧([]:List Bd).length≤0:=⟨fun s hs=>(by cases hs),trivial,le_refl _,le_refl _⟩
 have u:=aP8 deep (step:=fun(s:List Sg×List Bd) z=>aV ex s.1 s.2 (deep+1) z) (Inv:=fun n s=>gY s.1∧eY s.2∧s.1.length≤n∧s.2.length≤n) (L:=L) (N:=N) (fun n s z M hn h he hN=>aZ0 hB hS hZ hwt s.1 s.2 deep h he hN hd (by have:=M.2.2.1;omega) (by have:=M.2.2.2;omega)) hst h he hN (s:=([],[])) hI0;have hok:=xC (sh:=b5) (Inv:=fun n (s:List Sg×List Bd)=>gY s.1∧eY s.2∧s.1.length≤n∧s.2.length≤n) hst ((aQ dH z).R.length+1) 0 ([],[]) (aQ dH z) (Ab _) hI0 (h.need dH);unfold yQ at u;unfold uR;rw[aO4];unfold aE1;have l0:(aQ dH z).R.length≤z.R.length:=Ze.need dH z;generalize aQ dH z=z1 at u hok l0 ⊢;generalize lpZ b5 (fun(s:List Sg×List Bd) z=>aV ex s.1 s.2 (deep+1) z) (z1.R.length+1) 0 ([],[]) z1=W at u hok ⊢;obtain⟨⟨sigs,binds⟩,z2⟩:=W;dsimp only at u hok ⊢;obtain⟨g1,⟨m,hm60,hs,hb,hsl,hbl'⟩,g3⟩:=hok

 have h3:=g1.need b5;have l3:(aQ b5 z2).R.length≤z2.R.length:=Ze.need b5 z2;have g3:z2.R.length≤z1.R.length:=g3;generalize aQ b5 z2=z3 at u h3 l3 ⊢;refine pI (n:=25) tok Tryz.func219 rfl rfl rfl rfl ?_;refine sg rfl (sg rfl (sg rfl (AWp.sub (Sub.ownCell (x:=7) (k:=0) (id:=510) 100 9 rfl rfl rfl) ?_)));refine AWp.sub (Sub.ownCell (x:=8) (k:=0) (id:=511) 109 33 rfl rfl rfl) ?_;by_cases A:z3.e=0
 case neg=>
  have hp:=bH.err u A;rw[pZ A,bK A,hB _ _ A,aL A];exact sk 2 rfl (kp hp)
 have u:=bH.ok u A;refine sk 2 rfl (kc u ?_);refine az ?_;have q:=aL8 sigs binds A (by omega) (by omega);obtain⟨p1,p2,p3,p4⟩:=gV sigs binds z3 h3 hs hb;have Y:= @jD sigs binds z3;generalize dG sigs binds z3=y at q p1 p2 p3 p4 Y ⊢;obtain⟨Bs,U⟩:=y;dsimp only at q p1 p2 p3 p4 Y ⊢;have p4:U.R.length≤z3.R.length:=p4;unfold aWt at q;dsimp only at q;refine AWp.sub (Sub.freeze (id:=510) rfl) ?_;by_cases B:U.e=0
 case neg=>
  rw[η B] at q;have hp:aGs _ _ _ _ _:=q;rw[bK B,hB _ _ B,aL B];exact sk 2 rfl (kp hp)
 rw[ζ B] at q;have q:aW _ _ _ _ _ _:=q;obtain rfl:=Y B;have hBl:binds.length=(Bs.map aY).length:=by rw[ξ,p3]
 refine sk 2 rfl (kc q ?_);refine kz 1 rfl ?_;have E:=dM p1 B inS;have h7:=p1.need inS;have l7:(aQ inS U).R.length≤U.R.length:=Ze.need inS U;generalize aQ inS U=z7 at E h7 l7 ⊢;by_cases J:z7.e=0
 case neg=>
  have hp:=bH.err E J;rw[hB _ _ J,aL J];exact sk 1 rfl (kp hp)
 have E:=bH.ok E J;refine sk 1 rfl (kc E ?_);refine az ?_;have hex:=hS (deep+1) z7 h7 J (by omega) (by omega);generalize ex (deep+1) z7=y at hex ⊢;obtain⟨e,z8⟩:=y;dsimp only at hex ⊢;refine AWp.sub (Sub.freeze (id:=511) rfl) ?_;by_cases O:z8.e=0
 case neg=>
  have hp:=bH.err hex O;rw[aL O];refine aA (aC mixed (akN 5 [] rfl (kpD (.pa (bR zEx)) [(600,rO L z7)] hp ?_)));exact ak 3 [(6,.all)] rfl (az trivial)
 have hex:=bH.ok hex O;rw[bC O];refine aA (aC mixed (akN 5 [] rfl (kc hex ?_)));refine ak 3 [(6,.all)] rfl (az ?_);unfold bR;rw[aFl];exact aE (rtC trw (hc:=.agg (.c .refl (.c .refl (.c .refl (.c .refl (.c .refl (.c .nl (.hs rfl hBl (Go.AM.take_all hBl) (.c .nl (.c .nl (.c .nl (.c .refl (.c .refl (.c .refl (.c .nl (.c .nl .nil)))))))))))))))))
end
def aHr (a:Int) (ps:List Pt) (ks:List Ex):List (Nat×AObj):=[(7,.var 47 [.c (.int .i64 7),.c (.int .i64 a),.c (.int .i64 0),.c (.str []),.hs 520 0 ks.length ks.length,.hs 521 0 ps.length ps.length,.c .nl,.c .nl,.c .nl,.c .nl,.c (.int .i64 0),.c (.int .i64 0),.c (.str []),.c .nl,.c .nl]),(520,.arr 47 15 (ks.map bR) 0),(521,.arr 51 10 (ps.map bL) 0)]
def aB8 (ex:Nat→Z→Ex×Z) (deep:Nat) (s:List Pt×List Ex) (z:Z):(List Pt×List Ex)×Z:=
 ((s.1++[(iO (3*z.R.length+1) 0 z).1],s.2++[(ex (deep+1) (aQ arrow (iO (3*z.R.length+1) 0 z).2)).1]),(ex (deep+1) (aQ arrow (iO (3*z.R.length+1) 0 z).2)).2)
theorem aNc (ex:Nat→Z→Ex×Z) (deep:Nat):∀(f n:Nat) (ps:List Pt) (ks:List Ex) (z:Z),fQ ex deep f n ps ks z=lpZ b5 (aB8 ex deep) f n (ps,ks) z
 | 0,_,_,_,_=>rfl
 | f+1,n,ps,ks,z=>by
  rw[fQ,lpZ];split
  ·exact aNc ex deep f _ _ _ _
  ·rfl
theorem aTu {s:Str}{z:Z}(h:(aQ s z).e=0):aQ s z=tlZ z∧¬(b8 z).kind=6∧z.e=0:=by
 have he:=aX h;unfold aQ at h ⊢;rw[aTx he] at h ⊢;by_cases hi:isZ s z=true
 ·rw[ζ hi,ζ rfl];exact⟨rfl,lP hi,he⟩
 ·rw[η hi,η χ] at h;exact(cJ (by decide) h).elim
theorem aVa (a:Int) (deep:Nat) {step:(List Pt×List Ex)→Z→(List Pt×List Ex)×Z}{Inv:Nat→(List Pt×List Ex)→Prop}{L:List Tk}{N:Nat}
  (hone:∀n s z,Inv n s→n<60→ZA L z→z.e=0→z.R.length≤N→bH Tryz.prog 229 ([]++[R.vp 7 0,R.vp 3 0,R.vp 5 0].map V.one) ((600,rO L z)::(3,pR)::(5,dO deep)::aHr a s.1 s.2) (iP L (.tup []) (step s z).2 ((3,pR)::(5,dO deep)::aHr a (step s z).1.1 (step s z).1.2)))
  (hst:∀n s z,Inv n s→n<60→ZA L z→z.e=0→ZA L (step s z).2∧Inv (n+1) (step s z).1∧((step s z).2.e=0→(step s z).2.R.length<z.R.length)∧Ze z (step s z).2)
  {z:Z} (h:ZA L z) (he:z.e=0) (hN:z.R.length≤N) {s:(List Pt×List Ex)} (hI:Inv 0 s):
  bH Tryz.prog 113 [rP,.one (.clo 194 [R.vp 2 0]),.one (.clo 229 [R.vp 7 0,R.vp 3 0,R.vp 5 0])] ((600,rO L z)::(2,pR)::(3,pR)::(5,dO deep)::aHr a s.1 s.2) (iP L (.tup []) (lpZ b5 step (z.R.length+1) 0 s z).2 ((2,pR)::(3,pR)::(5,dO deep)::aHr a (lpZ b5 step (z.R.length+1) 0 s z).1.1 (lpZ b5 step (z.R.length+1) 0 s z).1.2)):=by
 have u:∃W,W=lpZ b5 step (z.R.length+1) 0 s z:=⟨_,rfl⟩
 obtain⟨W,u⟩:=u;rw[←u];refine pI (n:=35) tok Tryz.func113 rfl rfl rfl rfl ?_;refine sg rfl (aF (aJ (fun q:Nat×(List Pt×List Ex)×Z×Nat=>mk [(0,rP),(1,.one (.clo 194 [R.vp 2 0])),(2,.one (.clo 229 [R.vp 7 0,R.vp 3 0,R.vp 5 0])),(6,I .i64 (q.1:Nat))] ((600,rO L q.2.2.1)::(2,pR)::(3,pR)::(5,dO deep)::aHr a q.2.1.1 q.2.1.2)) (fun q=>Inv q.1 q.2.1∧q.1≤60∧ZA L q.2.2.1∧q.2.2.1.e=0∧q.2.2.1.R.length≤N∧q.2.2.1.R.length<q.2.2.2∧moreA b5 q.1 q.2.2.1=q.2.2.1∧W=lpZ b5 step q.2.2.2 q.1 q.2.1 q.2.2.1) (fun q=>q.2.2.1.R.length) (0,s,z,z.R.length+1) ⟨hI,Ab _,h,he,hN,Bv _,tO _ _,u⟩ sl ?_));clear u h he hN hI;rintro⟨n,s,z,f⟩ ⟨hI,hn,h,he,hN,hf,hA,u⟩;dsimp only at hI hn h he hN hf hA u;refine aF (aA (aF (aJ (fun y:Z=>mk [(0,rP),(1,.one (.clo 194 [R.vp 2 0])),(2,.one (.clo 229 [R.vp 7 0,R.vp 3 0,R.vp 5 0])),(6,I .i64 (n:Nat))] ((600,rO L y)::(2,pR)::(3,pR)::(5,dO deep)::aHr a s.1 s.2)) (fun y=>ZA L y∧y.e=0∧dC z=dC y∧y.R.length≤z.R.length) (fun y=>y.R.length) z ⟨h,he,rfl,le_refl _⟩ sl ?_)));rintro y ⟨h2,B,e2,hle2⟩

 have hm:=gH h2 B cM;obtain⟨m1,m2,m3⟩:=nK h2;have O:=h2.may cM;have he3:=(jW cM y).trans B;generalize bT cM y=m at hm m1 m2 m3 O he3;obtain⟨b,z3⟩:=m;dsimp only at m1 m2 m3 O he3;refine aA (sk 1 rfl (kc hm ?_));refine az (aB rfl (fun hb=>?_) (fun hb=>?_))
 ·have hb:b=true:=hb;have:=m3 hb;exact aD (aF (aD ⟨z3,⟨O,he3,e2.trans m1.symm,by omega⟩,m3 hb,sl⟩))
 have hb:b=false:=hb;obtain⟨g1,g2⟩:=m2 hb;subst g1;have e3:dC z=z3:=e2.trans g2;clear m1 m2 m3 O e2 hm;have hf0:∃g,f=g+1:=⟨f-1,by omega⟩
 obtain⟨f,rfl⟩:=hf0;rw[lpZ] at u;unfold b6 at u;rw[hA,e3] at u;have hs3:=rM h2;have hn3:=eQ h2;refine aH (aA (sk 1 rfl (kv (args:=[]) hs3 ?_)));refine az (aB rfl (fun hb=>?_) (fun hb=>?_))
 ·have hb:eD b5 z3=true:=hb;rw[ζ (show ¬z3.e=0∨eD b5 z3=true from .inr hb)] at u;rw[η χ] at u;rw[u,bC B];exact aE rtN
 have hb:eD b5 z3=false:=hb;have hnb:¬(¬z3.e=0∨eD b5 z3=true):=fun k=>k.elim (fun k=>k B) fun k=>by rw[hb] at k;cases k
 rw[η hnb] at u;refine aD ?_;by_cases hn60:n<60
 case neg=>
  have d:decide (((n:Nat):Int)<60)=false:=φ (by omega);rw[iE (by omega) B] at u;dsimp only at u;rw[φ cS,η χ] at u;rw[u,aL cS];have hmn:=bO 2 (b8 z3).pl;refine sk 5 rfl (kc hn3 ?_);refine ak 1 [] rfl ?_;rw[d];exact kp hmn
 have d:decide (((n:Nat):Int)<60)=true:=θ (by omega);rw[iD (by omega),θ B,ζ rfl] at u;have hmo:=bN 2 (b8 z3).pl;refine sk 5 rfl (kc hn3 ?_);refine ak 1 [] rfl ?_;rw[d];refine kc hmo ?_;refine az ?_;have ho:=hone n s z3 hI hn60 h2 B (by omega);obtain⟨E,k2,k3,_⟩:=hst n s z3 hI hn60 h2 B;generalize step s z3=y at ho E k2 k3 u;obtain⟨s4,z4⟩:=y;dsimp only at ho E k2 k3 u;by_cases A:z4.e=0
 case neg=>
  have hp:=bH.err ho A;rw[iL A] at u;rw[u,aL A];exact sk 1 rfl (kpv (args:=[]) hp)
 have ho:=bH.ok ho A;have k3:=k3 A;refine sk 1 rfl (kv (args:=[]) ho ?_);refine az (aA (agN [] rfl ?_));have hlp:=E.lp;have J:=oB E cM;have hn4:=eQ E;have U:=rM E;have hmo4:=bN 12 (b8 z4).pl;cases Y:isZ cM z4 with
 | true=>
  rw[Y] at J;have M:moreA b5 (n+1) z4=z4:=η fun k=>by rw[Y] at k;cases k.2.2.1
  refine aC mixed (ak 1 [] rfl (kc J ?_));refine ak 7 [(2,.bv true),(5,.bv true)] rfl (kc hn4 ?_);refine ak 1 [(2,.bv true),(5,.bv true)] rfl (kc hmo4 ?_);exact az ⟨(n+1,s4,z4,f),⟨k2,by omega,E,A,by dsimp only;omega,by dsimp only;omega,M,u⟩,by dsimp only;omega,sl⟩
 | false=>
  rw[Y] at J;cases aa:eD b5 z4 with
  | true=>
   rw[aa] at U;have M:moreA b5 (n+1) z4=z4:=η fun k=>by rw[aa] at k;cases k.2.2.2
   refine aC mixed (ak 1 [] rfl (kc J ?_));refine ak 2 [(2,.bv false)] rfl (kvG (args:=[]) U ?_);refine ak 4 [(2,.bv false),(5,.bv false)] rfl (kc hn4 ?_);refine ak 1 [(2,.bv false),(5,.bv false)] rfl (kc hmo4 ?_);exact az ⟨(n+1,s4,z4,f),⟨k2,by omega,E,A,by dsimp only;omega,by dsimp only;omega,M,u⟩,by dsimp only;omega,sl⟩
  | false=>
   rw[aa] at U;have hmn4:=bO 12 (b8 z4).pl;have M:moreA b5 (n+1) z4=⟨z4.R,12,(b8 z4).pl⟩:=(ζ ⟨succ_pos n,A,Y,aa⟩).trans (ζ A);have h12:¬(12:Int)=0:=by decide
   have hWb:W.2=⟨z4.R,12,(b8 z4).pl⟩:=by
    obtain⟨f,rfl⟩:∃g,f=g+1:=⟨f-1,by omega⟩
    rw[lpZ] at u;unfold b6 at u;rw[M,nP h12,ζ (show ¬(Z.mk z4.R 12 (b8 z4).pl).e=0∨_ from .inl h12),η χ] at u;rw[u]
   rw[hWb,aL h12];refine aC mixed (ak 1 [] rfl (kc J ?_));refine ak 2 [(2,.bv false)] rfl (kvG (args:=[]) U ?_);refine ak 4 [(2,.bv false),(5,.bv false)] rfl (kc hn4 ?_);refine ak 1 [(2,.bv false),(5,.bv false)] rfl (kpD (.tup []) [] hmn4 ?_);exact az trivial
theorem aQb (a:Int) (deep:Nat) {step:(List Pt×List Ex)→Z→(List Pt×List Ex)×Z}{Inv:Nat→(List Pt×List Ex)→Prop}{L:List Tk}{N:Nat}
  (J:∀n s z,Inv n s→n<60→ZA L z→z.e=0→z.R.length≤N→bH Tryz.prog 229 ([]++[R.vp 7 0,R.vp 3 0,R.vp 5 0].map V.one) ((600,rO L z)::(3,pR)::(5,dO deep)::aHr a s.1 s.2) (iP L (.tup []) (step s z).2 ((3,pR)::(5,dO deep)::aHr a (step s z).1.1 (step s z).1.2)))
  (I:∀n s z,Inv n s→n<60→ZA L z→z.e=0→ZA L (step s z).2∧Inv (n+1) (step s z).1∧((step s z).2.e=0→(step s z).2.R.length<z.R.length)∧Ze z (step s z).2)
  {z:Z} (h:ZA L z) (he:z.e=0) (hN:z.R.length≤N) {s:(List Pt×List Ex)} (M:Inv 0 s):
  bH Tryz.prog 158 [rP,.one (.clo 229 [R.vp 7 0,R.vp 3 0,R.vp 5 0])] ((600,rO L z)::(3,pR)::(5,dO deep)::aHr a s.1 s.2) (iP L (.tup []) (yQ step s z).2 ((3,pR)::(5,dO deep)::aHr a (yQ step s z).1.1 (yQ step s z).1.2)):=by
 have q:=dM h he dH;have h1:=h.need dH;have O:=Ze.need dH z;unfold yQ;generalize aQ dH z=E at q h1 O ⊢;have U:E.R.length≤z.R.length:=O;refine pI (n:=12) tok Tryz.func158 rfl rfl rfl rfl ?_;refine sg rfl ?_;by_cases u:E.e=0
 case neg=>
  have hp:=bH.err q u;rw[iL u];dsimp only;rw[bK u,aL u];exact sk 1 rfl (kp hp)
 have q:=bH.ok q u;refine sk 1 rfl (kc q ?_);refine az ?_;have y:=aVa a deep (step:=step) (Inv:=Inv) (L:=L) (N:=N) J I h1 u (by omega) M;have hok:=(xC (sh:=b5) I (E.R.length+1) 0 s E (Ab _) M h1).1
 generalize lpZ b5 step (E.R.length+1) 0 s E=W at y hok ⊢;obtain⟨s2,z2⟩:=W;dsimp only at y hok ⊢;by_cases A:z2.e=0
 case neg=>
  have hp:=bH.err y A;rw[bK A,aL A];exact sk 3 rfl (kp hp)
 have y:=bH.ok y A;refine sk 3 rfl (kc y ?_);refine az ?_;have q:=dM hok A b5;generalize aQ b5 z2=z3 at q ⊢;by_cases B:z3.e=0
 case neg=>
  have hp:=bH.err q B;rw[aL B];exact aC mixed (ak 1 [] rfl (kp hp))
 have q:=bH.ok q B;rw[bC B];refine aC mixed (ak 1 [] rfl (kc q ?_));exact az rtN
section
variable {L:List Tk}{ex:Nat→Z→Ex×Z}{N:Nat}(hB:yJ ex) (hS:aSp L ex N) (hNm:aQ3 L)
include hB hS hNm
theorem aVm (a:Int) (ps:List Pt) (ks:List Ex) (deep:Nat) {z:Z}(h:ZA L z) (he:z.e=0) (hN:z.R.length≤N) (hd:deep≤40) (h1:ps.length≤4001) (h2:ks.length≤4001):
  bH Tryz.prog 229 ([]++[R.vp 7 0,R.vp 3 0,R.vp 5 0].map V.one) ((600,rO L z)::(3,pR)::(5,dO deep)::aHr a ps ks) (iP L (.tup []) (aB8 ex deep (ps,ks) z).2 ((3,pR)::(5,dO deep)::aHr a (aB8 ex deep (ps,ks) z).1.1 (aB8 ex deep (ps,ks) z).1.2)):=by
 have M:(ps.map bL).length=ps.length:=ξ _;have O:(ks.map bR).length=ks.length:=ξ _;have Y:(ps.map bL++[(bL zPt)])[ps.length]?=some (bL zPt):=by rw[Bg (by omega),M,Cq];rfl
 have aa:(ks.map bR++[(bR zEx)])[ks.length]?=some (bR zEx):=by rw[Bg (by omega),O,Cq];rfl
 have hp:=(a19 L hNm (3*z.R.length+1)).2 _ (le_refl _) 0 z h he (le_refl _) (by omega);obtain⟨g1,_,_,g4⟩:=(gK L (3*z.R.length+1)).2.1 0 z h;unfold aB8;dsimp only;generalize iO (3*z.R.length+1) 0 z=y at hp g1 g4 ⊢;obtain⟨q,I⟩:=y;dsimp only at hp g1 g4 ⊢;have g4:I.R.length≤z.R.length:=g4;refine pI (n:=25) tok Tryz.func229 rfl rfl rfl rfl ?_;by_cases A:I.e=0
 case neg=>
  have hp:=bH.err hp A;rw[bK A,hB _ _ A,aL A];refine sk 3 rfl (kpD (.pa (bL zPt)) [(600,rO L z)] hp ?_);exact ak 7 [(5,.all),(8,.row ps.length (bL zPt))] rfl (az trivial)
 have hp:=bH.ok hp A;have u:(ps.map bL++[(bL zPt)]).set ps.length (bL q)=(ps++[q]).map bL:=by
  rw[set_append_right _ _ (by omega),M,Cq,Af];rfl
 have hle:(ps++[q]).length=ps.length+1:=by rw[ψ];rfl
 refine sk 3 rfl (kc hp ?_);refine ak 7 [(5,.all),(8,.row ps.length (bL zPt))] rfl (az ?_);generalize ps++[q]=P at u hle ⊢;refine AWp.sub (st2:=mk [(0,.one (.vp 7 0)),(1,.one (.vp 3 0)),(2,.one (.vp 5 0))] ((600,rO L I)::(3,pR)::(5,dO deep)::aHr a P ks)) (sl (hh:=⟨⟨_,rfl,.var rfl⟩,⟨_,rfl,.var rfl⟩,⟨_,rfl,.var rfl⟩,⟨_,rfl,.var (by rw[hle,←M];rfl)⟩,⟨_,rfl,Go.AM.Ole.arr⟩,⟨_,rfl,.arrS u⟩,trivial⟩)) ?_;have B:=dM g1 A arrow;have g2:=g1.need arrow;have U:(aQ arrow I).R.length≤I.R.length:=Ze.need arrow I;generalize aQ arrow I=z2 at B g2 U ⊢;by_cases E:z2.e=0
 case neg=>
  have hp:=bH.err B E;rw[hB _ _ E,aL E];exact sk 1 rfl (kp hp)
 have B:=bH.ok B E;refine sk 1 rfl (kc B ?_);refine az ?_;have hx:=hS (deep+1) z2 g2 E (by omega) (by omega);generalize ex (deep+1) z2=y at hx ⊢;obtain⟨e,z3⟩:=y;dsimp only at hx ⊢;by_cases J:z3.e=0
 case neg=>
  have hp:=bH.err hx J;rw[aL J];refine aC mixed (akN 5 [] rfl (kpD (.pa (bR zEx)) [(600,rO L z2)] hp ?_));exact ak 7 [(7,.all),(10,.row ks.length (bR zEx))] rfl (az trivial)
 have hx:=bH.ok hx J;rw[bC J];have u:(ks.map bR++[(bR zEx)]).set ks.length (bR e)=(ks++[e]).map bR:=by
  rw[set_append_right _ _ (by omega),O,Cq,Af];rfl
 have hle:(ks++[e]).length=ks.length+1:=by rw[ψ];rfl
 refine aC mixed (akN 5 [] rfl (kc hx ?_));refine ak 7 [(7,.all),(10,.row ks.length (bR zEx))] rfl (az ?_);generalize ks++[e]=K at u hle ⊢;exact rtN (ho:=⟨⟨_,rfl,.var rfl⟩,⟨_,rfl,.var rfl⟩,⟨_,rfl,.var rfl⟩,⟨_,rfl,.var (by rw[hle,←O];rfl)⟩,⟨_,rfl,.arrS u⟩,⟨_,rfl,Go.AM.Ole.arr⟩,trivial⟩)
theorem aVl (hO:ExO L ex) (a:Int) (deep:Nat) {z:Z}(h:ZA L z) (he:z.e=0) (hN:z.R.length≤N) (hd:deep≤40):bH Tryz.prog 220 [rP,I .i64 a,I .i64 (deep:Nat)] [(600,rO L z)] (iP L (.pa (bR (iH ex a deep z).1)) (iH ex a deep z).2 []):=by
 have hx:=hS (deep+1) z h he hN (by omega);obtain⟨g0,o0,_,m0⟩:=hO (deep+1) z h;unfold iH i7 dE;rw[aNc];dsimp only;generalize ex (deep+1) z=y at hx g0 o0 m0 ⊢;obtain⟨e0,z0⟩:=y;dsimp only at hx g0 o0 m0 ⊢;have m0:z0.R.length≤z.R.length:=m0;refine pI (n:=40) tok Tryz.func220 rfl rfl rfl rfl ?_;refine sg rfl ?_;by_cases q:z0.e=0
 case neg=>
  have hp:=bH.err hx q;rw[bK q,bK q,iL q];dsimp only;rw[bK q,gW q];have hb:(if([]:List Pt)=[] then z0 else z0)=z0:=ζ rfl;rw[hb,aL q];exact aA (aC mixed (akN 4 [] rfl (kp hp)))
 have hx:=bH.ok hx q;refine aA (aC mixed (akN 4 [] rfl (kc hx ?_)));refine ak 4 [(5,.id 520)] rfl (az (AWp.sub (Sub.ownCell (x:=7) (k:=5) (id:=521) 51 10 rfl rfl rfl) ?_));have E:=dM g0 q ofS;have h1:=g0.need ofS;have l1:(aQ ofS z0).R.length≤z0.R.length:=Ze.need ofS z0;generalize aQ ofS z0=M at E h1 l1 ⊢;by_cases A:M.e=0
 case neg=>
  have hp:=bH.err E A;rw[bK A,iL A];dsimp only;rw[bK A,gW A];have hb:(if([]:List Pt)=[] then M else M)=M:=ζ rfl;rw[hb,aL A];exact sk 1 rfl (kp hp)
 have E:=bH.ok E A;refine sk 1 rfl (kc E ?_);refine az ?_;have hst:∀(n:Nat) (s:List Pt×List Ex) (z:Z),(zN s.1∧rY s.2∧s.1.length=n∧s.2.length=n+1)→n<60→ZA L z→z.e=0→ZA L (aB8 ex deep s z).2∧(zN (aB8 ex deep s z).1.1∧rY (aB8 ex deep s z).1.2∧(aB8 ex deep s z).1.1.length=n+1∧(aB8 ex deep s z).1.2.length=n+1+1)∧((aB8 ex deep s z).2.e=0→(aB8 ex deep s z).2.R.length<z.R.length)∧Ze z (aB8 ex deep s z).2:=fun n s z O hn h he=>by
  obtain⟨q1,q2,q3,q4⟩:=(gK L (3*z.R.length+1)).2.1 0 z h;obtain⟨m1,m2,m3,m4⟩:=hO (deep+1) _ (q1.need arrow);have l1:(aQ arrow (iO (3*z.R.length+1) 0 z).2).R.length≤(iO (3*z.R.length+1) 0 z).2.R.length:=Ze.need _ _;have q4':(iO (3*z.R.length+1) 0 z).2.R.length≤z.R.length:=q4;unfold aB8;exact⟨m1,⟨sE O.1 q2,tY O.2.1 m2,by dsimp only;rw[ψ,O.2.2.1];rfl,by dsimp only;rw[ψ,O.2.2.2];rfl⟩,fun h0=>by have:=m3 h0;dsimp only;omega,(q4.trans (Ze.need _ _)).trans m4⟩
 have hI0:zN ([]:List Pt)∧rY [e0]∧([]:List Pt).length=0∧[e0].length=0+1:=⟨trivial,⟨o0,trivial⟩,rfl,rfl⟩
 have u:=aQb a deep (step:=aB8 ex deep) (Inv:=fun n s=>zN s.1∧rY s.2∧s.1.length=n∧s.2.length=n+1) (L:=L) (N:=N) (fun n s z O hn h he hN=>aVm hB hS hNm a s.1 s.2 deep h he hN hd (by have:=O.2.2.1;omega) (by have:=O.2.2.2;omega)) hst h1 A (by omega) (s:=([],[e0])) hI0;have hok:=xC (sh:=b5) (Inv:=fun n (s:List Pt×List Ex)=>zN s.1∧rY s.2∧s.1.length=n∧s.2.length=n+1) hst ((aQ dH M).R.length+1) 0 ([],[e0]) (aQ dH M) (Ab _) hI0 (h1.need dH);unfold yQ at u;generalize aQ dH M=z2 at u hok ⊢;generalize lpZ b5 (aB8 ex deep) (z2.R.length+1) 0 ([],[e0]) z2=W at u hok ⊢;obtain⟨⟨ps,ks⟩,J⟩:=W;dsimp only at u hok ⊢;obtain⟨gB,⟨m,hm60,hp,hk,hpl,hkl⟩,_⟩:=hok

 have hpe:(ps.map bL).length=ps.length:=ξ _;have hke:(ks.map bR).length=ks.length:=ξ _;have hne:= @aTu b5 J;generalize aQ b5 J=z3 at u hne ⊢;by_cases B:z3.e=0
 case neg=>
  have hp:=bH.err u B;rw[gW B];have hb:(if ps=[] then z3 else z3)=z3:=by split<;>rfl
  rw[hb,aL B];exact sk 2 rfl (kp hp)
 have u:=bH.ok u B;refine sk 2 rfl (kc u ?_);refine az ?_;obtain⟨e3,hk6,heB⟩:=hne B;subst e3;have Y:=aOt gB hk6;have hLl:=gB.l;have hlt:=gB.lt;have hrow:=aP aI gB.now;unfold rO at Y;unfold rO;rw[Y];have hLk:(L.map aI).length=L.length:=ξ _;by_cases U:ps=[]
 ·have hmn:=bO 12 (b8 J).pl;have d:decide ((0:Int)<((ps.length:Nat):Int))=false:=by subst U;rfl
  rw[ζ U];unfold bV;rw[ζ B,aL (show ¬(12:Int)=0 by decide)];refine aA (aC mixed (akN 15 [] rfl ?_));rw[Nat.add_sub_cancel];refine ak 3 [(15,.row (L.length-J.R.length) (aI (b8 J)))] rfl ?_;rw[d];refine kpD (.tup []) [] hmn ?_;exact az trivial
 have hmo:=bN 12 (b8 J).pl;have d:decide ((0:Int)<((ps.length:Nat):Int))=true:=θ (by have:=Cg.2 U;omega);rw[η U,bC B];unfold rO;rw[Y];refine aA (aC mixed (akN 15 [] rfl ?_));rw[Nat.add_sub_cancel];refine ak 3 [(15,.row (L.length-J.R.length) (aI (b8 J)))] rfl ?_;rw[d];refine kc hmo ?_;refine az (AWp.sub (Sub.freeze (id:=520) rfl) ?_);refine AWp.sub (Sub.freeze (id:=521) rfl) ?_;refine sg rfl ?_;unfold bR;rw[nL (aPq _ _ _)];exact aE (rtC trw (hc:=.agg (.c .refl (.c .refl (.c .refl (.c .refl (.hs rfl hke.symm (Go.AM.take_all hke.symm) (.hs rfl hpe.symm (Go.AM.take_all hpe.symm) (.c .nl (.c .nl (.c .nl (.c .nl (.c .refl (.c .refl (.c .refl (.c .nl (.c .nl .nil)))))))))))))))))
end
theorem yD {ex:Nat→Z→Ex×Z}{deep:Nat}{a:Int}{f:Nat}{e:Ex}{z:Z}(h:¬z.e=0):fZ ex deep a f e z=(e,z):=by
 cases f with
 | zero=>rfl
 | succ f=>rw[fZ,η h]
theorem aDh {a:Int}{e:Ex}{z:Z}(h:¬z.e=0):uN a (e,z)=(e,z):=by
 unfold uN;dsimp only;rw[n8 h,η χ]
section
variable {L:List Tk}{ex:Nat→Z→Ex×Z}{N:Nat}(hO:ExO L ex) (hB:yJ ex) (hS:aSp L ex N) (hZ:rN L) (hNm:aQ3 L) (hwt:wt L≤30000)
include hO hB hS hZ hNm hwt
theorem aZ6 (deep:Nat) {z:Z}(h:ZA L z) (he:z.e=0) (hN:z.R.length≤N+1) (hd:deep≤41):bH Tryz.prog 197 [rP,I .i64 (deep:Nat)] [(600,rO L z)] (iP L (.pa (bR (aAx ex deep z).1)) (aAx ex deep z).2 []):=by
 have hn:=eQ h;unfold aAx;rw[η (fun k=>k he)];refine pI (n:=77) tok Tryz.func197 rfl rfl rfl rfl ?_;refine sg rfl (sk 3 rfl (kc hn ?_));refine kz 2 rfl ?_;by_cases hd40:40<deep
 ·have d:decide (((deep:Nat):Int)≤40)=false:=φ (by omega);have hmn:=bO 13 (b8 z).pl;rw[ζ hd40];unfold bV;rw[ζ he,aL (show ¬(13:Int)=0 by decide)];refine sk 4 rfl ?_;rw[d];exact kp hmn
 have d:decide (((deep:Nat):Int)≤40)=true:=θ (by omega);have hmo:=bN 13 (b8 z).pl;rw[η hd40];refine sk 4 rfl ?_;rw[d];refine kc hmo ?_;refine az ?_;have A:=gH h he aAm;have B:=gF (s:=aAm) h;have E:=h.may aAm;have J:= @kB aAm z;have M:=(jW aAm z).trans he;have u:=fun e=>aZ2 hB hS (b8 z).pl deep E M (by have:=B e;omega) (by omega)
 generalize bT aAm z=m at A B E J M u ⊢;obtain⟨b,z1⟩:=m;dsimp only at A B E J M u ⊢;refine aA (aF (sk 1 rfl (kc A ?_)));refine kz 1 rfl ?_;cases b with
 | true=>
  rw[ζ rfl];have u:=u rfl;generalize uS ex (b8 z).pl deep z1=y at u ⊢;obtain⟨e,z2⟩:=y;dsimp only at u ⊢;refine aB rfl (fun _=>?_) (fun hb=>Bool.noConfusion hb);by_cases O:z2.e=0
  case neg=>
   have hp:=bH.err u O;rw[aL O];exact sk 4 rfl (kp hp)
  have u:=bH.ok u O;rw[bC O];refine sk 4 rfl (kc u ?_);exact kz 1 rfl (aE (rtC trw))
 | false=>
 obtain rfl:=J rfl;rw[η χ];clear A B E u J M;refine aB rfl (fun hb=>Bool.noConfusion hb) (fun _=>?_);have A:=gH h he aAj;have B:=gF (s:=aAj) h;have E:=h.may aAj;have J:= @kB aAj z1;have M:=(jW aAj z1).trans he;have u:=fun e=>aZz hB hS hZ hwt hO (b8 z1).pl deep E M (by have:=B e;omega) (by omega)
 generalize bT aAj z1=m at A B E J M u ⊢;obtain⟨b,z2⟩:=m;dsimp only at A B E J M u ⊢;refine sk 1 rfl (kc A ?_);refine kz 1 rfl ?_;cases b with
 | true=>
  rw[ζ rfl];have u:=u rfl;generalize uR ex (b8 z1).pl deep z2=y at u ⊢;obtain⟨e,z3⟩:=y;dsimp only at u ⊢;refine aB rfl (fun _=>?_) (fun hb=>Bool.noConfusion hb);by_cases O:z3.e=0
  case neg=>
   have hp:=bH.err u O;rw[aL O];exact sk 4 rfl (kp hp)
  have u:=bH.ok u O;rw[bC O];refine sk 4 rfl (kc u ?_);exact kz 1 rfl (aE (rtC trw))
 | false=>
 obtain rfl:=J rfl;rw[η χ];clear A B E u J M;refine aB rfl (fun hb=>Bool.noConfusion hb) (fun _=>?_);have A:=gH h he n3;have B:=gF (s:=n3) h;have E:=h.may n3;have J:= @kB n3 z2;have M:=(jW n3 z2).trans he;have u:=fun e=>aVl hB hS hNm hO (b8 z2).pl deep E M (by have:=B e;omega) (by omega)
 generalize bT n3 z2=m at A B E J M u ⊢;obtain⟨b,z3⟩:=m;dsimp only at A B E J M u ⊢;refine sk 1 rfl (kc A ?_);refine kz 1 rfl ?_;cases b with
 | true=>
  rw[ζ rfl];have u:=u rfl;generalize iH ex (b8 z2).pl deep z3=y at u ⊢;obtain⟨e,z4⟩:=y;dsimp only at u ⊢;refine aB rfl (fun _=>?_) (fun hb=>Bool.noConfusion hb);by_cases O:z4.e=0
  case neg=>
   have hp:=bH.err u O;rw[aL O];exact sk 4 rfl (kp hp)
  have u:=bH.ok u O;rw[bC O];refine sk 4 rfl (kc u ?_);exact kz 1 rfl (aE (rtC trw))
 | false=>
 obtain rfl:=J rfl;rw[η χ];clear A B E u J M;refine aB rfl (fun hb=>Bool.noConfusion hb) (fun _=>aD ?_);have U:=aL9 hO hS deep h he hN (by omega);obtain⟨o1,_,o3,o4⟩:=lL hO deep h;have hlz:=h.lp;generalize hT:b8 z3=t at hn ⊢;unfold gC;rw[hT];generalize iV ex deep z3=y at U o1 o3 o4 ⊢;obtain⟨⟨e0,b0⟩,z4⟩:=y;dsimp only at U o1 o3 o4 ⊢;have o4:z4.R.length≤z3.R.length:=o4;by_cases Y:z4.e=0
 case neg=>
  have hp:=bH.err U Y;rw[gW Y];have hb:(if b0=false then z4 else z4)=z4:=by split<;>rfl
  rw[hb,yD Y,aDh Y,aL Y];exact sk 2 rfl (kp hp)
 have U:=bH.ok U Y;refine sk 2 rfl (kc U ?_);refine kz 6 rfl ?_;cases b0 with
 | false=>
  have hmn:=bO 12 t.pl;have h12:¬(12:Int)=0:=by decide
  rw[ζ rfl];unfold bV;rw[ζ Y,yD (show ¬(Z.mk z4.R 12 t.pl).e=0 from h12),aDh (show ¬(Z.mk z4.R 12 t.pl).e=0 from h12),aL (show ¬(Z.mk z4.R 12 t.pl).e=0 from h12)];exact sk 3 rfl (kp hmn)
 | true=>
 have hmo:=bN 12 t.pl;have o3:=o3 rfl Y;rw[η (show ¬(true=false) from fun k=>Bool.noConfusion k)];refine sk 3 rfl (kc hmo ?_);refine az ?_;have hWx:∃W,W=fZ ex deep t.pl (z3.R.length+1) e0 z4:=⟨_,rfl⟩
 obtain⟨W,hW⟩:=hWx;rw[←hW];refine aA (aF (aJ (fun q:Ex×Z×Nat=>mk [(0,rP),(1,I .i64 (deep:Nat)),(4,.one (.vp 4 0)),(5,.one (.vp 5 0)),(6,.one (.vp 6 0))] [(600,rO L q.2.1),(4,.var 47 (aNs.map .c)),(5,.var 62 ((aI t).map .c)),(6,.var 47 ((bR q.1).map .c))]) (fun q=>ZA L q.2.1∧q.2.1.e=0∧q.2.1.R.length≤z3.R.length∧q.2.1.R.length<q.2.2∧W=fZ ex deep t.pl q.2.2 q.1 q.2.1) (fun q=>q.2.1.R.length+1) (e0,z4,z3.R.length+1) ⟨o1,Y,o4,by dsimp only;omega,hW⟩ sl ?_));clear hW U o1 o3 o4 Y;rintro⟨e,z6,f⟩ ⟨h6,he6,l6,hf,hW⟩;dsimp only at h6 he6 l6 hf hW ⊢;obtain⟨f,rfl⟩:∃g,f=g+1:=⟨f-1,by omega⟩
 rw[fZ,ζ he6] at hW;have U:=aL9 hO hS deep h6 he6 (by omega) (by omega);obtain⟨o1,_,o3,o4⟩:=lL hO deep h6;generalize iV ex deep z6=y at U o1 o3 o4 hW;obtain⟨⟨a,b⟩,z7⟩:=y;dsimp only at U o1 o3 o4 hW;have o4:z7.R.length≤z6.R.length:=o4;by_cases he7:z7.e=0
 case neg=>
  have hp:=bH.err U he7;have hw:∃e,W=(e,z7):=by
   rw[yD he7] at hW;rw[hW];split<;>exact⟨_,rfl⟩
  obtain⟨e,hw⟩:=hw;rw[hw,aDh he7,aL he7];exact aF (sk 2 rfl (kp hp))
 have U:=bH.ok U he7;refine aF (sk 2 rfl (kc U ?_));refine kz 6 rfl (aA (sg rfl ?_));cases b with
 | false=>
  rw[ζ rfl] at hW;refine aB rfl (fun _=>aH ?_) (fun hb=>Bool.noConfusion hb);subst hW;have hm:=gH o1 he7 eT;have g2:=o1.may eT;have he8:=(jW eT z7).trans he7;unfold uN;dsimp only;generalize bT eT z7=m at hm g2 he8 ⊢;obtain⟨b,z8⟩:=m;dsimp only at hm g2 he8 ⊢;refine aA (sk 1 rfl (kc hm ?_));refine az ?_;cases b with
  | true=>
   rw[ζ rfl];have hsc:=nM g2 he8 hZ hwt;generalize bM z8=y at hsc ⊢;obtain⟨s,z9⟩:=y;dsimp only at hsc ⊢;refine aB rfl (fun _=>?_) (fun hb=>Bool.noConfusion hb);by_cases he9:z9.e=0
   case neg=>
    have hp:=bH.err hsc he9;rw[aL he9];refine skh 5 [(3,.all)] rfl (kpD (.pa (kU oW)) [(600,rO L z8)] hp ?_);exact kz 2 rfl trivial
   have hsc:=bH.ok hsc he9;rw[bC he9];refine skh 5 [(3,.all)] rfl (kc hsc ?_);exact kz 2 rfl (aE (rtC trw))
  | false=>
   rw[η χ];dsimp only;rw[bC he8];exact aB rfl (fun hb=>Bool.noConfusion hb) (fun _=>aD (sg rfl (aE (rtC trw))))
 | true=>
  rw[η (show ¬(true=false) from fun k=>Bool.noConfusion k)] at hW;have o3:=o3 rfl he7;refine aB rfl (fun hb=>Bool.noConfusion hb) (fun _=>aD (ag [(4,.all)] rfl ⟨(aQw t.pl e a,z7,f),⟨o1,he7,by dsimp only;omega,by dsimp only;omega,hW⟩,by dsimp only;omega,Sub.trans ?_ (vp 6 (bR (aQw t.pl e a)))⟩));exact sl
end
theorem aUg {L:List Tk}(hwt:wt L≤30000) (hZ:rN L) (hNm:aQ3 L):∀f,aSp L (yP f) f
 | 0=>fun deep z h _ hN _=>by have:=h.lp;omega
 | f+1=>fun deep z h he hN q=>aZ6 (iG hwt f) (xQ f) (aUg hwt hZ hNm f) hZ hNm hwt deep h he hN q
def aHp (x:In) (bs:List Bd):List (Nat×AObj):=[(1,pR),(5,.var 90 [.c (.str x.cls),.c (.int .i64 x.pl),.c (.str x.con),.c (.sl 1 (x.vars.map aK)),.c (.sl 5 (x.preds.map aM)),.hs 511 0 bs.length bs.length]),(511,bdA bs 0)]
def ibS (ex:Nat→Z→Ex×Z) (s:List Bd) (z:Z):List Bd×Z:=(s++[(dP ex (aR 1 z).1 0 (aR 1 z).2).1],(dP ex (aR 1 z).1 0 (aR 1 z).2).2)
theorem tV (ex:Nat→Z→Ex×Z):∀(f n:Nat) (s:List Bd) (z:Z),cL ex f n s z=lpZ b5 (ibS ex) f n s z
 | 0,_,_,_=>rfl
 | f+1,n,s,z=>by
  rw[cL,lpZ];split
  ·exact tV ex f _ _ _
  ·rfl
theorem qA {a:Int}:∀{l:List Prd}{z:Z},¬z.e=0→eI a l z=z
 | [],z,_=>rfl
 | p::l,z,h=>by rw[eI,η (fun k=>h k.1)];exact qA h
theorem kX {b:Bool}{z:Z}(h:¬z.e=0):(instV b z).2=z:=by
 unfold instV;split
 ·rw[n7 h];exact bK h
 ·rfl
theorem q9 {ex:Nat→Z→Ex×Z}{y:List Prd×Tk×Bool×Tk×Z}{w:List Str×Z}(h:¬w.2.e=0):aQ b5 (tU ex (jY y w)).2=w.2:=by
 unfold jY tU;rw[η h,qA h,bK h,tV,iL h];exact bK h
theorem aQl {ex:Nat→Z→Ex×Z}(hB:yJ ex) {q:Tk}{deep:Nat}{z:Z}(h:¬z.e=0):(dP ex q deep z).2=z:=by
 unfold dP gR;dsimp only;rw[n7 h,eZ h,bK h];exact hB _ _ h
def aB3:Prop:=∃(L:List Tk) (z z2:Z) (t:Tk) (b:Bd),aW Tryz.prog 164 [rP,tkV t,I .i64 0] [(600,rO L z)] (.pa (aY b)) [(600,rO L z2)]
theorem aU8 (x:In) {step:(List Bd)→Z→(List Bd)×Z}{Inv:Nat→(List Bd)→Prop}{L:List Tk}{N:Nat}
  (hone:∀n s z,Inv n s→n<60→ZA L z→z.e=0→z.R.length≤N→bH Tryz.prog 163 ([]++[R.vp 5 0,R.vp 1 0].map V.one) ((600,rO L z)::aHp x s) (iP L (.tup []) (step s z).2 (aHp x (step s z).1)))
  (hst:∀n s z,Inv n s→n<60→ZA L z→z.e=0→ZA L (step s z).2∧Inv (n+1) (step s z).1∧((step s z).2.e=0→(step s z).2.R.length<z.R.length)∧Ze z (step s z).2)
  {z:Z} (h:ZA L z) (he:z.e=0) (hN:z.R.length≤N) {s:(List Bd)} (hI:Inv 0 s):
  bH Tryz.prog 113 [rP,.one (.clo 194 [R.vp 2 0]),.one (.clo 163 [R.vp 5 0,R.vp 1 0])] ((600,rO L z)::(2,pR)::aHp x s) (iP L (.tup []) (lpZ b5 step (z.R.length+1) 0 s z).2 ((2,pR)::aHp x (lpZ b5 step (z.R.length+1) 0 s z).1)):=by
 have u:∃W,W=lpZ b5 step (z.R.length+1) 0 s z:=⟨_,rfl⟩
 obtain⟨W,u⟩:=u;rw[←u];refine pI (n:=35) tok Tryz.func113 rfl rfl rfl rfl ?_;refine sg rfl (aF (aJ (fun q:Nat×(List Bd)×Z×Nat=>mk [(0,rP),(1,.one (.clo 194 [R.vp 2 0])),(2,.one (.clo 163 [R.vp 5 0,R.vp 1 0])),(6,I .i64 (q.1:Nat))] ((600,rO L q.2.2.1)::(2,pR)::aHp x q.2.1)) (fun q=>Inv q.1 q.2.1∧q.1≤60∧ZA L q.2.2.1∧q.2.2.1.e=0∧q.2.2.1.R.length≤N∧q.2.2.1.R.length<q.2.2.2∧moreA b5 q.1 q.2.2.1=q.2.2.1∧W=lpZ b5 step q.2.2.2 q.1 q.2.1 q.2.2.1) (fun q=>q.2.2.1.R.length) (0,s,z,z.R.length+1) ⟨hI,Ab _,h,he,hN,Bv _,tO _ _,u⟩ sl ?_));clear u h he hN hI;rintro⟨n,s,z,f⟩ ⟨hI,hn,h,he,hN,hf,hA,u⟩;dsimp only at hI hn h he hN hf hA u;refine aF (aA (aF (aJ (fun y:Z=>mk [(0,rP),(1,.one (.clo 194 [R.vp 2 0])),(2,.one (.clo 163 [R.vp 5 0,R.vp 1 0])),(6,I .i64 (n:Nat))] ((600,rO L y)::(2,pR)::aHp x s)) (fun y=>ZA L y∧y.e=0∧dC z=dC y∧y.R.length≤z.R.length) (fun y=>y.R.length) z ⟨h,he,rfl,le_refl _⟩ sl ?_)));rintro y ⟨h2,B,e2,hle2⟩

 have hm:=gH h2 B cM;obtain⟨m1,m2,m3⟩:=nK h2;have O:=h2.may cM;have he3:=(jW cM y).trans B;generalize bT cM y=m at hm m1 m2 m3 O he3;obtain⟨b,z3⟩:=m;dsimp only at m1 m2 m3 O he3;refine aA (sk 1 rfl (kc hm ?_));refine az (aB rfl (fun hb=>?_) (fun hb=>?_))
 ·have hb:b=true:=hb;have:=m3 hb;exact aD (aF (aD ⟨z3,⟨O,he3,e2.trans m1.symm,by omega⟩,m3 hb,sl⟩))
 have hb:b=false:=hb;obtain⟨g1,g2⟩:=m2 hb;subst g1;have e3:dC z=z3:=e2.trans g2;clear m1 m2 m3 O e2 hm;have hf0:∃g,f=g+1:=⟨f-1,by omega⟩
 obtain⟨f,rfl⟩:=hf0;rw[lpZ] at u;unfold b6 at u;rw[hA,e3] at u;have hs3:=rM h2;have hn3:=eQ h2;refine aH (aA (sk 1 rfl (kv (args:=[]) hs3 ?_)));refine az (aB rfl (fun hb=>?_) (fun hb=>?_))
 ·have hb:eD b5 z3=true:=hb;rw[ζ (show ¬z3.e=0∨eD b5 z3=true from .inr hb)] at u;rw[η χ] at u;rw[u,bC B];exact aE rtN
 have hb:eD b5 z3=false:=hb;have hnb:¬(¬z3.e=0∨eD b5 z3=true):=fun k=>k.elim (fun k=>k B) fun k=>by rw[hb] at k;cases k
 rw[η hnb] at u;refine aD ?_;by_cases hn60:n<60
 case neg=>
  have d:decide (((n:Nat):Int)<60)=false:=φ (by omega);rw[iE (by omega) B] at u;dsimp only at u;rw[φ cS,η χ] at u;rw[u,aL cS];have hmn:=bO 2 (b8 z3).pl;refine sk 5 rfl (kc hn3 ?_);refine ak 1 [] rfl ?_;rw[d];exact kp hmn
 have d:decide (((n:Nat):Int)<60)=true:=θ (by omega);rw[iD (by omega),θ B,ζ rfl] at u;have hmo:=bN 2 (b8 z3).pl;refine sk 5 rfl (kc hn3 ?_);refine ak 1 [] rfl ?_;rw[d];refine kc hmo ?_;refine az ?_;have ho:=hone n s z3 hI hn60 h2 B (by omega);obtain⟨E,k2,k3,_⟩:=hst n s z3 hI hn60 h2 B;generalize step s z3=y at ho E k2 k3 u;obtain⟨s4,z4⟩:=y;dsimp only at ho E k2 k3 u;by_cases A:z4.e=0
 case neg=>
  have hp:=bH.err ho A;rw[iL A] at u;rw[u,aL A];exact sk 1 rfl (kpv (args:=[]) hp)
 have ho:=bH.ok ho A;have k3:=k3 A;refine sk 1 rfl (kv (args:=[]) ho ?_);refine az (aA (agN [] rfl ?_));have hlp:=E.lp;have J:=oB E cM;have hn4:=eQ E;have U:=rM E;have hmo4:=bN 12 (b8 z4).pl;cases Y:isZ cM z4 with
 | true=>
  rw[Y] at J;have M:moreA b5 (n+1) z4=z4:=η fun k=>by rw[Y] at k;cases k.2.2.1
  refine aC mixed (ak 1 [] rfl (kc J ?_));refine ak 7 [(2,.bv true),(5,.bv true)] rfl (kc hn4 ?_);refine ak 1 [(2,.bv true),(5,.bv true)] rfl (kc hmo4 ?_);exact az ⟨(n+1,s4,z4,f),⟨k2,by omega,E,A,by dsimp only;omega,by dsimp only;omega,M,u⟩,by dsimp only;omega,sl⟩
 | false=>
  rw[Y] at J;cases aa:eD b5 z4 with
  | true=>
   rw[aa] at U;have M:moreA b5 (n+1) z4=z4:=η fun k=>by rw[aa] at k;cases k.2.2.2
   refine aC mixed (ak 1 [] rfl (kc J ?_));refine ak 2 [(2,.bv false)] rfl (kvG (args:=[]) U ?_);refine ak 4 [(2,.bv false),(5,.bv false)] rfl (kc hn4 ?_);refine ak 1 [(2,.bv false),(5,.bv false)] rfl (kc hmo4 ?_);exact az ⟨(n+1,s4,z4,f),⟨k2,by omega,E,A,by dsimp only;omega,by dsimp only;omega,M,u⟩,by dsimp only;omega,sl⟩
  | false=>
   rw[aa] at U;have hmn4:=bO 12 (b8 z4).pl;have M:moreA b5 (n+1) z4=⟨z4.R,12,(b8 z4).pl⟩:=(ζ ⟨succ_pos n,A,Y,aa⟩).trans (ζ A);have h12:¬(12:Int)=0:=by decide
   have hWb:W.2=⟨z4.R,12,(b8 z4).pl⟩:=by
    obtain⟨f,rfl⟩:∃g,f=g+1:=⟨f-1,by omega⟩
    rw[lpZ] at u;unfold b6 at u;rw[M,nP h12,ζ (show ¬(Z.mk z4.R 12 (b8 z4).pl).e=0∨_ from .inl h12),η χ] at u;rw[u]
   rw[hWb,aL h12];refine aC mixed (ak 1 [] rfl (kc J ?_));refine ak 2 [(2,.bv false)] rfl (kvG (args:=[]) U ?_);refine ak 4 [(2,.bv false),(5,.bv false)] rfl (kc hn4 ?_);refine ak 1 [(2,.bv false),(5,.bv false)] rfl (kpD (.tup []) [] hmn4 ?_);exact az trivial
theorem aQa (x:In) {step:(List Bd)→Z→(List Bd)×Z}{Inv:Nat→(List Bd)→Prop}{L:List Tk}{N:Nat}
  (J:∀n s z,Inv n s→n<60→ZA L z→z.e=0→z.R.length≤N→bH Tryz.prog 163 ([]++[R.vp 5 0,R.vp 1 0].map V.one) ((600,rO L z)::aHp x s) (iP L (.tup []) (step s z).2 (aHp x (step s z).1)))
  (I:∀n s z,Inv n s→n<60→ZA L z→z.e=0→ZA L (step s z).2∧Inv (n+1) (step s z).1∧((step s z).2.e=0→(step s z).2.R.length<z.R.length)∧Ze z (step s z).2)
  {z:Z} (h:ZA L z) (he:z.e=0) (hN:z.R.length≤N) {s:(List Bd)} (M:Inv 0 s):
  bH Tryz.prog 158 [rP,.one (.clo 163 [R.vp 5 0,R.vp 1 0])] ((600,rO L z)::aHp x s) (iP L (.tup []) (yQ step s z).2 (aHp x (yQ step s z).1)):=by
 have q:=dM h he dH;have h1:=h.need dH;have O:=Ze.need dH z;unfold yQ;generalize aQ dH z=E at q h1 O ⊢;have U:E.R.length≤z.R.length:=O;refine pI (n:=12) tok Tryz.func158 rfl rfl rfl rfl ?_;refine sg rfl ?_;by_cases u:E.e=0
 case neg=>
  have hp:=bH.err q u;rw[iL u];dsimp only;rw[bK u,aL u];exact sk 1 rfl (kp hp)
 have q:=bH.ok q u;refine sk 1 rfl (kc q ?_);refine az ?_;have y:=aU8 x (step:=step) (Inv:=Inv) (L:=L) (N:=N) J I h1 u (by omega) M;have hok:=(xC (sh:=b5) I (E.R.length+1) 0 s E (Ab _) M h1).1
 generalize lpZ b5 step (E.R.length+1) 0 s E=W at y hok ⊢;obtain⟨s2,z2⟩:=W;dsimp only at y hok ⊢;by_cases A:z2.e=0
 case neg=>
  have hp:=bH.err y A;rw[bK A,aL A];exact sk 3 rfl (kp hp)
 have y:=bH.ok y A;refine sk 3 rfl (kc y ?_);refine az ?_;have q:=dM hok A b5;generalize aQ b5 z2=z3 at q ⊢;by_cases B:z3.e=0
 case neg=>
  have hp:=bH.err q B;rw[aL B];exact aC mixed (ak 1 [] rfl (kp hp))
 have q:=bH.ok q B;rw[bC B];refine aC mixed (ak 1 [] rfl (kc q ?_));exact az rtN
section
variable {L:List Tk}{ex:Nat→Z→Ex×Z}{N:Nat}(hB:yJ ex) (hS:aSp L ex N) (hX:aB3)
include hB hS hX
theorem aVf (x:In) (q:List Bd) {z:Z}(h:ZA L z) (he:z.e=0) (hN:z.R.length≤N) (h2:q.length≤4001):
  bH Tryz.prog 163 ([]++[R.vp 5 0,R.vp 1 0].map V.one) ((600,rO L z)::aHp x q) (iP L (.tup []) (ibS ex q z).2 (aHp x (ibS ex q z).1)):=by
 have I:(q.map aY).length=q.length:=ξ _;have hz0:(q.map aY++[aY zBd])[q.length]?=some (aY zBd):=by rw[Bg (by omega),I,Cq];rfl
 have hw:=jN h he 1 (by decide);have g1:=h.word (k:=1) (by decide);have O:(aR 1 z).2.R.length≤z.R.length:=Ze.word 1 z;unfold ibS;generalize aR 1 z=w at hw g1 O ⊢;obtain⟨U,M⟩:=w;dsimp only at hw g1 O ⊢;refine pI (n:=13) tok Tryz.func163 rfl rfl rfl rfl ?_;by_cases A:M.e=0
 case neg=>
  have hp:=bH.err hw A;obtain⟨L',z',z2',t',b',Y⟩:=hX;rw[aQl hB A,aL A];refine aC mixed (ak 4 [] rfl (kpD (tkV t') [(600,rO L' z')] hp ?_));refine kc Y ?_;exact ak 7 [(7,.all),(10,.row q.length (aY zBd))] rfl (az trivial)
 have hw:=bH.ok hw A;have u:=y4 hB hS U 0 g1 A (by omega) (by omega);generalize dP ex U 0 M=y at u ⊢;obtain⟨J,z3⟩:=y;dsimp only at u ⊢;by_cases B:z3.e=0
 case neg=>
  have hp:=bH.err u B;rw[aL B];refine aC mixed (ak 4 [] rfl (kc hw ?_));refine kpD (.pa (aY zBd)) [(600,rO L M)] hp ?_;exact ak 7 [(7,.all),(10,.row q.length (aY zBd))] rfl (az trivial)
 have u:=bH.ok u B;rw[bC B];have E:(q.map aY++[aY zBd]).set q.length (aY J)=(q++[J]).map aY:=by
  rw[set_append_right _ _ (by omega),I,Cq,Af];rfl
 have hle:(q++[J]).length=q.length+1:=by rw[ψ];rfl
 refine aC mixed (ak 4 [] rfl (kc hw ?_));refine kc u ?_;refine ak 7 [(7,.all),(10,.row q.length (aY zBd))] rfl (az ?_);generalize hSe:q++[J]=S at E hle ⊢;exact rtN (ho:=⟨⟨_,rfl,.var rfl⟩,⟨_,rfl,.var rfl⟩,⟨_,rfl,.var (by rw[hle,←I];rfl)⟩,⟨_,rfl,.arrS E⟩,trivial⟩)
theorem aVe (hO:ExO L ex) (hZ:rN L) (hwt:wt L≤30000) {z:Z}(h:ZA L z) (he:z.e=0) (hN:z.R.length≤N):bH Tryz.prog 119 [rP] [(600,rO L z)] (iP L (.pa (dD (kG ex z).1)) (kG ex z).2 []):=by
 unfold kG;have hV:∀b y,instV b y=if b=true then((aU y).1.map (·.text),aQ nY (aU y).2) else([],y):=fun _ _=>rfl
 have hBy:∀y w,jY y w=aQ dH (eI y.2.1.pl y.1 (if w.2.e=0 then c0 w.1.length 8 y.2.1.pl w.2 else w.2)):=fun _ _=>rfl
 have hA:c9 z=((bD z).1,(aR 2 (bD z).2).1,(bT cG (aR 2 (bD z).2).2).1,(aR 2 (bT cG (aR 2 (bD z).2).2).2).1,(aR 2 (bT cG (aR 2 (bD z).2).2).2).2):=rfl;rw[hA];have hp:=aBf h he hZ;obtain⟨h1,hpl,l1⟩:=kQ h hwt;generalize bD z=y at hp h1 hpl l1 ⊢;obtain⟨ps,z1⟩:=y;dsimp only at hp h1 hpl l1 ⊢;refine pI (n:=59) tok Tryz.func119 rfl rfl rfl rfl ?_;refine sg rfl ?_;by_cases B:z1.e=0
 case neg=>
  have hp:=bH.err hp B;rw[nO B,n8 B];dsimp only;rw[nO B,q9 (by rw[kX B];exact B),kX B,aL B];exact sk 1 rfl (kp hp)
 have hp:=bH.ok hp B;refine sk 1 rfl (kc hp ?_);refine kz 1 rfl ?_;have hw:=jN h1 B 2 (by decide);have h2:=h1.word (k:=2) (by decide);have l2:=l1.trans (Ze.word 2 z1);generalize aR 2 z1=y at hw h2 l2 ⊢;obtain⟨A,z2⟩:=y;dsimp only at hw h2 l2 ⊢;by_cases E:z2.e=0
 case neg=>
  have hp:=bH.err hw E;rw[n8 E];dsimp only;rw[nO E,q9 (by rw[kX E];exact E),kX E,aL E];exact sk 1 rfl (kp hp)
 have hw:=bH.ok hw E;refine sk 1 rfl (kc hw ?_);refine kz 2 rfl (sg rfl ?_);have hm:=gH h2 E cG;have h3:=h2.may cG;have l3:=l2.trans (Ze.may cG z2);have he3:=(jW cG z2).trans E;generalize bT cG z2=y at hm h3 l3 he3 ⊢;obtain⟨br,z3⟩:=y;dsimp only at hm h3 l3 he3 ⊢;have U:=jN h3 he3 2 (by decide);have h4:=h3.word (k:=2) (by decide);have l4:=l3.trans (Ze.word 2 z3);generalize aR 2 z3=y at U h4 l4 ⊢;obtain⟨cn,z4⟩:=y;dsimp only at U h4 l4 ⊢;by_cases u:z4.e=0
 case neg=>
  have hp:=bH.err U u;rw[q9 (by rw[kX u];exact u),kX u,aL u];refine aA (sk 1 rfl (kc hm ?_));refine az ?_;cases br with
  | true=>
   exact aB rfl (fun _=>sk 1 rfl (kp hp)) (fun hb=>Bool.noConfusion hb)
  | false=>
   exact aB rfl (fun hb=>Bool.noConfusion hb) (fun _=>aC mixed (ak 1 [] rfl (kp hp)))
 have U:=bH.ok U u;obtain⟨h5,hvl,l5⟩:=xL br h4;have q:=hV br z4;generalize instV br z4=y at h5 hvl l5 q ⊢;obtain⟨vs,z5⟩:=y;dsimp only at h5 hvl l5 ⊢;by_cases J:z5.e=0
 case neg=>
  rw[q9 J];dsimp only;rw[aL J];refine aA (sk 1 rfl (kc hm ?_));refine az ?_;cases br with
  | false=>
   rw[η χ] at q;obtain⟨rfl,rfl⟩:=Prod.mk.inj q;exact absurd u J
  | true=>
   rw[ζ rfl] at q;have Y:=pP h4 u;have g1:=h4.words;have aa:=fE h4;have ab:(aU z4).2.e=0:=by unfold aU;rw[ζ u];exact u
   generalize aU z4=y at Y g1 aa q ab;obtain⟨l,z45⟩:=y;dsimp only at Y g1 aa q ab;have htx:=y2 l aa;have hnd:=dM g1 ab nY;obtain⟨rfl,rfl⟩:=Prod.mk.inj q;have hp:=bH.err hnd J;refine aB rfl (fun _=>sk 1 rfl (kc U ?_)) (fun hb=>Bool.noConfusion hb);refine kz 3 rfl (sk 1 rfl (kc Y ?_));refine kc htx ?_;exact kz 2 rfl (aC mixed (ak 1 [] rfl (kp hp)))
 have hvk:(vs.map aK).length=vs.length:=ξ _;have hpk:(ps.map aM).length=ps.length:=ξ _;refine aA (AWp.cut (mk [(1,.one (.vp 1 0)),(2,.one (.vp 2 0)),(3,.one (.c (.sl 5 (ps.map aM)))),(4,.one (.vp 4 0)),(5,.one (.vp 5 0))] [(600,rO L z5),(1,pR),(2,.var 90 (aSq.map .c)),(4,.var 62 ((aI A).map .c)),(5,.var 90 [.c (.str A.text),.c (.int .i64 A.pl),.c (.str cn.text),.c (.sl 1 (vs.map aK)),.c (.sl 5 (ps.map aM)),.c .nl])]) ?_ ?_)
 ·refine sk 1 rfl (kc hm ?_);refine az ?_;cases br with
  | true=>
   rw[ζ rfl] at q;have Y:=pP h4 u;have g1:=h4.words;have aa:=fE h4;have ab:(aU z4).2.e=0:=by unfold aU;rw[ζ u];exact u
   generalize aU z4=y at Y g1 aa q ab;obtain⟨l,z45⟩:=y;dsimp only at Y g1 aa q ab;have htx:=y2 l aa;have hnd:=dM g1 ab nY;obtain⟨rfl,rfl⟩:=Prod.mk.inj q;have hnd:=bH.ok hnd J;refine aB rfl (fun _=>sk 1 rfl (kc U ?_)) (fun hb=>Bool.noConfusion hb);refine kz 3 rfl (sk 1 rfl (kc Y ?_));refine kc htx ?_;refine kz 2 rfl (aC mixed (ak 1 [] rfl (kc hnd ?_)));exact az sl
  | false=>
   rw[η χ] at q;obtain⟨rfl,rfl⟩:=Prod.mk.inj q;refine aB rfl (fun hb=>Bool.noConfusion hb) (fun _=>aC mixed (ak 1 [] rfl (kc U ?_)));refine kz 3 rfl (Sub.trans ?_ (vp 5 [.str A.text,.int .i64 A.pl,.str cn.text,.sl 1 [],.sl 5 (ps.map aM),.nl]));exact sl
 have hBz:=hBy (ps,A,br,cn,z4) (vs,z5);dsimp only at hBz;rw[ζ J] at hBz;rw[hBz];have hC:∀y,tU ex y=lpZ b5 (ibS ex) (y.R.length+1) 0 [] y:=fun y=>tV ex _ _ _ _
 rw[hC];clear hBz hC hV hBy hA hm hw U hp q;by_cases hv8:vs.length≤8
 case neg=>
  have d:decide (((vs.length:Nat):Int)≤8)=false:=φ (by omega);have hm:=bO 2 A.pl;rw[iE hv8 J,qA cS,bK cS,iL cS];dsimp only;rw[bK cS,aL cS];refine sk 6 rfl ?_;rw[hvk,d];exact kp hm
 have d:decide (((vs.length:Nat):Int)≤8)=true:=θ (by omega);have hm:=bN 2 A.pl;rw[iD hv8];refine sk 6 rfl ?_;rw[hvk,d];refine kc hm ?_;refine az ?_;have O:∃F,F=eI A.pl ps z5:=⟨_,rfl⟩
 obtain⟨F,O⟩:=O;rw[←O];refine aA (sg rfl (aF (aJ (fun i:Nat=>mk [(1,.one (.vp 1 0)),(2,.one (.vp 2 0)),(4,.one (.vp 4 0)),(5,.one (.vp 5 0)),(41,.one (.c (.sl 5 (ps.map aM)))),(42,I .i64 ((ps.map aM).length:Nat)),(43,I .i64 (i:Nat))] [(600,rO L z5),(1,pR),(2,.var 90 (aSq.map .c)),(4,.var 62 ((aI A).map .c)),(5,.var 90 [.c (.str A.text),.c (.int .i64 A.pl),.c (.str cn.text),.c (.sl 1 (vs.map aK)),.c (.sl 5 (ps.map aM)),.c .nl])]) (fun i=>i≤ps.length∧F=eI A.pl (ps.drop i) z5) (fun i=>ps.length-i) 0 ⟨Ab _,O⟩ sl ?_)));clear O;rintro i ⟨hi,O⟩;refine sg rfl (aA (aB rfl (fun hb=>?_) (fun hb=>?_)))
 ·have hlt:=ltD hb hpk;obtain⟨p,hpi⟩:=aG hlt;have hpi':=aP aM hpi;have hds:ps.drop i=p::ps.drop (i+1):=by
   obtain⟨k1,k2⟩:=Ah.1 hpi;rw[←k2];exact Az k1
  rw[hds,eI] at O;refine aD (aA (aF (sgh [(0,.row i (aM p))] rfl ?_)));by_cases hf2:p.ty.form=2
  case neg=>
   have d:decide (p.ty.form=2)=false:=φ hf2;have hmn:=bO 12 A.pl;have h12:¬(12:Int)=0:=by decide
   rw[ζ ⟨J,hf2⟩] at O;unfold bV at O;rw[ζ J,qA h12] at O;subst O;rw[bK h12,iL h12];dsimp only;rw[bK h12,aL h12];refine aC mixed (ak 6 [] rfl ?_);rw[d];exact kp hmn
  have d:decide (p.ty.form=2)=true:=θ hf2;have hmo:=bN 12 A.pl;rw[η (fun k=>k.2 hf2)] at O;refine aC mixed (ak 6 [] rfl ?_);rw[d];refine kc hmo ?_;exact az (agN [] rfl ⟨i+1,⟨hlt,O⟩,by dsimp only;omega,sl⟩)
 have hge:=geD hb hpk hi;subst hge;rw[Ch,eI] at O;subst O;refine aH (AWp.sub (Sub.ownCell (x:=5) (k:=5) (id:=511) 109 33 rfl rfl rfl) ?_);have hst:∀(n:Nat) (s:List Bd) (z:Z),(eY s∧s.length=n)→n<60→ZA L z→z.e=0→ZA L (ibS ex s z).2∧(eY (ibS ex s z).1∧(ibS ex s z).1.length=n+1)∧((ibS ex s z).2.e=0→(ibS ex s z).2.R.length<z.R.length)∧Ze z (ibS ex s z).2:=fun n s z hI hn h he=>by
  have g1:=h.word (k:=1) (by decide);obtain⟨k1,k2,k3,k4⟩:=pX hO (aR 1 z).1 0 g1;have l1:(aR 1 z).2.R.length≤z.R.length:=Ze.word 1 z;unfold ibS;exact⟨k1,⟨pY hI.1 k2,by dsimp only;rw[ψ,hI.2];rfl⟩,fun h0=>by have:=k3 h0;dsimp only;omega,(Ze.word 1 z).trans k4⟩
 have hI0:eY ([]:List Bd)∧([]:List Bd).length=0:=⟨trivial,rfl⟩
 have l5N:F.R.length≤N:=le_trans (l4.trans l5) hN;have M:=aQa ⟨A.text,A.pl,cn.text,vs,ps,[]⟩ (step:=ibS ex) (Inv:=fun n s=>eY s∧s.length=n) (L:=L) (N:=N) (fun n s z hI hn h he hN=>aVf hB hS hX _ s h he hN (by have:=hI.2;omega)) hst h5 J l5N (s:=[]) hI0;have hok:=xC (sh:=b5) (Inv:=fun n (s:List Bd)=>eY s∧s.length=n) hst ((aQ dH F).R.length+1) 0 [] (aQ dH F) (Ab _) hI0 (h5.need dH);unfold yQ aHp at M;dsimp only at M;generalize aQ dH F=z7 at M hok ⊢;generalize lpZ b5 (ibS ex) (z7.R.length+1) 0 [] z7=W at M hok ⊢;obtain⟨bs,zB⟩:=W;dsimp only at M hok ⊢;have hbk:(bs.map aY).length=bs.length:=ξ _;generalize aQ b5 zB=z8 at M ⊢;by_cases he8:z8.e=0
 case neg=>
  have hp:=bH.err M he8;rw[aL he8];exact sk 2 rfl (kp hp)
 have M:=bH.ok M he8;rw[bC he8];refine sk 2 rfl (kc M ?_);refine az (AWp.sub (Sub.freeze (id:=511) rfl) ?_);exact sg rfl (aE (rtC trw (hc:=.agg (.c .refl (.c .refl (.c .refl (.c .refl (.c .refl (.hs rfl hbk.symm (Go.AM.take_all hbk.symm) .nil)))))))))
end
end Go.Proofs.YtkhgpgihmphfdaaGreatDoor
