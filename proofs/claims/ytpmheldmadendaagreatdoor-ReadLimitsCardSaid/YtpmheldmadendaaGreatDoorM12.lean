/-
  Texts Rd57 to Am55 in one.
-/
import Derived.Test.YtpmheldmadendaaGreatDoorM11
import Derived.RecoverIn
import Derived.WideLaws
open List (all_eq_true cons_append drop_eq_getElem_cons drop_length filter_eq_self length_append length_cons length_map length_pos_iff length_range map_append map_cons mem_map nil_append range'_succ range_eq_range' set_append_right)
open Nat (eq_of_beq_eq_true le_of_ble_eq_true le_refl le_trans lt_succ_self sub_self sub_zero succ_pos zero_add zero_le)
namespace Go.Proofs.YtpmheldmadendaaGreatDoor
open Go Go.AM
set_option maxRecDepth 20000
set_option maxHeartbeats 4000000
def aB4 (a:Int) (ps:List Pt) (ks:List Ex):List (Nat×AObj):=[(7,.var 61 [.c (.int .i64 7),.c (.int .i64 a),.c (.int .i64 0),.c (.str []),.hs 520 0 ks.length ks.length,.hs 521 0 ps.length ps.length,.c .nl,.c .nl,.c .nl,.c .nl,.c (.int .i64 0),.c (.int .i64 0),.c (.str []),.c .nl,.c .nl]),(520,.arr 61 15 (ks.map bN) 0),(521,.arr 49 10 (ps.map bG) 0)]
def wH (ex:Nat→Z→Ex×Z) (deep:Nat) (s:List Pt×List Ex) (z:Z):(List Pt×List Ex)×Z:=
 ((s.1++[(j3 (3*z.R.length+1) 0 z).1],s.2++[(ex (deep+1) (aQ arrow (j3 (3*z.R.length+1) 0 z).2)).1]),(ex (deep+1) (aQ arrow (j3 (3*z.R.length+1) 0 z).2)).2)
theorem aG3 (ex:Nat→Z→Ex×Z) (deep:Nat):∀(f n:Nat) (ps:List Pt) (ks:List Ex) (z:Z),iY ex deep f n ps ks z=lpZ b6 (wH ex deep) f n (ps,ks) z
 | 0,_,_,_,_=>rfl
 | f+1,n,ps,ks,z=>by
  rw[iY,lpZ];split
  ·exact aG3 ex deep f _ _ _ _
  ·rfl
theorem aL3 {s:Str}{z:Z}(h:(aQ s z).e=0):aQ s z=tlZ z∧¬(aX z).kind=6∧z.e=0:=by
 have he:=aS h;unfold aQ at h ⊢;rw[aL6 he] at h ⊢;by_cases hi:isZ s z=true
 ·rw[θ hi,θ rfl];exact⟨rfl,iU hi,he⟩
 ·rw[ξ hi,ξ ω] at h;exact(gF (by decide) h).elim
theorem aMx (a:Int) (deep:Nat) {step:(List Pt×List Ex)→Z→(List Pt×List Ex)×Z}{Inv:Nat→(List Pt×List Ex)→Prop}{L:List Tk}{N:Nat}
  (hone:∀n s z,Inv n s→n<60→ZA L z→z.e=0→z.R.length≤N→bB Tryz.prog 243 ([]++[R.vp 7 0,R.vp 3 0,R.vp 5 0].map V.one) ((600,rO L z)::(3,pR)::(5,dO deep)::aB4 a s.1 s.2) (fL L (.tup []) (step s z).2 ((3,pR)::(5,dO deep)::aB4 a (step s z).1.1 (step s z).1.2)))
  (hst:∀n s z,Inv n s→n<60→ZA L z→z.e=0→ZA L (step s z).2∧Inv (n+1) (step s z).1∧((step s z).2.e=0→(step s z).2.R.length<z.R.length)∧Ze z (step s z).2)
  {z:Z} (h:ZA L z) (he:z.e=0) (hN:z.R.length≤N) {s:(List Pt×List Ex)} (U:Inv 0 s):
  bB Tryz.prog 83 [rP,.one (.clo 184 [R.vp 2 0]),.one (.clo 243 [R.vp 7 0,R.vp 3 0,R.vp 5 0])] ((600,rO L z)::(2,pR)::(3,pR)::(5,dO deep)::aB4 a s.1 s.2) (fL L (.tup []) (lpZ b6 step (z.R.length+1) 0 s z).2 ((2,pR)::(3,pR)::(5,dO deep)::aB4 a (lpZ b6 step (z.R.length+1) 0 s z).1.1 (lpZ b6 step (z.R.length+1) 0 s z).1.2)):=by
 have c:∃W,W=lpZ b6 step (z.R.length+1) 0 s z:=⟨_,rfl⟩
 obtain⟨W,c⟩:=c;rw[←c];refine mG (n:=35) tok Tryz.func83 rfl rfl rfl rfl ?_;refine sg rfl (aF (aK (fun q:Nat×(List Pt×List Ex)×Z×Nat=>mk [(0,rP),(1,.one (.clo 184 [R.vp 2 0])),(2,.one (.clo 243 [R.vp 7 0,R.vp 3 0,R.vp 5 0])),(6,I .i64 (q.1:Nat))] ((600,rO L q.2.2.1)::(2,pR)::(3,pR)::(5,dO deep)::aB4 a q.2.1.1 q.2.1.2)) (fun q=>Inv q.1 q.2.1∧q.1≤60∧ZA L q.2.2.1∧q.2.2.1.e=0∧q.2.2.1.R.length≤N∧q.2.2.1.R.length<q.2.2.2∧moreA b6 q.1 q.2.2.1=q.2.2.1∧W=lpZ b6 step q.2.2.2 q.1 q.2.1 q.2.2.1) (fun q=>q.2.2.1.R.length) (0,s,z,z.R.length+1) ⟨U,Ac _,h,he,hN,Bk _,pS _ _,c⟩ sl ?_));clear c h he hN U;rintro⟨n,s,z,f⟩ ⟨U,hn,h,he,hN,hf,hA,c⟩;dsimp only at U hn h he hN hf hA c;refine aF (aA (aF (aK (fun y:Z=>mk [(0,rP),(1,.one (.clo 184 [R.vp 2 0])),(2,.one (.clo 243 [R.vp 7 0,R.vp 3 0,R.vp 5 0])),(6,I .i64 (n:Nat))] ((600,rO L y)::(2,pR)::(3,pR)::(5,dO deep)::aB4 a s.1 s.2)) (fun y=>ZA L y∧y.e=0∧cN z=cN y∧y.R.length≤z.R.length) (fun y=>y.R.length) z ⟨h,he,rfl,le_refl _⟩ sl ?_)));rintro y ⟨h2,r,e2,hle2⟩

 have hm:=eJ h2 r cB;obtain⟨m1,m2,m3⟩:=kI h2;have E:=h2.may cB;have Y:=(gR cB y).trans r;generalize bP cB y=m at hm m1 m2 m3 E Y;obtain⟨b,z3⟩:=m;dsimp only at m1 m2 m3 E Y;refine aA (sk 1 rfl (kc hm ?_));refine az (aB rfl (fun hb=>?_) (fun hb=>?_))
 ·have hb:b=true:=hb;have:=m3 hb;exact aD (aF (aD ⟨z3,⟨E,Y,e2.trans m1.symm,by omega⟩,m3 hb,sl⟩))
 have hb:b=false:=hb;obtain⟨g1,g2⟩:=m2 hb;subst g1;have e3:cN z=z3:=e2.trans g2;clear m1 m2 m3 E e2 hm;have hf0:∃g,f=g+1:=⟨f-1,by omega⟩
 obtain⟨f,rfl⟩:=hf0;rw[lpZ] at c;unfold b5 at c;rw[hA,e3] at c;have hs3:=nZ h2;have hn3:=dH h2;refine aH (aA (sk 1 rfl (kv (args:=[]) hs3 ?_)));refine az (aB rfl (fun hb=>?_) (fun hb=>?_))
 ·have hb:cY b6 z3=true:=hb;rw[θ (show ¬z3.e=0∨cY b6 z3=true from .inr hb)] at c;rw[ξ ω] at c;rw[c,b7 r];exact aE rtN
 have hb:cY b6 z3=false:=hb;have hnb:¬(¬z3.e=0∨cY b6 z3=true):=fun k=>k.elim (fun k=>k r) fun k=>by rw[hb] at k;cases k
 rw[ξ hnb] at c;refine aD ?_;by_cases aa:n<60
 case neg=>
  have d:decide (((n:Nat):Int)<60)=false:=ψ (by omega);rw[fD (by omega) r] at c;dsimp only at c;rw[ψ cC,ξ ω] at c;rw[c,aI cC];have hmn:=bJ 2 (aX z3).pl;refine sk 5 rfl (kc hn3 ?_);refine ak 1 [] rfl ?_;rw[d];exact kp hmn
 have d:decide (((n:Nat):Int)<60)=true:=φ (by omega);rw[fC (by omega),φ r,θ rfl] at c;have hmo:=bI 2 (aX z3).pl;refine sk 5 rfl (kc hn3 ?_);refine ak 1 [] rfl ?_;rw[d];refine kc hmo ?_;refine az ?_;have ho:=hone n s z3 U aa h2 r (by omega);obtain⟨u,k2,k3,_⟩:=hst n s z3 U aa h2 r;generalize step s z3=y at ho u k2 k3 c;obtain⟨s4,z4⟩:=y;dsimp only at ho u k2 k3 c;by_cases j:z4.e=0
 case neg=>
  have hp:=bB.err ho j;rw[fG j] at c;rw[c,aI j];exact sk 1 rfl (kpv (args:=[]) hp)
 have ho:=bB.ok ho j;have k3:=k3 j;refine sk 1 rfl (kv (args:=[]) ho ?_);refine az (aA (agN [] rfl ?_));have hlp:=u.lp;have A:=lH u cB;have ab:=dH u;have J:=nZ u;have ac:=bI 12 (aX z4).pl;cases M:isZ cB z4 with
 | true=>
  rw[M] at A;have B:moreA b6 (n+1) z4=z4:=ξ fun k=>by rw[M] at k;cases k.2.2.1
  refine aC mixed (ak 1 [] rfl (kc A ?_));refine ak 7 [(2,.bv true),(5,.bv true)] rfl (kc ab ?_);refine ak 1 [(2,.bv true),(5,.bv true)] rfl (kc ac ?_);exact az ⟨(n+1,s4,z4,f),⟨k2,by omega,u,j,by dsimp only;omega,by dsimp only;omega,B,c⟩,by dsimp only;omega,sl⟩
 | false=>
  rw[M] at A;cases O:cY b6 z4 with
  | true=>
   rw[O] at J;have B:moreA b6 (n+1) z4=z4:=ξ fun k=>by rw[O] at k;cases k.2.2.2
   refine aC mixed (ak 1 [] rfl (kc A ?_));refine ak 2 [(2,.bv false)] rfl (kvG (args:=[]) J ?_);refine ak 4 [(2,.bv false),(5,.bv false)] rfl (kc ab ?_);refine ak 1 [(2,.bv false),(5,.bv false)] rfl (kc ac ?_);exact az ⟨(n+1,s4,z4,f),⟨k2,by omega,u,j,by dsimp only;omega,by dsimp only;omega,B,c⟩,by dsimp only;omega,sl⟩
  | false=>
   rw[O] at J;have hmn4:=bJ 12 (aX z4).pl;have B:moreA b6 (n+1) z4=⟨z4.R,12,(aX z4).pl⟩:=(θ ⟨succ_pos n,j,M,O⟩).trans (θ j);have ad:¬(12:Int)=0:=by decide
   have hWb:W.2=⟨z4.R,12,(aX z4).pl⟩:=by
    obtain⟨f,rfl⟩:∃g,f=g+1:=⟨f-1,by omega⟩
    rw[lpZ] at c;unfold b5 at c;rw[B,kP ad,θ (show ¬(Z.mk z4.R 12 (aX z4).pl).e=0∨_ from .inl ad),ξ ω] at c;rw[c]
   rw[hWb,aI ad];refine aC mixed (ak 1 [] rfl (kc A ?_));refine ak 2 [(2,.bv false)] rfl (kvG (args:=[]) J ?_);refine ak 4 [(2,.bv false),(5,.bv false)] rfl (kc ab ?_);refine ak 1 [(2,.bv false),(5,.bv false)] rfl (kpD (.tup []) [] hmn4 ?_);exact az trivial
theorem aJl (a:Int) (deep:Nat) {step:(List Pt×List Ex)→Z→(List Pt×List Ex)×Z}{Inv:Nat→(List Pt×List Ex)→Prop}{L:List Tk}{N:Nat}
  (B:∀n s z,Inv n s→n<60→ZA L z→z.e=0→z.R.length≤N→bB Tryz.prog 243 ([]++[R.vp 7 0,R.vp 3 0,R.vp 5 0].map V.one) ((600,rO L z)::(3,pR)::(5,dO deep)::aB4 a s.1 s.2) (fL L (.tup []) (step s z).2 ((3,pR)::(5,dO deep)::aB4 a (step s z).1.1 (step s z).1.2)))
  (A:∀n s z,Inv n s→n<60→ZA L z→z.e=0→ZA L (step s z).2∧Inv (n+1) (step s z).1∧((step s z).2.e=0→(step s z).2.R.length<z.R.length)∧Ze z (step s z).2)
  {z:Z} (h:ZA L z) (he:z.e=0) (M:z.R.length≤N) {s:(List Pt×List Ex)} (E:Inv 0 s):
  bB Tryz.prog 142 [rP,.one (.clo 243 [R.vp 7 0,R.vp 3 0,R.vp 5 0])] ((600,rO L z)::(3,pR)::(5,dO deep)::aB4 a s.1 s.2) (fL L (.tup []) (tJ step s z).2 ((3,pR)::(5,dO deep)::aB4 a (tJ step s z).1.1 (tJ step s z).1.2)):=by
 have c:=cQ h he dG;have h1:=h.need dG;have I:=Ze.need dG z;unfold tJ;generalize aQ dG z=y at c h1 I ⊢;have J:y.R.length≤z.R.length:=I;refine mG (n:=12) tok Tryz.func142 rfl rfl rfl rfl ?_;refine sg rfl ?_;by_cases j:y.e=0
 case neg=>
  have hp:=bB.err c j;rw[fG j];dsimp only;rw[bD j,aI j];exact sk 1 rfl (kp hp)
 have c:=bB.ok c j;refine sk 1 rfl (kc c ?_);refine az ?_;have q:=aMx a deep (step:=step) (Inv:=Inv) (L:=L) (N:=N) B A h1 j (by omega) E;have hok:=(sB (sh:=b6) A (y.R.length+1) 0 s y (Ac _) E h1).1
 generalize lpZ b6 step (y.R.length+1) 0 s y=W at q hok ⊢;obtain⟨s2,z2⟩:=W;dsimp only at q hok ⊢;by_cases r:z2.e=0
 case neg=>
  have hp:=bB.err q r;rw[bD r,aI r];exact sk 3 rfl (kp hp)
 have q:=bB.ok q r;refine sk 3 rfl (kc q ?_);refine az ?_;have c:=cQ hok r b6;generalize aQ b6 z2=z3 at c ⊢;by_cases u:z3.e=0
 case neg=>
  have hp:=bB.err c u;rw[aI u];exact aC mixed (ak 1 [] rfl (kp hp))
 have c:=bB.ok c u;rw[b7 u];refine aC mixed (ak 1 [] rfl (kc c ?_));exact az rtN
section
variable {L:List Tk}{ex:Nat→Z→Ex×Z}{N:Nat}(hB:tD ex) (hS:aLc L ex N) (hNm:aKc L)
include hB hS hNm
theorem aM7 (a:Int) (ps:List Pt) (ks:List Ex) (deep:Nat) {z:Z}(h:ZA L z) (he:z.e=0) (U:z.R.length≤N) (Y:deep≤40) (h1:ps.length≤4001) (h2:ks.length≤4001):
  bB Tryz.prog 243 ([]++[R.vp 7 0,R.vp 3 0,R.vp 5 0].map V.one) ((600,rO L z)::(3,pR)::(5,dO deep)::aB4 a ps ks) (fL L (.tup []) (wH ex deep (ps,ks) z).2 ((3,pR)::(5,dO deep)::aB4 a (wH ex deep (ps,ks) z).1.1 (wH ex deep (ps,ks) z).1.2)):=by
 have E:(ps.map bG).length=ps.length:=η _;have I:(ks.map bN).length=ks.length:=η _;have M:(ps.map bG++[(bG zPt)])[ps.length]?=some (bG zPt):=by rw[A6 (by omega),E,Cb];rfl
 have O:(ks.map bN++[(bN zEx)])[ks.length]?=some (bN zEx):=by rw[A6 (by omega),I,Cb];rfl
 have hp:=(aSh L hNm (3*z.R.length+1)).2 _ (le_refl _) 0 z h he (le_refl _) (by omega);obtain⟨g1,_,_,g4⟩:=(iP L (3*z.R.length+1)).2.1 0 z h;unfold wH;dsimp only;generalize j3 (3*z.R.length+1) 0 z=y at hp g1 g4 ⊢;obtain⟨q,A⟩:=y;dsimp only at hp g1 g4 ⊢;have g4:A.R.length≤z.R.length:=g4;refine mG (n:=25) tok Tryz.func243 rfl rfl rfl rfl ?_;by_cases j:A.e=0
 case neg=>
  have hp:=bB.err hp j;rw[bD j,hB _ _ j,aI j];refine sk 3 rfl (kpD (.pa (bG zPt)) [(600,rO L z)] hp ?_);exact ak 7 [(5,.all),(8,.row ps.length (bG zPt))] rfl (az trivial)
 have hp:=bB.ok hp j;have c:(ps.map bG++[(bG zPt)]).set ps.length (bG q)=(ps++[q]).map bG:=by
  rw[set_append_right _ _ (by omega),E,Cb,Ai];rfl
 have hle:(ps++[q]).length=ps.length+1:=by rw[ζ];rfl
 refine sk 3 rfl (kc hp ?_);refine ak 7 [(5,.all),(8,.row ps.length (bG zPt))] rfl (az ?_);generalize ps++[q]=P at c hle ⊢;refine AWp.sub (st2:=mk [(0,.one (.vp 7 0)),(1,.one (.vp 3 0)),(2,.one (.vp 5 0))] ((600,rO L A)::(3,pR)::(5,dO deep)::aB4 a P ks)) (sl (hh:=⟨⟨_,rfl,.var rfl⟩,⟨_,rfl,.var rfl⟩,⟨_,rfl,.var rfl⟩,⟨_,rfl,.var (by rw[hle,←E];rfl)⟩,⟨_,rfl,Go.AM.Ole.arr⟩,⟨_,rfl,.arrS c⟩,trivial⟩)) ?_;have r:=cQ g1 j arrow;have g2:=g1.need arrow;have J:(aQ arrow A).R.length≤A.R.length:=Ze.need arrow A;generalize aQ arrow A=z2 at r g2 J ⊢;by_cases u:z2.e=0
 case neg=>
  have hp:=bB.err r u;rw[hB _ _ u,aI u];exact sk 1 rfl (kp hp)
 have r:=bB.ok r u;refine sk 1 rfl (kc r ?_);refine az ?_;have hx:=hS (deep+1) z2 g2 u (by omega) (by omega);generalize ex (deep+1) z2=y at hx ⊢;obtain⟨e,z3⟩:=y;dsimp only at hx ⊢;by_cases B:z3.e=0
 case neg=>
  have hp:=bB.err hx B;rw[aI B];refine aC mixed (akN 5 [] rfl (kpD (.pa (bN zEx)) [(600,rO L z2)] hp ?_));exact ak 7 [(7,.all),(10,.row ks.length (bN zEx))] rfl (az trivial)
 have hx:=bB.ok hx B;rw[b7 B];have c:(ks.map bN++[(bN zEx)]).set ks.length (bN e)=(ks++[e]).map bN:=by
  rw[set_append_right _ _ (by omega),I,Cb,Ai];rfl
 have hle:(ks++[e]).length=ks.length+1:=by rw[ζ];rfl
 refine aC mixed (akN 5 [] rfl (kc hx ?_));refine ak 7 [(7,.all),(10,.row ks.length (bN zEx))] rfl (az ?_);generalize ks++[e]=K at c hle ⊢;exact rtN (ho:=⟨⟨_,rfl,.var rfl⟩,⟨_,rfl,.var rfl⟩,⟨_,rfl,.var rfl⟩,⟨_,rfl,.var (by rw[hle,←I];rfl)⟩,⟨_,rfl,.arrS c⟩,⟨_,rfl,Go.AM.Ole.arr⟩,trivial⟩)
theorem aM6 (hO:ExO L ex) (a:Int) (deep:Nat) {z:Z}(h:ZA L z) (he:z.e=0) (hN:z.R.length≤N) (hd:deep≤40):bB Tryz.prog 225 [rP,I .i64 a,I .i64 (deep:Nat)] [(600,rO L z)] (fL L (.pa (bN (jX ex a deep z).1)) (jX ex a deep z).2 []):=by
 have hx:=hS (deep+1) z h he hN (by omega);obtain⟨g0,o0,_,m0⟩:=hO (deep+1) z h;unfold jX jA gJ;rw[aG3];dsimp only;generalize ex (deep+1) z=y at hx g0 o0 m0 ⊢;obtain⟨e0,z0⟩:=y;dsimp only at hx g0 o0 m0 ⊢;have m0:z0.R.length≤z.R.length:=m0;refine mG (n:=40) tok Tryz.func225 rfl rfl rfl rfl ?_;refine sg rfl ?_;by_cases j:z0.e=0
 case neg=>
  have hp:=bB.err hx j;rw[bD j,bD j,fG j];dsimp only;rw[bD j,eV j];have hb:(if([]:List Pt)=[] then z0 else z0)=z0:=θ rfl;rw[hb,aI j];exact aA (aC mixed (akN 4 [] rfl (kp hp)))
 have hx:=bB.ok hx j;refine aA (aC mixed (akN 4 [] rfl (kc hx ?_)));refine ak 4 [(5,.id 520)] rfl (az (AWp.sub (Sub.ownCell (x:=7) (k:=5) (id:=521) 49 10 rfl rfl rfl) ?_));have A:=cQ g0 j ofS;have h1:=g0.need ofS;have l1:(aQ ofS z0).R.length≤z0.R.length:=Ze.need ofS z0;generalize aQ ofS z0=E at A h1 l1 ⊢;by_cases r:E.e=0
 case neg=>
  have hp:=bB.err A r;rw[bD r,fG r];dsimp only;rw[bD r,eV r];have hb:(if([]:List Pt)=[] then E else E)=E:=θ rfl;rw[hb,aI r];exact sk 1 rfl (kp hp)
 have A:=bB.ok A r;refine sk 1 rfl (kc A ?_);refine az ?_;have Y:∀(n:Nat) (s:List Pt×List Ex) (z:Z),(u6 s.1∧oC s.2∧s.1.length=n∧s.2.length=n+1)→n<60→ZA L z→z.e=0→ZA L (wH ex deep s z).2∧(u6 (wH ex deep s z).1.1∧oC (wH ex deep s z).1.2∧(wH ex deep s z).1.1.length=n+1∧(wH ex deep s z).1.2.length=n+1+1)∧((wH ex deep s z).2.e=0→(wH ex deep s z).2.R.length<z.R.length)∧Ze z (wH ex deep s z).2:=fun n s z J hn h he=>by
  obtain⟨q1,q2,q3,q4⟩:=(iP L (3*z.R.length+1)).2.1 0 z h;obtain⟨m1,m2,m3,m4⟩:=hO (deep+1) _ (q1.need arrow);have l1:(aQ arrow (j3 (3*z.R.length+1) 0 z).2).R.length≤(j3 (3*z.R.length+1) 0 z).2.R.length:=Ze.need _ _;have q4':(j3 (3*z.R.length+1) 0 z).2.R.length≤z.R.length:=q4;unfold wH;exact⟨m1,⟨oJ J.1 q2,qC J.2.1 m2,by dsimp only;rw[ζ,J.2.2.1];rfl,by dsimp only;rw[ζ,J.2.2.2];rfl⟩,fun h0=>by have:=m3 h0;dsimp only;omega,(q4.trans (Ze.need _ _)).trans m4⟩
 have aa:u6 ([]:List Pt)∧oC [e0]∧([]:List Pt).length=0∧[e0].length=0+1:=⟨trivial,⟨o0,trivial⟩,rfl,rfl⟩
 have q:=aJl a deep (step:=wH ex deep) (Inv:=fun n s=>u6 s.1∧oC s.2∧s.1.length=n∧s.2.length=n+1) (L:=L) (N:=N) (fun n s z J hn h he hN=>aM7 hB hS hNm a s.1 s.2 deep h he hN hd (by have:=J.2.2.1;omega) (by have:=J.2.2.2;omega)) Y h1 r (by omega) (s:=([],[e0])) aa;have hok:=sB (sh:=b6) (Inv:=fun n (s:List Pt×List Ex)=>u6 s.1∧oC s.2∧s.1.length=n∧s.2.length=n+1) Y ((aQ dG E).R.length+1) 0 ([],[e0]) (aQ dG E) (Ac _) aa (h1.need dG);unfold tJ at q;generalize aQ dG E=z2 at q hok ⊢;generalize lpZ b6 (wH ex deep) (z2.R.length+1) 0 ([],[e0]) z2=W at q hok ⊢;obtain⟨⟨ps,ks⟩,B⟩:=W;dsimp only at q hok ⊢;obtain⟨U,⟨m,hm60,hp,hk,hpl,hkl⟩,_⟩:=hok

 have ab:(ps.map bG).length=ps.length:=η _;have ac:(ks.map bN).length=ks.length:=η _;have ad:= @aL3 b6 B;generalize aQ b6 B=z3 at q ad ⊢;by_cases u:z3.e=0
 case neg=>
  have hp:=bB.err q u;rw[eV u];have hb:(if ps=[] then z3 else z3)=z3:=by split<;>rfl
  rw[hb,aI u];exact sk 2 rfl (kp hp)
 have q:=bB.ok q u;refine sk 2 rfl (kc q ?_);refine az ?_;obtain⟨e3,hk6,heB⟩:=ad u;subst e3;have O:=aIe U hk6;have hLl:=U.l;have hlt:=U.lt;have hrow:=aY aG U.now;unfold rO at O;unfold rO;rw[O];have hLk:(L.map aG).length=L.length:=η _;by_cases M:ps=[]
 ·have hmn:=bJ 12 (aX B).pl;have d:decide ((0:Int)<((ps.length:Nat):Int))=false:=by subst M;rfl
  rw[θ M];unfold bS;rw[θ u,aI (show ¬(12:Int)=0 by decide)];refine aA (aC mixed (akN 15 [] rfl ?_));rw[Nat.add_sub_cancel];refine ak 3 [(15,.row (L.length-B.R.length) (aG (aX B)))] rfl ?_;rw[d];refine kpD (.tup []) [] hmn ?_;exact az trivial
 have hmo:=bI 12 (aX B).pl;have d:decide ((0:Int)<((ps.length:Nat):Int))=true:=φ (by have:=Cp.2 M;omega);rw[ξ M,b7 u];unfold rO;rw[O];refine aA (aC mixed (akN 15 [] rfl ?_));rw[Nat.add_sub_cancel];refine ak 3 [(15,.row (L.length-B.R.length) (aG (aX B)))] rfl ?_;rw[d];refine kc hmo ?_;refine az (AWp.sub (Sub.freeze (id:=520) rfl) ?_);refine AWp.sub (Sub.freeze (id:=521) rfl) ?_;refine sg rfl ?_;unfold bN;rw[kK (aMo _ _ _)];exact aE (rtC trw (hc:=.agg (.c .refl (.c .refl (.c .refl (.c .refl (.hs rfl ac.symm (Go.AM.take_all ac.symm) (.hs rfl ab.symm (Go.AM.take_all ab.symm) (.c .nl (.c .nl (.c .nl (.c .nl (.c .refl (.c .refl (.c .refl (.c .nl (.c .nl .nil)))))))))))))))))
end
theorem sV {ex:Nat→Z→Ex×Z}{deep:Nat}{a:Int}{f:Nat}{e:Ex}{z:Z}(h:¬z.e=0):iH ex deep a f e z=(e,z):=by
 cases f with
 | zero=>rfl
 | succ f=>rw[iH,ξ h]
theorem xU {a:Int}{e:Ex}{z:Z}(h:¬z.e=0):y2 a (e,z)=(e,z):=by
 unfold y2;dsimp only;rw[kB h,ξ ω]
section
variable {L:List Tk}{ex:Nat→Z→Ex×Z}{N:Nat}(hO:ExO L ex) (hB:tD ex) (hS:aLc L ex N) (hZ:o5 L) (hNm:aKc L) (hwt:wt L≤30000)
include hO hB hS hZ hNm hwt
theorem aQl (deep:Nat) {z:Z}(h:ZA L z) (he:z.e=0) (hN:z.R.length≤N+1) (hd:deep≤41):bB Tryz.prog 187 [rP,I .i64 (deep:Nat)] [(600,rO L z)] (fL L (.pa (bN (aB8 ex deep z).1)) (aB8 ex deep z).2 []):=by
 have hn:=dH h;unfold aB8;rw[ξ (fun k=>k he)];refine mG (n:=77) tok Tryz.func187 rfl rfl rfl rfl ?_;refine sg rfl (sk 3 rfl (kc hn ?_));refine kz 2 rfl ?_;by_cases hd40:40<deep
 ·have d:decide (((deep:Nat):Int)≤40)=false:=ψ (by omega);have hmn:=bJ 13 (aX z).pl;rw[θ hd40];unfold bS;rw[θ he,aI (show ¬(13:Int)=0 by decide)];refine sk 4 rfl ?_;rw[d];exact kp hmn
 have d:decide (((deep:Nat):Int)≤40)=true:=φ (by omega);have hmo:=bI 13 (aX z).pl;rw[ξ hd40];refine sk 4 rfl ?_;rw[d];refine kc hmo ?_;refine az ?_;have r:=eJ h he wZ;have u:=eG (s:=wZ) h;have A:=h.may wZ;have B:= @gU wZ z;have E:=(gR wZ z).trans he;have j:=fun e=>aQh hB hS (aX z).pl deep A E (by have:=u e;omega) (by omega)
 generalize bP wZ z=m at r u A B E j ⊢;obtain⟨b,z1⟩:=m;dsimp only at r u A B E j ⊢;refine aA (aF (sk 1 rfl (kc r ?_)));refine kz 1 rfl ?_;cases b with
 | true=>
  rw[θ rfl];have j:=j rfl;generalize zH ex (aX z).pl deep z1=y at j ⊢;obtain⟨e,z2⟩:=y;dsimp only at j ⊢;refine aB rfl (fun _=>?_) (fun hb=>Bool.noConfusion hb);by_cases J:z2.e=0
  case neg=>
   have hp:=bB.err j J;rw[aI J];exact sk 4 rfl (kp hp)
  have j:=bB.ok j J;rw[b7 J];refine sk 4 rfl (kc j ?_);exact kz 1 rfl (aE (rtC trw))
 | false=>
 obtain rfl:=B rfl;rw[ξ ω];clear r u A j B E;refine aB rfl (fun hb=>Bool.noConfusion hb) (fun _=>?_);have r:=eJ h he wY;have u:=eG (s:=wY) h;have A:=h.may wY;have B:= @gU wY z1;have E:=(gR wY z1).trans he;have j:=fun e=>aQe hB hS hZ hwt hO (aX z1).pl deep A E (by have:=u e;omega) (by omega)
 generalize bP wY z1=m at r u A B E j ⊢;obtain⟨b,z2⟩:=m;dsimp only at r u A B E j ⊢;refine sk 1 rfl (kc r ?_);refine kz 1 rfl ?_;cases b with
 | true=>
  rw[θ rfl];have j:=j rfl;generalize zG ex (aX z1).pl deep z2=y at j ⊢;obtain⟨e,z3⟩:=y;dsimp only at j ⊢;refine aB rfl (fun _=>?_) (fun hb=>Bool.noConfusion hb);by_cases J:z3.e=0
  case neg=>
   have hp:=bB.err j J;rw[aI J];exact sk 4 rfl (kp hp)
  have j:=bB.ok j J;rw[b7 J];refine sk 4 rfl (kc j ?_);exact kz 1 rfl (aE (rtC trw))
 | false=>
 obtain rfl:=B rfl;rw[ξ ω];clear r u A j B E;refine aB rfl (fun hb=>Bool.noConfusion hb) (fun _=>?_);have r:=eJ h he lS;have u:=eG (s:=lS) h;have A:=h.may lS;have B:= @gU lS z2;have E:=(gR lS z2).trans he;have j:=fun e=>aM6 hB hS hNm hO (aX z2).pl deep A E (by have:=u e;omega) (by omega)
 generalize bP lS z2=m at r u A B E j ⊢;obtain⟨b,z3⟩:=m;dsimp only at r u A B E j ⊢;refine sk 1 rfl (kc r ?_);refine kz 1 rfl ?_;cases b with
 | true=>
  rw[θ rfl];have j:=j rfl;generalize jX ex (aX z2).pl deep z3=y at j ⊢;obtain⟨e,z4⟩:=y;dsimp only at j ⊢;refine aB rfl (fun _=>?_) (fun hb=>Bool.noConfusion hb);by_cases J:z4.e=0
  case neg=>
   have hp:=bB.err j J;rw[aI J];exact sk 4 rfl (kp hp)
  have j:=bB.ok j J;rw[b7 J];refine sk 4 rfl (kc j ?_);exact kz 1 rfl (aE (rtC trw))
 | false=>
 obtain rfl:=B rfl;rw[ξ ω];clear r u A j B E;refine aB rfl (fun hb=>Bool.noConfusion hb) (fun _=>aD ?_);have M:=aF2 hO hS deep h he hN (by omega);obtain⟨o1,_,o3,o4⟩:=lN hO deep h;have hlz:=h.lp;generalize hT:aX z3=t at hn ⊢;unfold lC;rw[hT];generalize lO ex deep z3=y at M o1 o3 o4 ⊢;obtain⟨⟨e0,b0⟩,z4⟩:=y;dsimp only at M o1 o3 o4 ⊢;have o4:z4.R.length≤z3.R.length:=o4;by_cases O:z4.e=0
 case neg=>
  have hp:=bB.err M O;rw[eV O];have hb:(if b0=false then z4 else z4)=z4:=by split<;>rfl
  rw[hb,sV O,xU O,aI O];exact sk 2 rfl (kp hp)
 have M:=bB.ok M O;refine sk 2 rfl (kc M ?_);refine kz 6 rfl ?_;cases b0 with
 | false=>
  have hmn:=bJ 12 t.pl;have h12:¬(12:Int)=0:=by decide
  rw[θ rfl];unfold bS;rw[θ O,sV (show ¬(Z.mk z4.R 12 t.pl).e=0 from h12),xU (show ¬(Z.mk z4.R 12 t.pl).e=0 from h12),aI (show ¬(Z.mk z4.R 12 t.pl).e=0 from h12)];exact sk 3 rfl (kp hmn)
 | true=>
 have hmo:=bI 12 t.pl;have o3:=o3 rfl O;rw[ξ (show ¬(true=false) from fun k=>Bool.noConfusion k)];refine sk 3 rfl (kc hmo ?_);refine az ?_;have hWx:∃W,W=iH ex deep t.pl (z3.R.length+1) e0 z4:=⟨_,rfl⟩
 obtain⟨W,U⟩:=hWx;rw[←U];refine aA (aF (aK (fun q:Ex×Z×Nat=>mk [(0,rP),(1,I .i64 (deep:Nat)),(4,.one (.vp 4 0)),(5,.one (.vp 5 0)),(6,.one (.vp 6 0))] [(600,rO L q.2.1),(4,.var 61 (aHj.map .c)),(5,.var 139 ((aG t).map .c)),(6,.var 61 ((bN q.1).map .c))]) (fun q=>ZA L q.2.1∧q.2.1.e=0∧q.2.1.R.length≤z3.R.length∧q.2.1.R.length<q.2.2∧W=iH ex deep t.pl q.2.2 q.1 q.2.1) (fun q=>q.2.1.R.length+1) (e0,z4,z3.R.length+1) ⟨o1,O,o4,by dsimp only;omega,U⟩ sl ?_));clear U M o1 o3 o4 O;rintro⟨e,z6,f⟩ ⟨h6,he6,l6,hf,U⟩;dsimp only at h6 he6 l6 hf U ⊢;obtain⟨f,rfl⟩:∃g,f=g+1:=⟨f-1,by omega⟩
 rw[iH,θ he6] at U;have M:=aF2 hO hS deep h6 he6 (by omega) (by omega);obtain⟨o1,_,o3,o4⟩:=lN hO deep h6;generalize lO ex deep z6=y at M o1 o3 o4 U;obtain⟨⟨a,b⟩,z7⟩:=y;dsimp only at M o1 o3 o4 U;have o4:z7.R.length≤z6.R.length:=o4;by_cases Y:z7.e=0
 case neg=>
  have hp:=bB.err M Y;have hw:∃e,W=(e,z7):=by
   rw[sV Y] at U;rw[U];split<;>exact⟨_,rfl⟩
  obtain⟨e,hw⟩:=hw;rw[hw,xU Y,aI Y];exact aF (sk 2 rfl (kp hp))
 have M:=bB.ok M Y;refine aF (sk 2 rfl (kc M ?_));refine kz 6 rfl (aA (sg rfl ?_));cases b with
 | false=>
  rw[θ rfl] at U;refine aB rfl (fun _=>aH ?_) (fun hb=>Bool.noConfusion hb);subst U;have hm:=eJ o1 Y eU;have g2:=o1.may eU;have he8:=(gR eU z7).trans Y;unfold y2;dsimp only;generalize bP eU z7=m at hm g2 he8 ⊢;obtain⟨b,z8⟩:=m;dsimp only at hm g2 he8 ⊢;refine aA (sk 1 rfl (kc hm ?_));refine az ?_;cases b with
  | true=>
   rw[θ rfl];have hsc:=kM g2 he8 hZ hwt;generalize bO z8=y at hsc ⊢;obtain⟨s,z9⟩:=y;dsimp only at hsc ⊢;refine aB rfl (fun _=>?_) (fun hb=>Bool.noConfusion hb);by_cases he9:z9.e=0
   case neg=>
    have hp:=bB.err hsc he9;rw[aI he9];refine skh 5 [(3,.all)] rfl (kpD (.pa (eH nQ)) [(600,rO L z8)] hp ?_);exact kz 2 rfl trivial
   have hsc:=bB.ok hsc he9;rw[b7 he9];refine skh 5 [(3,.all)] rfl (kc hsc ?_);exact kz 2 rfl (aE (rtC trw))
  | false=>
   rw[ξ ω];dsimp only;rw[b7 he8];exact aB rfl (fun hb=>Bool.noConfusion hb) (fun _=>aD (sg rfl (aE (rtC trw))))
 | true=>
  rw[ξ (show ¬(true=false) from fun k=>Bool.noConfusion k)] at U;have o3:=o3 rfl Y;refine aB rfl (fun hb=>Bool.noConfusion hb) (fun _=>aD (ag [(4,.all)] rfl ⟨(aOe t.pl e a,z7,f),⟨o1,Y,by dsimp only;omega,by dsimp only;omega,U⟩,by dsimp only;omega,Sub.trans ?_ (vp 6 (bN (aOe t.pl e a)))⟩));exact sl
end
theorem aMh {L:List Tk}(hwt:wt L≤30000) (hZ:o5 L) (hNm:aKc L):∀f,aLc L (aHf f) f
 | 0=>fun deep z h _ c _=>by have:=h.lp;omega
 | f+1=>fun deep z h he c j=>aQl (jR hwt f) (sK f) (aMh hwt hZ hNm f) hZ hNm hwt deep h he c j
def aB2 (x:In) (bs:List Bd):List (Nat×AObj):=[(1,pR),(5,.var 95 [.c (.str x.cls),.c (.int .i64 x.pl),.c (.str x.con),.c (.sl 1 (x.vars.map bE)),.c (.sl 5 (x.preds.map aM)),.hs 511 0 bs.length bs.length]),(511,bdA bs 0)]
def ibS (ex:Nat→Z→Ex×Z) (s:List Bd) (z:Z):List Bd×Z:=(s++[(dL ex (aR 1 z).1 0 (aR 1 z).2).1],(dL ex (aR 1 z).1 0 (aR 1 z).2).2)
theorem pZ (ex:Nat→Z→Ex×Z):∀(f n:Nat) (s:List Bd) (z:Z),dD ex f n s z=lpZ b6 (ibS ex) f n s z
 | 0,_,_,_=>rfl
 | f+1,n,s,z=>by
  rw[dD,lpZ];split
  ·exact pZ ex f _ _ _
  ·rfl
theorem mW {a:Int}:∀{l:List Prd}{z:Z},¬z.e=0→eC a l z=z
 | [],z,_=>rfl
 | p::l,z,h=>by rw[eC,ξ (fun k=>h k.1)];exact mW h
theorem iG {b:Bool}{z:Z}(h:¬z.e=0):(instV b z).2=z:=by
 unfold instV;split
 ·rw[kA h];exact bD h
 ·rfl
theorem mV {ex:Nat→Z→Ex×Z}{y:List Prd×Tk×Bool×Tk×Z}{w:List Str×Z}(h:¬w.2.e=0):aQ b6 (x7 ex (pY y w)).2=w.2:=by
 unfold pY x7;rw[ξ h,mW h,bD h,pZ,fG h];exact bD h
theorem aJy {ex:Nat→Z→Ex×Z}(hB:tD ex) {c:Tk}{deep:Nat}{z:Z}(h:¬z.e=0):(dL ex c deep z).2=z:=by
 unfold dL k9;dsimp only;rw[kA h,dM h,bD h];exact hB _ _ h
def wC:Prop:=∃(L:List Tk) (z z2:Z) (t:Tk) (b:Bd),b8 Tryz.prog 148 [rP,tkV t,I .i64 0] [(600,rO L z)] (.pa (aW b)) [(600,rO L z2)]
theorem aMv (x:In) {step:(List Bd)→Z→(List Bd)×Z}{Inv:Nat→(List Bd)→Prop}{L:List Tk}{N:Nat}
  (hone:∀n s z,Inv n s→n<60→ZA L z→z.e=0→z.R.length≤N→bB Tryz.prog 147 ([]++[R.vp 5 0,R.vp 1 0].map V.one) ((600,rO L z)::aB2 x s) (fL L (.tup []) (step s z).2 (aB2 x (step s z).1)))
  (hst:∀n s z,Inv n s→n<60→ZA L z→z.e=0→ZA L (step s z).2∧Inv (n+1) (step s z).1∧((step s z).2.e=0→(step s z).2.R.length<z.R.length)∧Ze z (step s z).2)
  {z:Z} (h:ZA L z) (he:z.e=0) (hN:z.R.length≤N) {s:(List Bd)} (U:Inv 0 s):
  bB Tryz.prog 83 [rP,.one (.clo 184 [R.vp 2 0]),.one (.clo 147 [R.vp 5 0,R.vp 1 0])] ((600,rO L z)::(2,pR)::aB2 x s) (fL L (.tup []) (lpZ b6 step (z.R.length+1) 0 s z).2 ((2,pR)::aB2 x (lpZ b6 step (z.R.length+1) 0 s z).1)):=by
 have c:∃W,W=lpZ b6 step (z.R.length+1) 0 s z:=⟨_,rfl⟩
 obtain⟨W,c⟩:=c;rw[←c];refine mG (n:=35) tok Tryz.func83 rfl rfl rfl rfl ?_;refine sg rfl (aF (aK (fun q:Nat×(List Bd)×Z×Nat=>mk [(0,rP),(1,.one (.clo 184 [R.vp 2 0])),(2,.one (.clo 147 [R.vp 5 0,R.vp 1 0])),(6,I .i64 (q.1:Nat))] ((600,rO L q.2.2.1)::(2,pR)::aB2 x q.2.1)) (fun q=>Inv q.1 q.2.1∧q.1≤60∧ZA L q.2.2.1∧q.2.2.1.e=0∧q.2.2.1.R.length≤N∧q.2.2.1.R.length<q.2.2.2∧moreA b6 q.1 q.2.2.1=q.2.2.1∧W=lpZ b6 step q.2.2.2 q.1 q.2.1 q.2.2.1) (fun q=>q.2.2.1.R.length) (0,s,z,z.R.length+1) ⟨U,Ac _,h,he,hN,Bk _,pS _ _,c⟩ sl ?_));clear c h he hN U;rintro⟨n,s,z,f⟩ ⟨U,hn,h,he,hN,hf,hA,c⟩;dsimp only at U hn h he hN hf hA c;refine aF (aA (aF (aK (fun y:Z=>mk [(0,rP),(1,.one (.clo 184 [R.vp 2 0])),(2,.one (.clo 147 [R.vp 5 0,R.vp 1 0])),(6,I .i64 (n:Nat))] ((600,rO L y)::(2,pR)::aB2 x s)) (fun y=>ZA L y∧y.e=0∧cN z=cN y∧y.R.length≤z.R.length) (fun y=>y.R.length) z ⟨h,he,rfl,le_refl _⟩ sl ?_)));rintro y ⟨h2,r,e2,hle2⟩

 have hm:=eJ h2 r cB;obtain⟨m1,m2,m3⟩:=kI h2;have E:=h2.may cB;have Y:=(gR cB y).trans r;generalize bP cB y=m at hm m1 m2 m3 E Y;obtain⟨b,z3⟩:=m;dsimp only at m1 m2 m3 E Y;refine aA (sk 1 rfl (kc hm ?_));refine az (aB rfl (fun hb=>?_) (fun hb=>?_))
 ·have hb:b=true:=hb;have:=m3 hb;exact aD (aF (aD ⟨z3,⟨E,Y,e2.trans m1.symm,by omega⟩,m3 hb,sl⟩))
 have hb:b=false:=hb;obtain⟨g1,g2⟩:=m2 hb;subst g1;have e3:cN z=z3:=e2.trans g2;clear m1 m2 m3 E e2 hm;have hf0:∃g,f=g+1:=⟨f-1,by omega⟩
 obtain⟨f,rfl⟩:=hf0;rw[lpZ] at c;unfold b5 at c;rw[hA,e3] at c;have hs3:=nZ h2;have hn3:=dH h2;refine aH (aA (sk 1 rfl (kv (args:=[]) hs3 ?_)));refine az (aB rfl (fun hb=>?_) (fun hb=>?_))
 ·have hb:cY b6 z3=true:=hb;rw[θ (show ¬z3.e=0∨cY b6 z3=true from .inr hb)] at c;rw[ξ ω] at c;rw[c,b7 r];exact aE rtN
 have hb:cY b6 z3=false:=hb;have hnb:¬(¬z3.e=0∨cY b6 z3=true):=fun k=>k.elim (fun k=>k r) fun k=>by rw[hb] at k;cases k
 rw[ξ hnb] at c;refine aD ?_;by_cases aa:n<60
 case neg=>
  have d:decide (((n:Nat):Int)<60)=false:=ψ (by omega);rw[fD (by omega) r] at c;dsimp only at c;rw[ψ cC,ξ ω] at c;rw[c,aI cC];have hmn:=bJ 2 (aX z3).pl;refine sk 5 rfl (kc hn3 ?_);refine ak 1 [] rfl ?_;rw[d];exact kp hmn
 have d:decide (((n:Nat):Int)<60)=true:=φ (by omega);rw[fC (by omega),φ r,θ rfl] at c;have hmo:=bI 2 (aX z3).pl;refine sk 5 rfl (kc hn3 ?_);refine ak 1 [] rfl ?_;rw[d];refine kc hmo ?_;refine az ?_;have ho:=hone n s z3 U aa h2 r (by omega);obtain⟨u,k2,k3,_⟩:=hst n s z3 U aa h2 r;generalize step s z3=y at ho u k2 k3 c;obtain⟨s4,z4⟩:=y;dsimp only at ho u k2 k3 c;by_cases j:z4.e=0
 case neg=>
  have hp:=bB.err ho j;rw[fG j] at c;rw[c,aI j];exact sk 1 rfl (kpv (args:=[]) hp)
 have ho:=bB.ok ho j;have k3:=k3 j;refine sk 1 rfl (kv (args:=[]) ho ?_);refine az (aA (agN [] rfl ?_));have hlp:=u.lp;have A:=lH u cB;have ab:=dH u;have J:=nZ u;have ac:=bI 12 (aX z4).pl;cases M:isZ cB z4 with
 | true=>
  rw[M] at A;have B:moreA b6 (n+1) z4=z4:=ξ fun k=>by rw[M] at k;cases k.2.2.1
  refine aC mixed (ak 1 [] rfl (kc A ?_));refine ak 7 [(2,.bv true),(5,.bv true)] rfl (kc ab ?_);refine ak 1 [(2,.bv true),(5,.bv true)] rfl (kc ac ?_);exact az ⟨(n+1,s4,z4,f),⟨k2,by omega,u,j,by dsimp only;omega,by dsimp only;omega,B,c⟩,by dsimp only;omega,sl⟩
 | false=>
  rw[M] at A;cases O:cY b6 z4 with
  | true=>
   rw[O] at J;have B:moreA b6 (n+1) z4=z4:=ξ fun k=>by rw[O] at k;cases k.2.2.2
   refine aC mixed (ak 1 [] rfl (kc A ?_));refine ak 2 [(2,.bv false)] rfl (kvG (args:=[]) J ?_);refine ak 4 [(2,.bv false),(5,.bv false)] rfl (kc ab ?_);refine ak 1 [(2,.bv false),(5,.bv false)] rfl (kc ac ?_);exact az ⟨(n+1,s4,z4,f),⟨k2,by omega,u,j,by dsimp only;omega,by dsimp only;omega,B,c⟩,by dsimp only;omega,sl⟩
  | false=>
   rw[O] at J;have hmn4:=bJ 12 (aX z4).pl;have B:moreA b6 (n+1) z4=⟨z4.R,12,(aX z4).pl⟩:=(θ ⟨succ_pos n,j,M,O⟩).trans (θ j);have ad:¬(12:Int)=0:=by decide
   have hWb:W.2=⟨z4.R,12,(aX z4).pl⟩:=by
    obtain⟨f,rfl⟩:∃g,f=g+1:=⟨f-1,by omega⟩
    rw[lpZ] at c;unfold b5 at c;rw[B,kP ad,θ (show ¬(Z.mk z4.R 12 (aX z4).pl).e=0∨_ from .inl ad),ξ ω] at c;rw[c]
   rw[hWb,aI ad];refine aC mixed (ak 1 [] rfl (kc A ?_));refine ak 2 [(2,.bv false)] rfl (kvG (args:=[]) J ?_);refine ak 4 [(2,.bv false),(5,.bv false)] rfl (kc ab ?_);refine ak 1 [(2,.bv false),(5,.bv false)] rfl (kpD (.tup []) [] hmn4 ?_);exact az trivial
theorem aJk (x:In) {step:(List Bd)→Z→(List Bd)×Z}{Inv:Nat→(List Bd)→Prop}{L:List Tk}{N:Nat}
  (B:∀n s z,Inv n s→n<60→ZA L z→z.e=0→z.R.length≤N→bB Tryz.prog 147 ([]++[R.vp 5 0,R.vp 1 0].map V.one) ((600,rO L z)::aB2 x s) (fL L (.tup []) (step s z).2 (aB2 x (step s z).1)))
  (A:∀n s z,Inv n s→n<60→ZA L z→z.e=0→ZA L (step s z).2∧Inv (n+1) (step s z).1∧((step s z).2.e=0→(step s z).2.R.length<z.R.length)∧Ze z (step s z).2)
  {z:Z} (h:ZA L z) (he:z.e=0) (M:z.R.length≤N) {s:(List Bd)} (E:Inv 0 s):
  bB Tryz.prog 142 [rP,.one (.clo 147 [R.vp 5 0,R.vp 1 0])] ((600,rO L z)::aB2 x s) (fL L (.tup []) (tJ step s z).2 (aB2 x (tJ step s z).1)):=by
 have c:=cQ h he dG;have h1:=h.need dG;have I:=Ze.need dG z;unfold tJ;generalize aQ dG z=y at c h1 I ⊢;have J:y.R.length≤z.R.length:=I;refine mG (n:=12) tok Tryz.func142 rfl rfl rfl rfl ?_;refine sg rfl ?_;by_cases j:y.e=0
 case neg=>
  have hp:=bB.err c j;rw[fG j];dsimp only;rw[bD j,aI j];exact sk 1 rfl (kp hp)
 have c:=bB.ok c j;refine sk 1 rfl (kc c ?_);refine az ?_;have q:=aMv x (step:=step) (Inv:=Inv) (L:=L) (N:=N) B A h1 j (by omega) E;have hok:=(sB (sh:=b6) A (y.R.length+1) 0 s y (Ac _) E h1).1
 generalize lpZ b6 step (y.R.length+1) 0 s y=W at q hok ⊢;obtain⟨s2,z2⟩:=W;dsimp only at q hok ⊢;by_cases r:z2.e=0
 case neg=>
  have hp:=bB.err q r;rw[bD r,aI r];exact sk 3 rfl (kp hp)
 have q:=bB.ok q r;refine sk 3 rfl (kc q ?_);refine az ?_;have c:=cQ hok r b6;generalize aQ b6 z2=z3 at c ⊢;by_cases u:z3.e=0
 case neg=>
  have hp:=bB.err c u;rw[aI u];exact aC mixed (ak 1 [] rfl (kp hp))
 have c:=bB.ok c u;rw[b7 u];refine aC mixed (ak 1 [] rfl (kc c ?_));exact az rtN
section
variable {L:List Tk}{ex:Nat→Z→Ex×Z}{N:Nat}(hB:tD ex) (hS:aLc L ex N) (hX:wC)
include hB hS hX
theorem aM1 (x:In) (c:List Bd) {z:Z}(h:ZA L z) (he:z.e=0) (hN:z.R.length≤N) (h2:c.length≤4001):
  bB Tryz.prog 147 ([]++[R.vp 5 0,R.vp 1 0].map V.one) ((600,rO L z)::aB2 x c) (fL L (.tup []) (ibS ex c z).2 (aB2 x (ibS ex c z).1)):=by
 have A:(c.map aW).length=c.length:=η _;have Y:(c.map aW++[aW zBd])[c.length]?=some (aW zBd):=by rw[A6 (by omega),A,Cb];rfl
 have hw:=gK h he 1 (by decide);have g1:=h.word (k:=1) (by decide);have I:(aR 1 z).2.R.length≤z.R.length:=Ze.word 1 z;unfold ibS;generalize aR 1 z=w at hw g1 I ⊢;obtain⟨J,E⟩:=w;dsimp only at hw g1 I ⊢;refine mG (n:=13) tok Tryz.func147 rfl rfl rfl rfl ?_;by_cases q:E.e=0
 case neg=>
  have hp:=bB.err hw q;obtain⟨L',O,aa,U,b',M⟩:=hX;rw[aJy hB q,aI q];refine aC mixed (ak 4 [] rfl (kpD (tkV U) [(600,rO L' O)] hp ?_));refine kc M ?_;exact ak 7 [(7,.all),(10,.row c.length (aW zBd))] rfl (az trivial)
 have hw:=bB.ok hw q;have j:=sS hB hS J 0 g1 q (by omega) (by omega);generalize dL ex J 0 E=y at j ⊢;obtain⟨B,z3⟩:=y;dsimp only at j ⊢;by_cases r:z3.e=0
 case neg=>
  have hp:=bB.err j r;rw[aI r];refine aC mixed (ak 4 [] rfl (kc hw ?_));refine kpD (.pa (aW zBd)) [(600,rO L E)] hp ?_;exact ak 7 [(7,.all),(10,.row c.length (aW zBd))] rfl (az trivial)
 have j:=bB.ok j r;rw[b7 r];have u:(c.map aW++[aW zBd]).set c.length (aW B)=(c++[B]).map aW:=by
  rw[set_append_right _ _ (by omega),A,Cb,Ai];rfl
 have hle:(c++[B]).length=c.length+1:=by rw[ζ];rfl
 refine aC mixed (ak 4 [] rfl (kc hw ?_));refine kc j ?_;refine ak 7 [(7,.all),(10,.row c.length (aW zBd))] rfl (az ?_);generalize ab:c++[B]=S at u hle ⊢;exact rtN (ho:=⟨⟨_,rfl,.var rfl⟩,⟨_,rfl,.var rfl⟩,⟨_,rfl,.var (by rw[hle,←A];rfl)⟩,⟨_,rfl,.arrS u⟩,trivial⟩)
theorem aM0 (hO:ExO L ex) (hZ:o5 L) (hwt:wt L≤30000) {z:Z}(h:ZA L z) (he:z.e=0) (hN:z.R.length≤N):bB Tryz.prog 89 [rP] [(600,rO L z)] (fL L (.pa (iD (lQ ex z).1)) (lQ ex z).2 []):=by
 unfold lQ;have hV:∀b y,instV b y=if b=true then((aV y).1.map (·.text),aQ nE (aV y).2) else([],y):=fun _ _=>rfl
 have hBy:∀y w,pY y w=aQ dG (eC y.2.1.pl y.1 (if w.2.e=0 then c7 w.1.length 8 y.2.1.pl w.2 else w.2)):=fun _ _=>rfl
 have hA:gD z=((bK z).1,(aR 2 (bK z).2).1,(bP c8 (aR 2 (bK z).2).2).1,(aR 2 (bP c8 (aR 2 (bK z).2).2).2).1,(aR 2 (bP c8 (aR 2 (bK z).2).2).2).2):=rfl;rw[hA];have hp:=vG h he hZ;obtain⟨h1,hpl,l1⟩:=iC h hwt;generalize bK z=y at hp h1 hpl l1 ⊢;obtain⟨ps,z1⟩:=y;dsimp only at hp h1 hpl l1 ⊢;refine mG (n:=59) tok Tryz.func89 rfl rfl rfl rfl ?_;refine sg rfl ?_;by_cases u:z1.e=0
 case neg=>
  have hp:=bB.err hp u;rw[kO u,kB u];dsimp only;rw[kO u,mV (by rw[iG u];exact u),iG u,aI u];exact sk 1 rfl (kp hp)
 have hp:=bB.ok hp u;refine sk 1 rfl (kc hp ?_);refine kz 1 rfl ?_;have hw:=gK h1 u 2 (by decide);have h2:=h1.word (k:=2) (by decide);have l2:=l1.trans (Ze.word 2 z1);generalize aR 2 z1=y at hw h2 l2 ⊢;obtain⟨r,z2⟩:=y;dsimp only at hw h2 l2 ⊢;by_cases A:z2.e=0
 case neg=>
  have hp:=bB.err hw A;rw[kB A];dsimp only;rw[kO A,mV (by rw[iG A];exact A),iG A,aI A];exact sk 1 rfl (kp hp)
 have hw:=bB.ok hw A;refine sk 1 rfl (kc hw ?_);refine kz 2 rfl (sg rfl ?_);have hm:=eJ h2 A c8;have h3:=h2.may c8;have l3:=l2.trans (Ze.may c8 z2);have he3:=(gR c8 z2).trans A;generalize bP c8 z2=y at hm h3 l3 he3 ⊢;obtain⟨br,z3⟩:=y;dsimp only at hm h3 l3 he3 ⊢;have M:=gK h3 he3 2 (by decide);have h4:=h3.word (k:=2) (by decide);have l4:=l3.trans (Ze.word 2 z3);generalize aR 2 z3=y at M h4 l4 ⊢;obtain⟨cn,z4⟩:=y;dsimp only at M h4 l4 ⊢;by_cases q:z4.e=0
 case neg=>
  have hp:=bB.err M q;rw[mV (by rw[iG q];exact q),iG q,aI q];refine aA (sk 1 rfl (kc hm ?_));refine az ?_;cases br with
  | true=>
   exact aB rfl (fun _=>sk 1 rfl (kp hp)) (fun hb=>Bool.noConfusion hb)
  | false=>
   exact aB rfl (fun hb=>Bool.noConfusion hb) (fun _=>aC mixed (ak 1 [] rfl (kp hp)))
 have M:=bB.ok M q;obtain⟨h5,hvl,l5⟩:=sG br h4;have j:=hV br z4;generalize instV br z4=y at h5 hvl l5 j ⊢;obtain⟨vs,z5⟩:=y;dsimp only at h5 hvl l5 ⊢;by_cases B:z5.e=0
 case neg=>
  rw[mV B];dsimp only;rw[aI B];refine aA (sk 1 rfl (kc hm ?_));refine az ?_;cases br with
  | false=>
   rw[ξ ω] at j;obtain⟨rfl,rfl⟩:=Prod.mk.inj j;exact absurd q B
  | true=>
   rw[θ rfl] at j;have O:=mN h4 q;have g1:=h4.words;have U:=dT h4;have Y:(aV z4).2.e=0:=by unfold aV;rw[θ q];exact q
   generalize aV z4=y at O g1 U j Y;obtain⟨l,z45⟩:=y;dsimp only at O g1 U j Y;have htx:=sQ l U;have hnd:=cQ g1 Y nE;obtain⟨rfl,rfl⟩:=Prod.mk.inj j;have hp:=bB.err hnd B;refine aB rfl (fun _=>sk 1 rfl (kc M ?_)) (fun hb=>Bool.noConfusion hb);refine kz 3 rfl (sk 1 rfl (kc O ?_));refine kc htx ?_;exact kz 2 rfl (aC mixed (ak 1 [] rfl (kp hp)))
 have hvk:(vs.map bE).length=vs.length:=η _;have hpk:(ps.map aM).length=ps.length:=η _;refine aA (AWp.cut (mk [(1,.one (.vp 1 0)),(2,.one (.vp 2 0)),(3,.one (.c (.sl 5 (ps.map aM)))),(4,.one (.vp 4 0)),(5,.one (.vp 5 0))] [(600,rO L z5),(1,pR),(2,.var 95 (aLd.map .c)),(4,.var 139 ((aG r).map .c)),(5,.var 95 [.c (.str r.text),.c (.int .i64 r.pl),.c (.str cn.text),.c (.sl 1 (vs.map bE)),.c (.sl 5 (ps.map aM)),.c .nl])]) ?_ ?_)
 ·refine sk 1 rfl (kc hm ?_);refine az ?_;cases br with
  | true=>
   rw[θ rfl] at j;have O:=mN h4 q;have g1:=h4.words;have U:=dT h4;have Y:(aV z4).2.e=0:=by unfold aV;rw[θ q];exact q
   generalize aV z4=y at O g1 U j Y;obtain⟨l,z45⟩:=y;dsimp only at O g1 U j Y;have htx:=sQ l U;have hnd:=cQ g1 Y nE;obtain⟨rfl,rfl⟩:=Prod.mk.inj j;have hnd:=bB.ok hnd B;refine aB rfl (fun _=>sk 1 rfl (kc M ?_)) (fun hb=>Bool.noConfusion hb);refine kz 3 rfl (sk 1 rfl (kc O ?_));refine kc htx ?_;refine kz 2 rfl (aC mixed (ak 1 [] rfl (kc hnd ?_)));exact az sl
  | false=>
   rw[ξ ω] at j;obtain⟨rfl,rfl⟩:=Prod.mk.inj j;refine aB rfl (fun hb=>Bool.noConfusion hb) (fun _=>aC mixed (ak 1 [] rfl (kc M ?_)));refine kz 3 rfl (Sub.trans ?_ (vp 5 [.str r.text,.int .i64 r.pl,.str cn.text,.sl 1 [],.sl 5 (ps.map aM),.nl]));exact sl
 have hBz:=hBy (ps,r,br,cn,z4) (vs,z5);dsimp only at hBz;rw[θ B] at hBz;rw[hBz];have hC:∀y,x7 ex y=lpZ b6 (ibS ex) (y.R.length+1) 0 [] y:=fun y=>pZ ex _ _ _ _
 rw[hC];clear hBz hC hV hBy hA hm hw M hp j;by_cases hv8:vs.length≤8
 case neg=>
  have d:decide (((vs.length:Nat):Int)≤8)=false:=ψ (by omega);have hm:=bJ 2 r.pl;rw[fD hv8 B,mW cC,bD cC,fG cC];dsimp only;rw[bD cC,aI cC];refine sk 6 rfl ?_;rw[hvk,d];exact kp hm
 have d:decide (((vs.length:Nat):Int)≤8)=true:=φ (by omega);have hm:=bI 2 r.pl;rw[fC hv8];refine sk 6 rfl ?_;rw[hvk,d];refine kc hm ?_;refine az ?_;have J:∃F,F=eC r.pl ps z5:=⟨_,rfl⟩
 obtain⟨F,J⟩:=J;rw[←J];refine aA (sg rfl (aF (aK (fun i:Nat=>mk [(1,.one (.vp 1 0)),(2,.one (.vp 2 0)),(4,.one (.vp 4 0)),(5,.one (.vp 5 0)),(41,.one (.c (.sl 5 (ps.map aM)))),(42,I .i64 ((ps.map aM).length:Nat)),(43,I .i64 (i:Nat))] [(600,rO L z5),(1,pR),(2,.var 95 (aLd.map .c)),(4,.var 139 ((aG r).map .c)),(5,.var 95 [.c (.str r.text),.c (.int .i64 r.pl),.c (.str cn.text),.c (.sl 1 (vs.map bE)),.c (.sl 5 (ps.map aM)),.c .nl])]) (fun i=>i≤ps.length∧F=eC r.pl (ps.drop i) z5) (fun i=>ps.length-i) 0 ⟨Ac _,J⟩ sl ?_)));clear J;rintro i ⟨hi,J⟩;refine sg rfl (aA (aB rfl (fun hb=>?_) (fun hb=>?_)))
 ·have hlt:=ltD hb hpk;obtain⟨p,hpi⟩:=aN hlt;have hpi':=aY aM hpi;have hds:ps.drop i=p::ps.drop (i+1):=by
   obtain⟨k1,k2⟩:=Af.1 hpi;rw[←k2];exact Aw k1
  rw[hds,eC] at J;refine aD (aA (aF (sgh [(0,.row i (aM p))] rfl ?_)));by_cases hf2:p.ty.form=2
  case neg=>
   have d:decide (p.ty.form=2)=false:=ψ hf2;have hmn:=bJ 12 r.pl;have h12:¬(12:Int)=0:=by decide
   rw[θ ⟨B,hf2⟩] at J;unfold bS at J;rw[θ B,mW h12] at J;subst J;rw[bD h12,fG h12];dsimp only;rw[bD h12,aI h12];refine aC mixed (ak 6 [] rfl ?_);rw[d];exact kp hmn
  have d:decide (p.ty.form=2)=true:=φ hf2;have hmo:=bI 12 r.pl;rw[ξ (fun k=>k.2 hf2)] at J;refine aC mixed (ak 6 [] rfl ?_);rw[d];refine kc hmo ?_;exact az (agN [] rfl ⟨i+1,⟨hlt,J⟩,by dsimp only;omega,sl⟩)
 have hge:=geD hb hpk hi;subst hge;rw[Ci,eC] at J;subst J;refine aH (AWp.sub (Sub.ownCell (x:=5) (k:=5) (id:=511) 99 33 rfl rfl rfl) ?_);have hst:∀(n:Nat) (s:List Bd) (z:Z),(dZ s∧s.length=n)→n<60→ZA L z→z.e=0→ZA L (ibS ex s z).2∧(dZ (ibS ex s z).1∧(ibS ex s z).1.length=n+1)∧((ibS ex s z).2.e=0→(ibS ex s z).2.R.length<z.R.length)∧Ze z (ibS ex s z).2:=fun n s z hI hn h he=>by
  have g1:=h.word (k:=1) (by decide);obtain⟨k1,k2,k3,k4⟩:=oR hO (aR 1 z).1 0 g1;have l1:(aR 1 z).2.R.length≤z.R.length:=Ze.word 1 z;unfold ibS;exact⟨k1,⟨mT hI.1 k2,by dsimp only;rw[ζ,hI.2];rfl⟩,fun h0=>by have:=k3 h0;dsimp only;omega,(Ze.word 1 z).trans k4⟩
 have hI0:dZ ([]:List Bd)∧([]:List Bd).length=0:=⟨trivial,rfl⟩
 have l5N:F.R.length≤N:=le_trans (l4.trans l5) hN;have E:=aJk ⟨r.text,r.pl,cn.text,vs,ps,[]⟩ (step:=ibS ex) (Inv:=fun n s=>dZ s∧s.length=n) (L:=L) (N:=N) (fun n s z hI hn h he hN=>aM1 hB hS hX _ s h he hN (by have:=hI.2;omega)) hst h5 B l5N (s:=[]) hI0;have hok:=sB (sh:=b6) (Inv:=fun n (s:List Bd)=>dZ s∧s.length=n) hst ((aQ dG F).R.length+1) 0 [] (aQ dG F) (Ac _) hI0 (h5.need dG);unfold tJ aB2 at E;dsimp only at E;generalize aQ dG F=z7 at E hok ⊢;generalize lpZ b6 (ibS ex) (z7.R.length+1) 0 [] z7=W at E hok ⊢;obtain⟨bs,zB⟩:=W;dsimp only at E hok ⊢;have hbk:(bs.map aW).length=bs.length:=η _;generalize aQ b6 zB=z8 at E ⊢;by_cases he8:z8.e=0
 case neg=>
  have hp:=bB.err E he8;rw[aI he8];exact sk 2 rfl (kp hp)
 have E:=bB.ok E he8;rw[b7 he8];refine sk 2 rfl (kc E ?_);refine az (AWp.sub (Sub.freeze (id:=511) rfl) ?_);exact sg rfl (aE (rtC trw (hc:=.agg (.c .refl (.c .refl (.c .refl (.c .refl (.c .refl (.hs rfl hbk.symm (Go.AM.take_all hbk.symm) .nil)))))))))
end
def qQ (ex:Nat→Z→Ex×Z) (s:Pg×List Sg) (z:Z):(Pg×List Sg)×Z:=eE ex s.1 s.2 z
theorem aEd (ex:Nat→Z→Ex×Z):∀(f n:Nat) (p:Pg) (sigs:List Sg) (z:Z),iB ex f n p sigs z=lpZ [] (qQ ex) f n (p,sigs) z
 | 0,_,_,_,_=>rfl
 | f+1,n,p,sigs,z=>by
  rw[iB,lpZ];split
  ·exact aEd ex f _ _ _ _
  ·rfl
theorem aKw {L:List Tk}{z:Z}(h:ZA L z):b8 Tryz.prog 84 ([]++[R.vp 1 0].map V.one) [(600,rO L z),(1,pR)] (B (cY [] z)) [(600,rO L z),(1,pR)]:=by
 have hn:=dH h;have e:cY [] z=decide ((aX z).kind=6):=θ rfl;rw[e];refine bM (n:=8) tok Tryz.func84 rfl rfl rfl ?_;refine sg rfl (sk 3 rfl (kc hn ?_));exact kz 3 rfl (aE rtT)
def aNu (L:List Tk) (N:Nat):Prop:=∀z,ZA L z→z.e=0→z.R.length≤N→bB Tryz.prog 88 [rP] [(600,rO L z)] (fL L (.pa (fN (eY z).1)) (eY z).2 [])
theorem aMw {step:(Pg×List Sg)→Z→(Pg×List Sg)×Z}{Inv:Nat→(Pg×List Sg)→Prop}{L:List Tk}{N:Nat}
  (hone:∀n s z,Inv n s→n<60→ZA L z→z.e=0→z.R.length≤N→bB Tryz.prog 85 ([]++[R.vp 1 0,R.vp 3 0,R.vp 4 0].map V.one) ((600,rO L z)::(1,pR)::aE3 s.1 s.2) (fL L (.tup []) (step s z).2 ((1,pR)::aE3 (step s z).1.1 (step s z).1.2)))
  (hst:∀n s z,Inv n s→n<60→ZA L z→z.e=0→ZA L (step s z).2∧Inv (n+1) (step s z).1∧((step s z).2.e=0→(step s z).2.R.length<z.R.length)∧Ze z (step s z).2)
  {z:Z} (h:ZA L z) (he:z.e=0) (hN:z.R.length≤N) {s:(Pg×List Sg)} (U:Inv 0 s):
  bB Tryz.prog 83 [rP,.one (.clo 84 [R.vp 1 0]),.one (.clo 85 [R.vp 1 0,R.vp 3 0,R.vp 4 0])] ((600,rO L z)::(1,pR)::aE3 s.1 s.2) (fL L (.tup []) (lpZ [] step (z.R.length+1) 0 s z).2 ((1,pR)::aE3 (lpZ [] step (z.R.length+1) 0 s z).1.1 (lpZ [] step (z.R.length+1) 0 s z).1.2)):=by
 have c:∃W,W=lpZ [] step (z.R.length+1) 0 s z:=⟨_,rfl⟩
 obtain⟨W,c⟩:=c;rw[←c];refine mG (n:=35) tok Tryz.func83 rfl rfl rfl rfl ?_;refine sg rfl (aF (aK (fun q:Nat×(Pg×List Sg)×Z×Nat=>mk [(0,rP),(1,.one (.clo 84 [R.vp 1 0])),(2,.one (.clo 85 [R.vp 1 0,R.vp 3 0,R.vp 4 0])),(6,I .i64 (q.1:Nat))] ((600,rO L q.2.2.1)::(1,pR)::aE3 q.2.1.1 q.2.1.2)) (fun q=>Inv q.1 q.2.1∧q.1≤60∧ZA L q.2.2.1∧q.2.2.1.e=0∧q.2.2.1.R.length≤N∧q.2.2.1.R.length<q.2.2.2∧moreA [] q.1 q.2.2.1=q.2.2.1∧W=lpZ [] step q.2.2.2 q.1 q.2.1 q.2.2.1) (fun q=>q.2.2.1.R.length) (0,s,z,z.R.length+1) ⟨U,Ac _,h,he,hN,Bk _,pS _ _,c⟩ sl ?_));clear c h he hN U;rintro⟨n,s,z,f⟩ ⟨U,hn,h,he,hN,hf,hA,c⟩;dsimp only at U hn h he hN hf hA c;refine aF (aA (aF (aK (fun y:Z=>mk [(0,rP),(1,.one (.clo 84 [R.vp 1 0])),(2,.one (.clo 85 [R.vp 1 0,R.vp 3 0,R.vp 4 0])),(6,I .i64 (n:Nat))] ((600,rO L y)::(1,pR)::aE3 s.1 s.2)) (fun y=>ZA L y∧y.e=0∧cN z=cN y∧y.R.length≤z.R.length) (fun y=>y.R.length) z ⟨h,he,rfl,le_refl _⟩ sl ?_)));rintro y ⟨h2,r,e2,hle2⟩

 have hm:=eJ h2 r cB;obtain⟨m1,m2,m3⟩:=kI h2;have E:=h2.may cB;have Y:=(gR cB y).trans r;generalize bP cB y=m at hm m1 m2 m3 E Y;obtain⟨b,z3⟩:=m;dsimp only at m1 m2 m3 E Y;refine aA (sk 1 rfl (kc hm ?_));refine az (aB rfl (fun hb=>?_) (fun hb=>?_))
 ·have hb:b=true:=hb;have:=m3 hb;exact aD (aF (aD ⟨z3,⟨E,Y,e2.trans m1.symm,by omega⟩,m3 hb,sl⟩))
 have hb:b=false:=hb;obtain⟨g1,g2⟩:=m2 hb;subst g1;have e3:cN z=z3:=e2.trans g2;clear m1 m2 m3 E e2 hm;have hf0:∃g,f=g+1:=⟨f-1,by omega⟩
 obtain⟨f,rfl⟩:=hf0;rw[lpZ] at c;unfold b5 at c;rw[hA,e3] at c;have hs3:=aKw h2;have hn3:=dH h2;refine aH (aA (sk 1 rfl (kv (args:=[]) hs3 ?_)));refine az (aB rfl (fun hb=>?_) (fun hb=>?_))
 ·have hb:cY [] z3=true:=hb;rw[θ (show ¬z3.e=0∨cY [] z3=true from .inr hb)] at c;rw[ξ ω] at c;rw[c,b7 r];exact aE rtN
 have hb:cY [] z3=false:=hb;have hnb:¬(¬z3.e=0∨cY [] z3=true):=fun k=>k.elim (fun k=>k r) fun k=>by rw[hb] at k;cases k
 rw[ξ hnb] at c;refine aD ?_;by_cases aa:n<60
 case neg=>
  have d:decide (((n:Nat):Int)<60)=false:=ψ (by omega);rw[fD (by omega) r] at c;dsimp only at c;rw[ψ cC,ξ ω] at c;rw[c,aI cC];have hmn:=bJ 2 (aX z3).pl;refine sk 5 rfl (kc hn3 ?_);refine ak 1 [] rfl ?_;rw[d];exact kp hmn
 have d:decide (((n:Nat):Int)<60)=true:=φ (by omega);rw[fC (by omega),φ r,θ rfl] at c;have hmo:=bI 2 (aX z3).pl;refine sk 5 rfl (kc hn3 ?_);refine ak 1 [] rfl ?_;rw[d];refine kc hmo ?_;refine az ?_;have ho:=hone n s z3 U aa h2 r (by omega);obtain⟨u,k2,k3,_⟩:=hst n s z3 U aa h2 r;generalize step s z3=y at ho u k2 k3 c;obtain⟨s4,z4⟩:=y;dsimp only at ho u k2 k3 c;by_cases j:z4.e=0
 case neg=>
  have hp:=bB.err ho j;rw[fG j] at c;rw[c,aI j];exact sk 1 rfl (kpv (args:=[]) hp)
 have ho:=bB.ok ho j;have k3:=k3 j;refine sk 1 rfl (kv (args:=[]) ho ?_);refine az (aA (agN [] rfl ?_));have hlp:=u.lp;have A:=lH u cB;have ab:=dH u;have J:=aKw u;have ac:=bI 12 (aX z4).pl;cases M:isZ cB z4 with
 | true=>
  rw[M] at A;have B:moreA [] (n+1) z4=z4:=ξ fun k=>by rw[M] at k;cases k.2.2.1
  refine aC mixed (ak 1 [] rfl (kc A ?_));refine ak 7 [(2,.bv true),(5,.bv true)] rfl (kc ab ?_);refine ak 1 [(2,.bv true),(5,.bv true)] rfl (kc ac ?_);exact az ⟨(n+1,s4,z4,f),⟨k2,by omega,u,j,by dsimp only;omega,by dsimp only;omega,B,c⟩,by dsimp only;omega,sl⟩
 | false=>
  rw[M] at A;cases O:cY [] z4 with
  | true=>
   rw[O] at J;have B:moreA [] (n+1) z4=z4:=ξ fun k=>by rw[O] at k;cases k.2.2.2
   refine aC mixed (ak 1 [] rfl (kc A ?_));refine ak 2 [(2,.bv false)] rfl (kvG (args:=[]) J ?_);refine ak 4 [(2,.bv false),(5,.bv false)] rfl (kc ab ?_);refine ak 1 [(2,.bv false),(5,.bv false)] rfl (kc ac ?_);exact az ⟨(n+1,s4,z4,f),⟨k2,by omega,u,j,by dsimp only;omega,by dsimp only;omega,B,c⟩,by dsimp only;omega,sl⟩
  | false=>
   rw[O] at J;have hmn4:=bJ 12 (aX z4).pl;have B:moreA [] (n+1) z4=⟨z4.R,12,(aX z4).pl⟩:=(θ ⟨succ_pos n,j,M,O⟩).trans (θ j);have ad:¬(12:Int)=0:=by decide
   have hWb:W.2=⟨z4.R,12,(aX z4).pl⟩:=by
    obtain⟨f,rfl⟩:∃g,f=g+1:=⟨f-1,by omega⟩
    rw[lpZ] at c;unfold b5 at c;rw[B,kP ad,θ (show ¬(Z.mk z4.R 12 (aX z4).pl).e=0∨_ from .inl ad),ξ ω] at c;rw[c]
   rw[hWb,aI ad];refine aC mixed (ak 1 [] rfl (kc A ?_));refine ak 2 [(2,.bv false)] rfl (kvG (args:=[]) J ?_);refine ak 4 [(2,.bv false),(5,.bv false)] rfl (kc ab ?_);refine ak 1 [(2,.bv false),(5,.bv false)] rfl (kpD (.tup []) [] hmn4 ?_);exact az trivial
section
variable {L:List Tk}{ex:Nat→Z→Ex×Z}{N:Nat}(hB:tD ex) (hS:aLc L ex N) (hX:wC) (hO:ExO L ex) (hZ:o5 L) (hwt:wt L≤30000) (hC:aNu L N)
include hB hS hX hO hZ hwt hC
theorem aP8 (n:Nat) (p:Pg) (sigs:List Sg) {z:Z}(h:ZA L z) (he:z.e=0) (M:z.R.length≤N) (hn:n<60) (hp:PgOk n p) (hs:eW sigs∧sigs.length≤n):
  bB Tryz.prog 85 ([]++[R.vp 1 0,R.vp 3 0,R.vp 4 0].map V.one) ((600,rO L z)::(1,pR)::aE3 p sigs) (fL L (.tup []) (eE ex p sigs z).2 ((1,pR)::aE3 (eE ex p sigs z).1.1 (eE ex p sigs z).1.2)):=by
 obtain⟨O,U,Y,B⟩:=hp;have E:(p.datas.map fM).length=p.datas.length:=η _;have I:(p.classes.map fN).length=p.classes.length:=η _;have J:(p.insts.map iD).length=p.insts.length:=η _;refine mG (n:=36) tok Tryz.func85 rfl rfl rfl rfl ?_;unfold eE;have hm:=eJ h he jT;have hl:=eG (s:=jT) h;have ha:=h.may jT;have q:= @gU jT z;have hx:=(gR jT z).trans he;have c:=fun(_:(bP jT z).2.R.length≤N)=>aM4 ha hx hZ
 generalize bP jT z=m at hm hl ha q hx c ⊢;obtain⟨b,A⟩:=m;dsimp only at hm hl ha q hx c ⊢;refine aF (sk 1 rfl (kc hm ?_));refine kz 1 rfl ?_;cases b with
 | true=>
  rw[θ rfl];have c:=c (by have:=hl rfl;omega);generalize kT A=y at c ⊢;obtain⟨e,z2⟩:=y;dsimp only at c ⊢;refine aB rfl (fun _=>?_) (fun hb=>Bool.noConfusion hb);by_cases j:z2.e=0
  case neg=>
   have hp:=bB.err c j;rw[aI j];refine aC mixed (ak 3 [] rfl (kpD (.pa (fM ⟨[],0,[],[]⟩)) [(600,rO L A)] hp ?_));exact ak 4 [(4,.all)] rfl (az trivial)
  have c:=bB.ok c j;rw[b7 j];have r:p.datas.map fM++[fM e]=(p.datas++[e]).map fM:=by rw[Ai];rfl
  have hle:(p.datas++[e]).length=p.datas.length+1:=by rw[ζ];rfl
  refine aC mixed (ak 3 [] rfl (kc c ?_));refine ak 4 [(4,.all)] rfl (az ?_);generalize p.datas++[e]=S at r hle ⊢;exact rtN (ho:=⟨⟨_,rfl,.var rfl⟩,⟨_,rfl,.var rfl⟩,⟨_,rfl,.var rfl⟩,⟨_,rfl,.var (by rw[hle,←E];rfl)⟩,⟨_,rfl,Go.AM.Ole.arr⟩,⟨_,rfl,Go.AM.Ole.arr⟩,⟨_,rfl,.arrS r⟩,⟨_,rfl,Go.AM.Ole.arr⟩,⟨_,rfl,Go.AM.Ole.arr⟩,trivial⟩)
 | false=>
 obtain rfl:=q rfl;rw[ξ ω];clear hm hl ha q hx c;refine aB rfl (fun hb=>Bool.noConfusion hb) (fun _=>?_);have hm:=eJ h he eZ;have hl:=eG (s:=eZ) h;have ha:=h.may eZ;have q:= @gU eZ A;have hx:=(gR eZ A).trans he;have c:=fun(k:(bP eZ A).2.R.length≤N)=>hC _ ha hx k
 generalize bP eZ A=m at hm hl ha q hx c ⊢;obtain⟨b,z2⟩:=m;dsimp only at hm hl ha q hx c ⊢;refine sk 1 rfl (kc hm ?_);refine kz 1 rfl ?_;cases b with
 | true=>
  rw[θ rfl];have c:=c (by have:=hl rfl;omega);generalize eY z2=y at c ⊢;obtain⟨e,z3⟩:=y;dsimp only at c ⊢;refine aB rfl (fun _=>?_) (fun hb=>Bool.noConfusion hb);by_cases j:z3.e=0
  case neg=>
   have hp:=bB.err c j;rw[aI j];refine aC mixed (ak 3 [] rfl (kpD (.pa (fN ⟨[],0,[],[],[]⟩)) [(600,rO L z2)] hp ?_));exact ak 4 [(4,.all)] rfl (az trivial)
  have c:=bB.ok c j;rw[b7 j];have r:p.classes.map fN++[fN e]=(p.classes++[e]).map fN:=by rw[Ai];rfl
  have hle:(p.classes++[e]).length=p.classes.length+1:=by rw[ζ];rfl
  refine aC mixed (ak 3 [] rfl (kc c ?_));refine ak 4 [(4,.all)] rfl (az ?_);generalize p.classes++[e]=S at r hle ⊢;exact rtN (ho:=⟨⟨_,rfl,.var rfl⟩,⟨_,rfl,.var rfl⟩,⟨_,rfl,.var rfl⟩,⟨_,rfl,.var (by rw[hle,←I];rfl)⟩,⟨_,rfl,Go.AM.Ole.arr⟩,⟨_,rfl,Go.AM.Ole.arr⟩,⟨_,rfl,Go.AM.Ole.arr⟩,⟨_,rfl,.arrS r⟩,⟨_,rfl,Go.AM.Ole.arr⟩,trivial⟩)
 | false=>
 obtain rfl:=q rfl;rw[ξ ω];clear hm hl ha q hx c;refine aB rfl (fun hb=>Bool.noConfusion hb) (fun _=>?_);have hm:=eJ h he iV;have hl:=eG (s:=iV) h;have ha:=h.may iV;have q:= @gU iV z2;have hx:=(gR iV z2).trans he;have c:=fun(k:(bP iV z2).2.R.length≤N)=>aM0 hB hS hX hO hZ hwt ha hx k
 generalize bP iV z2=m at hm hl ha q hx c ⊢;obtain⟨b,z3⟩:=m;dsimp only at hm hl ha q hx c ⊢;refine sk 1 rfl (kc hm ?_);refine kz 1 rfl ?_;cases b with
 | true=>
  rw[θ rfl];have c:=c (by have:=hl rfl;omega);generalize lQ ex z3=y at c ⊢;obtain⟨e,z4⟩:=y;dsimp only at c ⊢;refine aB rfl (fun _=>?_) (fun hb=>Bool.noConfusion hb);by_cases j:z4.e=0
  case neg=>
   have hp:=bB.err c j;rw[aI j];refine aC mixed (ak 3 [] rfl (kpD (.pa (iD ⟨[],0,[],[],[],[]⟩)) [(600,rO L z3)] hp ?_));exact ak 4 [(4,.all)] rfl (az trivial)
  have c:=bB.ok c j;rw[b7 j];have r:p.insts.map iD++[iD e]=(p.insts++[e]).map iD:=by rw[Ai];rfl
  have hle:(p.insts++[e]).length=p.insts.length+1:=by rw[ζ];rfl
  refine aC mixed (ak 3 [] rfl (kc c ?_));refine ak 4 [(4,.all)] rfl (az ?_);generalize p.insts++[e]=S at r hle ⊢;exact rtN (ho:=⟨⟨_,rfl,.var rfl⟩,⟨_,rfl,.var rfl⟩,⟨_,rfl,.var rfl⟩,⟨_,rfl,.var (by rw[hle,←J];rfl)⟩,⟨_,rfl,Go.AM.Ole.arr⟩,⟨_,rfl,Go.AM.Ole.arr⟩,⟨_,rfl,Go.AM.Ole.arr⟩,⟨_,rfl,Go.AM.Ole.arr⟩,⟨_,rfl,.arrS r⟩,trivial⟩)
 | false=>
 obtain rfl:=q rfl;rw[ξ ω];clear hm hl ha q hx c;refine aB rfl (fun hb=>Bool.noConfusion hb) (fun _=>?_);have u:=aP5 hB hS hZ hwt p sigs 0 h he M (by omega) (by have:=hs.2;omega) (by have:=B.1;omega);generalize aZ ex sigs p.binds 0 z3=y at u ⊢;obtain⟨⟨S,Bs⟩,z4⟩:=y;dsimp only at u ⊢;by_cases j:z4.e=0
 case neg=>
  have hp:=bB.err u j;rw[aI j];exact aC mixed (ak 2 [] rfl (kp hp))
 have u:=bB.ok u j;rw[b7 j];refine aC mixed (ak 2 [] rfl (kc u ?_));exact az rtN
theorem aCh {z:Z}(h:ZA L z) (he:z.e=0) (hN:z.R.length≤N):bB Tryz.prog 37 [rP] [(600,rO L z)] (fL L (.pa (mI (eT ex z).1)) (eT ex z).2 []):=by
 have I:∀(n:Nat) (s:Pg×List Sg) (z:Z),(PgOk n s.1∧eW s.2∧s.2.length≤n)→n<60→ZA L z→z.e=0→ZA L (qQ ex s z).2∧(PgOk (n+1) (qQ ex s z).1.1∧eW (qQ ex s z).1.2∧(qQ ex s z).1.2.length≤n+1)∧((qQ ex s z).2.e=0→(qQ ex s z).2.R.length<z.R.length)∧Ze z (qQ ex s z).2:=fun n s z B hn h he=>by
  obtain⟨a,b,c,d,e⟩:=sN hO hwt h B.1 B.2;exact⟨a,⟨b,c⟩,d,e⟩
 have J:PgOk 0 zPg∧eW ([]:List Sg)∧([]:List Sg).length≤0:=⟨⟨⟨le_refl _,fun d A=>(by cases A)⟩,⟨le_refl _,fun d A=>(by cases A)⟩,⟨le_refl _,fun d A=>(by cases A)⟩,⟨le_refl _,trivial⟩⟩,fun d A=>(by cases A),le_refl _⟩
 have q:=aMw (step:=qQ ex) (Inv:=fun n s=>PgOk n s.1∧eW s.2∧s.2.length≤n) (L:=L) (N:=N) (fun n s z B hn h he hN=>aP8 hB hS hX hO hZ hwt hC n s.1 s.2 h he hN hn B.1 B.2) I h he hN (s:=(zPg,[])) J;have hok:=sB (sh:=[]) (Inv:=fun n (s:Pg×List Sg)=>PgOk n s.1∧eW s.2∧s.2.length≤n) I (z.R.length+1) 0 (zPg,[]) z (Ac _) J h;unfold eT;rw[aEd];unfold rX;generalize lpZ [] (qQ ex) (z.R.length+1) 0 (zPg,[]) z=W at q hok ⊢;obtain⟨⟨p,sigs⟩,z2⟩:=W;dsimp only at q hok ⊢;obtain⟨g1,⟨m,hm60,hp,hs,hsl⟩,_⟩:=hok;refine mG (n:=15) tok Tryz.func37 rfl rfl rfl rfl ?_;refine sg rfl (sg rfl (sg rfl (AWp.sub (Sub.ownCell (x:=3) (k:=0) (id:=512) 81 5 rfl rfl rfl) ?_)));refine AWp.sub (Sub.ownCell (x:=3) (k:=1) (id:=513) 90 6 rfl rfl rfl) ?_;refine AWp.sub (Sub.ownCell (x:=3) (k:=2) (id:=514) 95 6 rfl rfl rfl) ?_;refine AWp.sub (Sub.ownCell (x:=3) (k:=3) (id:=511) 99 33 rfl rfl rfl) ?_;refine AWp.sub (Sub.ownCell (x:=4) (k:=0) (id:=510) 92 9 rfl rfl rfl) ?_;by_cases r:z2.e=0
 case neg=>
  have hp:=bB.err q r;rw[mU r,aI r];exact sk 3 rfl (kp hp)
 have q:=bB.ok q r;refine sk 3 rfl (kc q ?_);refine az ?_;have hsk:sigs.length≤m:=hsl;have j:=aF1 sigs p.binds r (by omega) (by have:p.binds.length≤m:=hp.b.1;omega);obtain⟨p1,p2,p3,p4⟩:=fK sigs p.binds z2 g1 hs hp.b.2;have E:= @mF sigs p.binds z2;generalize dF sigs p.binds z2=y at j p1 p2 p3 p4 E ⊢;obtain⟨Bs,z6⟩:=y;dsimp only at j p1 p2 p3 p4 E ⊢;unfold aN6 at j;dsimp only at j;refine AWp.sub (Sub.freeze (id:=510) rfl) ?_;by_cases u:z6.e=0
 case neg=>
  rw[ξ u] at j;have hpx:aA8 _ _ _ _ _:=j;rw[aI u];exact sk 3 rfl (kp hpx)
 rw[θ u] at j;have j:b8 _ _ _ _ _ _:=j;obtain rfl:=E u;rw[b7 u];have M:p.datas.length=(p.datas.map fM).length:=(η _).symm;have O:p.classes.length=(p.classes.map fN).length:=(η _).symm;have U:p.insts.length=(p.insts.map iD).length:=(η _).symm;have Y:p.binds.length=(Bs.map aW).length:=by rw[η,p3]
 refine sk 3 rfl (kc j ?_);refine kz 2 rfl (AWp.sub (Sub.freeze (id:=511) rfl) ?_);refine AWp.sub (Sub.freeze (id:=512) rfl) ?_;refine AWp.sub (Sub.freeze (id:=513) rfl) ?_;refine AWp.sub (Sub.freeze (id:=514) rfl) ?_;exact sg rfl (aE (rtC trw (hc:=.agg (.hs rfl M (Go.AM.take_all M) (.hs rfl O (Go.AM.take_all O) (.hs rfl U (Go.AM.take_all U) (.hs rfl Y (Go.AM.take_all Y) .nil)))))))
end
end Go.Proofs.YtpmheldmadendaaGreatDoor
namespace Go.AM
open Go
def qA (a:Act) (D:List Deferred):Act:=⟨a.tmps,a.defers++D⟩
theorem xH (a:Act) (D:List Deferred) (d:Option Nat) (v:Value):(qA a D).put d v=qA (a.put d v) D:=by cases d<;>rfl
theorem zU (a:Act) (D:List Deferred):(qA a D).eval=a.eval:=by funext x;cases x<;>rfl
section
variable {F:Fence}{m:Nat}{P:Program}{o:Oper}{a:Act}{w:World}{K K':Act→World→Prop}{Q Q':Exit→Act→World→Prop}{D:List Deferred}
theorem aHm (c:∀a w,K a w→K' (qA a D) w) (hq:∀e a w,Q e a w→Q' e (qA a D) w) {r:Result Next}(h:o.uponIn F m P a K Q r):o.uponIn F m P (qA a D) K' Q' r:=by
 have hl:LetsOut Q→LetsOut Q':=fun⟨a,w,h⟩=>⟨_,w,hq _ a w h⟩
 have hp:∀d v w,K (a.put d v) w→K' ((qA a D).put d v) w:=fun d v w h=>by rw[xH];exact c _ _ h
 cases r with
 | ok x w'=>
  cases x<;>simp only[Oper.uponIn] at h ⊢<;>
   first
    | exact hp _ _ _ h
    | exact⟨h.1,CallsIn.mono h.2 (fun e j he=>by cases e<;>first | exact hp _ _ _ he | exact hq _ _ _ he | exact hl he)⟩
    | exact⟨h.1,RowsIn.mono h.2 (fun _ _ he=>hp _ _ _ he)⟩
    | exact⟨h.1,RoundIn.mono h.2 (fun e j he=>by cases e<;>first | exact hp _ _ _ he | exact hq _ _ _ he | exact hl he)⟩
    | (have:=c _ _ h;rw[←xH] at this;exact this)
    | exact h
 | halt x w'=>cases x<;>simp only[Oper.uponIn] at h ⊢<;>first | exact hq _ _ _ h | exact h
theorem aHl (c:∀a w,K a w→K' (qA a D) w) (hq:∀e a w,Q e a w→Q' e (qA a D) w) (h:o.wpIn F m P a w K Q):o.wpIn F m P (qA a D) w K' Q':=by
 unfold Oper.wpIn at h ⊢;rw[zU];exact⟨h.1,aHm c hq h.2⟩
theorem y5 {ops:Array Oper}{i:Nat}(c:∀a w,K a w→K' (qA a D) w) (hq:∀e a w,Q e a w→Q' e (qA a D) w) (h:wpOpIn F m P ops Q i K a w):wpOpIn F m P ops Q' i K' (qA a D) w:=by
 unfold wpOpIn at h ⊢;cases ho:ops[i]? with
 | none=>rw[ho] at h;exact c _ _ h
 | some o=>
  rw[ho] at h;dsimp only at h ⊢;rw[show(qA a D).tmps=a.tmps from rfl,zU];split
  ·rename_i hw;rw[θ hw] at h;exact aHl c hq h
  ·rename_i hw;rw[ξ hw] at h;exact⟨h.1,by rw[xH];exact c _ _ h.2⟩
end
section
variable {P:Program}{n:Nat}{ops:Array Oper}{D:List Deferred}{Q':Exit→Act→World→Prop}
end
theorem aDj {n:Nat}{args:List V}{hin:List (Nat×AObj)}{S:Sto}{μ:Mu}{w:World}{vals:List Value}{k:Nat}(hk:k=n) (hle:Nat.ble args.length n=true) (E:Inv ⟨w,S,hH μ (look hin),μ,look hin⟩ S μ (look hin) w) (c:aU S μ (look hin) args vals):
  Sim ⟨w,S,hH μ (look hin),μ,look hin⟩ n S μ (mk (wG 0 args) hin) ⟨(⟨vals⟩:Array Value)++Array.replicate (k-(⟨vals⟩:Array Value).size) undef,[]⟩ w:=by
 have B:=aU.length c;have I:=Al hle;refine⟨E,by simp;omega,rfl,fun t v ht=>?_⟩;have key:∀(l:List V) (us:List Value) (k:Nat),aU S μ (look hin) l us→look (wG k l) t=some v→∃j,t=k+j∧∃u,us[j]?=some u∧aO S μ (look hin) v u:=by
  intro l
  induction l with
  | nil=>intro us k _ h;simp[wG,look] at h
  | cons x l J=>
   intro us k q hl;simp only[aU] at q;obtain⟨u,r,rfl,h1,h2⟩:=q;simp only[wG,look] at hl;split at hl
   ·rename_i y;cases hl;exact⟨0,by rw[δ y];rfl,u,rfl,h1⟩
   ·obtain⟨j,A,M,O,U⟩:=J r (k+1) h2 hl;exact⟨j+1,by omega,M,by simpa using O,U⟩
 obtain⟨j,h1,u,h2,A⟩:=key args vals 0 c ht;rw[Bb] at h1;subst h1;have Y:t<vals.length:=(Af.1 h2).1
 have:((⟨vals⟩:Array Value)++Array.replicate (k-(⟨vals⟩:Array Value).size) undef).getD t undef=u:=by
  rw[Ae,Bu (by simpa using Y)];simp[h2]
 show aO S μ (look hin) v (((⟨vals⟩:Array Value)++Array.replicate (k-(⟨vals⟩:Array Value).size) undef).getD t undef);rw[this];exact A
theorem aFb {P:Program}{T:TT}{fn:Func}{n:Nat}{S S':Sto}{μ μ':Mu}{w w':World}{hin hout:List (Nat×AObj)}{res:V}{st:St}{a:Act}(I:Tok P T) (hs:Sim ⟨w,S,hH μ (look hin),μ,look hin⟩ n S' μ' st a w') (J:Fin T fn st hin res hout):
  ∃v,(results fn a.tmps).run P w'=.ok v w'∧Inv ⟨w,S,hH μ (look hin),μ,look hin⟩ S' μ' (look hout) w'∧aO S' μ' (look hout) res v:=by
 obtain⟨⟨vs,vs',M,hc,A⟩,j,hok⟩:=J;simp only[τ] at hok;obtain⟨⟨⟨⟨⟨O,U⟩,k3⟩,Y⟩,k5⟩,k6⟩:=hok;obtain⟨us,h1,h2⟩:=pG I hs M;refine⟨_,h1,?_⟩;have c:=hc.rel hs.inv.obj h2;have q:∀i∈keys hout,Good st.h (look hout) (fun i=>i) i:=by
  intro i hi;obtain⟨o',r⟩:=cE hi;obtain⟨o,g1,g2⟩:=j.mem _ (b9 r);exact⟨o,o',g1,r,g2⟩
 have B:aO S' μ' st.h res (aDb us):=by
  rw[←A]
  match vs',us,c with
  | [],us,c=>simp only[aU] at c;subst c;simp[aHo,aDb,aO,aU]
  | [v],us,c=>
   simp only[aU] at c;obtain⟨u,E,rfl,h5,rfl⟩:=c;exact h5
  | v::v'::l,us,c=>
   have y:=c;simp only[aU] at y;obtain⟨u,E,rfl,_,u',us'',rfl,_,_⟩:=y;simp only[aHo,aDb,aO];exact⟨_,rfl,c⟩
 refine⟨hs.inv.keep j U fun id o ho=>bR Y id (mem_map.2 ⟨_,b9 (show look hin id=some o from ho),rfl⟩),?_⟩;have:=aO.ren (H:=st.h) (H':=look hout) (σ:=fun i=>i) res _ (fun i hi=>q i (bR O i hi)) (by rw[V.ren_id];exact B);exact this
def oU (draw:Bool) (P:Program) (ops:Array Oper) (Q:Exit→Act→World→Prop) (a:Act) (w:World):Prop:=
 match draw with
 | true=>wpAnyIn (Wd none) 0 P .any ops Q ops.size (Array.replicate ops.size false) a { w with drawn:=w.drawn+1 }
 | false=>wpOpsIn (Wd none) 0 P ops Q (List.range ops.size) a w
theorem oU.wp {draw:Bool}{P:Program}{ops:Array Oper}{Q:Exit→Act→World→Prop}{a:Act}{w:World}{id:Nat}(hm:P.follows .mixedOrders=true) (h:oU draw P ops Q a w):(Code.region id ops draw).wpIn (Wd none) 0 P Q a w:=by
 cases draw with
 | true=>exact wpIn_region_any hm h
 | false=>exact wpIn_region h
section
variable {P:Program}{ops:Array Oper}{Q Q':Exit→Act→World→Prop}{D:List Deferred}(hq:∀e a w,Q e a w→Q' e (qA a D) w)
include hq
theorem aG2 {md:Region.Mode}:∀(fuel:Nat) (listed:Array Bool) (a:Act) (w:World),wpAnyIn (Wd none) 0 P md ops Q fuel listed a w→wpAnyIn (Wd none) 0 P md ops Q' fuel listed (qA a D) w
 | 0,_,_,_,h=>⟨h.1,hq _ _ _ h.2⟩
 | fuel+1,_,_,_,h=>⟨fun k=>hq _ _ _ (h.1 k),fun i hi=>y5 (fun a w=>aG2 fuel _ a w) hq (h.2 i hi)⟩
theorem aEh:∀(l:List Nat) (a:Act) (w:World),wpOpsIn (Wd none) 0 P ops Q l a w→wpOpsIn (Wd none) 0 P ops Q' l (qA a D) w
 | [],a,w,h=>hq _ _ _ h
 | i::l,a,w,h=>by
  rw[Bn] at h ⊢;exact y5 (fun a w=>aEh l a w) hq h
theorem oU.ext {draw:Bool}{a:Act}{w:World}(h:oU draw P ops Q a w):oU draw P ops Q' (qA a D) w:=by
 cases draw with
 | true=>exact aG2 hq _ _ _ _ h
 | false=>exact aEh hq _ _ _ h
end
section
variable {P:Program}{n:Nat}{ops:Array Oper}{Q':Exit→Act→World→Prop}{G:Ctx}{S:Sto}{μ:Mu}{st st':St}{a:Act}{w:World}{xs:REs}{draw:Bool}
theorem yW (u:Run P n ops 0 st xs st') (hlen:Nat.beq xs.length ops.size=true) (q:(!draw || (cH (preds ops) xs []&&dE ops))=true)
  (E:∀S' μ' r w',Sim G n S' μ' st' r w'→Q' .normal r w') (hs:Sim G n S μ st a w):oU draw P ops Q' a w:=by
 have c:=δ hlen;cases draw with
 | true=>
  simp only[Bool.not_true,Az,τ] at q;refine aDn (G:=G) u c q.1 q.2 E ops.size _ (by simp) ?_ ?_ S μ a _ ?_ none
  ·have:((List.range ops.size).filter fun i=>!(Array.replicate ops.size false).getD i false)=List.range ops.size:=by
    apply filter_eq_self.2;intro i hi;simp at hi;simp[hi]
   rw[this,length_range]
  ·intro i o ho hl;simp[Ae,Ax] at hl;split at hl<;>simp at hl
  ·have I:∀(A:REs) (k:Nat) (s:St),c0 (fun j=>(Array.replicate ops.size false).getD j false) k A s=s:=by
    intro A
    induction A with
    | nil=>intro k s;rfl
    | cons y A B=>
     intro k s;have J:(Array.replicate ops.size false).getD k false=false:=by
      simp[Ae,Ax];split<;>rfl
     simp only[c0,J,Bh];exact B _ _
   rw[I];exact⟨hs.inv.same rfl rfl rfl rfl,hs.size,hs.defers,hs.env⟩
 | false=>
  have key:∀(k:Nat) (st st':St) (xs:REs),Run P n ops k st xs st'→k+xs.length=ops.size→(∀S' μ' r w',Sim G n S' μ' st' r w'→Q' .normal r w')→∀S μ a w,Sim G n S μ st a w→wpOpsIn (Wd none) 0 P ops Q' (List.range' k xs.length) a w:=by
   intro k st st' xs u
   induction u with
   | nil=>intro _ hq S μ a w hs;exact hq S μ a w hs
   | @cons k st rd f xs st' M _ B=>
    intro hl hq S μ a w hs;simp only[ε,range'_succ,Bn];exact M st (eR.refl _ _) G S μ a w _ Q' hs (fun S1 O U Y s1=>B (by simp at hl;omega) hq S1 O U Y s1) none
  have:=key 0 st st' xs u (by omega) E S μ a w hs;show wpOpsIn _ _ _ _ _ (List.range ops.size) _ _;rwa [range_eq_range',←c]
theorem aEi {v:Value}{p:Nat}(q:RunP v p P n ops 0 st xs st') (hp:p<xs.length) (hle:xs.length≤ops.size) (c:draw=true→xs.length=ops.size∧(cH (preds ops) xs []&&dE ops)=true)
  (Y:∀S' μ' e h a' w',Sim G n S' μ' ⟨e,h,st.d⟩ a' w'→Q' (pan v) a' w') (hs:Sim G n S μ st a w):oU draw P ops Q' a w:=by
 cases draw with
 | true=>
  obtain⟨r,c⟩:=c rfl;rw[τ] at c;refine yG (G:=G) q r c.1 c.2 (by omega) Y ops.size _ (by simp) ?_ ?_ ?_ S μ a _ ?_ none
  ·have:((List.range ops.size).filter fun i=>!(Array.replicate ops.size false).getD i false)=List.range ops.size:=by
    apply filter_eq_self.2;intro i hi;simp at hi;simp[hi]
   rw[this,length_range]
  ·intro i o ho hl;simp[Ae,Ax] at hl;split at hl<;>simp at hl
  ·simp[Ae,Ax];split<;>rfl
  ·have hz:∀(u:REs) (k:Nat) (s:St),c0 (fun j=>(Array.replicate ops.size false).getD j false) k u s=s:=by
    intro u
    induction u with
    | nil=>intro k s;rfl
    | cons y u B=>
     intro k s;have hf:(Array.replicate ops.size false).getD k false=false:=by
      simp[Ae,Ax];split<;>rfl
     simp only[c0,hf,Bh];exact B _ _
   rw[hz];exact⟨hs.inv.same rfl rfl rfl rfl,hs.size,hs.defers,hs.env⟩
 | false=>
  have key:∀(k:Nat) (s A:St) (xs:REs) (m:Nat),RunP v p P n ops k s xs A→k≤p→p<k+xs.length→k+xs.length≤m→s.d=st.d→∀S μ a w,Sim G n S μ s a w→wpOpsIn (Wd none) 0 P ops Q' (List.range' k (m-k)) a w:=by
   intro k s A xs m q
   induction q with
   | nil=>intro h1 h2;simp at h2;omega
   | @cons k s rd f xs A hne E _ B=>
    intro h1 h2 I J S μ a w hs;simp only[ε] at h2 I;rw[show m-k=(m-(k+1))+1 by omega];simp only[range'_succ,Bn];exact E s (eR.refl _ _) G S μ a w _ Q' hs (fun S1 M O U s1=>B (by omega) (by omega) (by omega) J S1 M O U s1) none
   | @pan s rd f xs A E _ _=>
    intro h1 h2 I J S μ a w hs;simp only[ε] at h2 I;rw[show m-p=(m-(p+1))+1 by omega];simp only[range'_succ,Bn];exact E s (eR.refl _ _) G S μ a w _ Q' hs (fun S1 M e1 h1 O U s1=>Y S1 M e1 h1 O U (by rw[←J];exact s1)) none
  have:=key 0 st st' xs ops.size q (by omega) (by omega) (by omega) rfl S μ a w hs;show wpOpsIn _ _ _ _ _ (List.range ops.size) _ _;rwa [range_eq_range',←sub_zero ops.size]
end
def y4 (P:Program) (o:Oper):Prop:=∀ρ w x w',(execOp ρ o).run P w=.ok x w'→(∃v,x=.value v)∨x=.skip
section
variable {P:Program}{w:World}
theorem aRw {s:Sem Value}{x:Next}{w':World}(h:(do pure (Next.value (←s)):Sem Next).run P w=.ok x w'):∃v,x=.value v:=by
 simp only[π] at h;cases hs:s.run P w with
 | ok v c=>
  rw[hs] at h;simp only[κ,Aa] at h;cases h;exact⟨v,rfl⟩
 | halt y c=>rw[hs] at h;simp[Result.andThen] at h
theorem aRx {s:Sem Unit}{x:Next}{w':World}(h:(do s;pure Next.skip:Sem Next).run P w=.ok x w'):x=.skip:=by
 simp only[π] at h;cases hs:s.run P w with
 | ok v c=>
  rw[hs] at h;simp only[κ,Aa] at h;cases h;rfl
 | halt y c=>rw[hs] at h;simp[Result.andThen] at h
end
def isVal:Op→Bool
 | .move _ | .assign _ | .alloc _ | .load .. | .store .. | .fieldAddr .. | .extract ..=>true
 | _=>false
theorem aIp {P:Program}{o:Oper}(h:isVal o.op=true):y4 P o:=by
 intro ρ w x w' c;cases ho:o.op<;>rw[ho] at h<;>first | cases h | skip
 all_goals simp only[execOp,ho] at c
 all_goals first | exact .inl (aRw c) | exact .inr (aRx c) | (simp only[Aa] at c;cases c;exact .inl ⟨_,rfl⟩) | skip
section
variable {m:Nat}{P:Program}{ops:Array Oper}{Q:Exit→Act→List Frame→World→Prop}{i:Nat}{rest:List Nat}{a:Act}{cs cs':List Frame}{w w':World}{o:Oper}
theorem aDm (ho:ops[i]?=some o) (c:o.guard=none) (j:(execOp a.eval o).run P w=.ok .recover w) (hc:recoverD cs=none) (h:wpOpsSIn (Wd none) m P ops Q rest (a.put o.dst .nilIface) cs w):wpOpsSIn (Wd none) m P ops Q (i::rest) a cs w:=by
 unfold wpOpsSIn;simp only[ho];refine⟨fun _ _=>trivial,?_⟩;rw[θ (by simp[Region.wanted,c]),j];dsimp only;rw[hc];exact h
theorem aBe {v:Value}(ho:ops[i]?=some o) (c:o.guard=none) (j:(execOp a.eval o).run P w=.ok .recover w) (hc:recoverD cs=some (v,cs')) (h:wpOpsSIn (Wd none) m P ops Q rest (a.put o.dst v) cs' w):wpOpsSIn (Wd none) m P ops Q (i::rest) a cs w:=by
 unfold wpOpsSIn;simp only[ho];refine⟨fun _ _=>trivial,?_⟩;rw[θ (by simp[Region.wanted,c]),j];dsimp only;rw[hc];exact h
theorem aDl {v:Value}(ho:ops[i]?=some o) (c:o.guard=none) (j:(execOp a.eval o).run P w=.ok (.value v) w') (h:wpOpsSIn (Wd none) m P ops Q rest (a.put o.dst v) cs w'):wpOpsSIn (Wd none) m P ops Q (i::rest) a cs w:=by
 unfold wpOpsSIn;simp only[ho];refine⟨fun _ _=>trivial,?_⟩;rw[θ (by simp[Region.wanted,c]),j];exact h
theorem aOr {d:Nat}{v:Value}(h:d<a.tmps.size):(a.put (some d) v).eval (.tmp d)=v:=by
 show((a.put (some d) v).tmps).getD d undef=v;show(a.tmps.setIfInBounds d v).getD d undef=v;rw[zN _ _ _ _ h,θ rfl]
theorem aPf (j:∀o,ops[i]?=some o→y4 P o) (h:wpOpIn (Wd none) 0 P ops (fun e a w=>Q e a cs w) i (fun a w=>wpOpsSIn (Wd none) m P ops Q rest a cs w) a w):wpOpsSIn (Wd none) m P ops Q (i::rest) a cs w:=by
 unfold wpOpIn at h;unfold wpOpsSIn;cases ho:ops[i]? with
 | none=>rw[ho] at h;exact h
 | some o=>
  rw[ho] at h;dsimp only at h ⊢;split
  ·rename_i hw;rw[θ hw] at h;refine⟨h.1,?_⟩;have h2:=h.2;rw[show(Wd none).round=none from rfl,Oper.semAt_none] at h2;cases c:(execOp a.eval o).run P w with
   | ok x w'=>
    rw[c] at h2;rcases j o ho _ _ _ _ c with⟨v,rfl⟩ | rfl
    ·exact h2
    ·exact h2
   | halt y w'=>
    rw[c] at h2;cases y<;>first | exact h2 | exact h2.elim
  ·rename_i hw;rw[ξ hw] at h;exact h
theorem yX {n:Nat}{G:Ctx}(j:∀(i:Nat) (o:Oper),ops[i]?=some o→y4 P o∨i=0∨i=1) {k:Nat}{st st':St}{xs:REs}(r:Run P n ops k st xs st') (c:2≤k∨∀(i:Nat) (o:Oper),ops[i]?=some o→y4 P o):
  (∀S' μ' q w',Sim G n S' μ' st' q w'→Q .normal q cs w')→∀S μ a w,Sim G n S μ st a w→wpOpsSIn (Wd none) m P ops Q (List.range' k xs.length) a cs w:=by
 induction r with
 | nil=>intro hq S μ a w hs;exact hq S μ a w hs
 | @cons k st rd f xs st' u _ y=>
  intro hq S μ a w hs;rw[ε,range'_succ];refine aPf (fun o ho=>?_) (u st (eR.refl _ _) G S μ a w _ _ hs (fun S1 A B E s1=>y (c.imp (fun h=>by omega) id) hq S1 A B E s1) none);rcases c with c | c
  ·rcases j k o ho with h | h | h
   ·exact h
   ·omega
   ·omega
  ·exact c k o ho
theorem aRz {n:Nat}{G:Ctx}{S:Sto}{μ:Mu}{st:St}{id:Nat}(hs:Sim G n S μ st a w) (c:∀(i:Nat) (o:Oper),ops[i]?=some o→y4 P o) (h:hY (fun _=>False) P n ops false 0 st [] (fun st'=>∀S' μ' j w',Sim G n S' μ' st' j w'→Q .normal j cs w')):(Code.region id ops false).wpSIn (Wd none) m P Q a cs w:=by
 rcases h with⟨xs,st',h1,h2,r,q⟩ | ⟨v,p,xs,st',h0,_⟩
 case inr=>exact h0.elim
 have hl:=δ h2;rw[Bb] at hl;refine wpSIn_region ?_;rw[range_eq_range',←hl];exact yX (fun i o ho=>.inl (c i o ho)) h1 (.inr c) q S μ a w hs
theorem aOt {n:Nat}{G:Ctx}{S:Sto}{μ:Mu}{st:St}(hs:Sim G n S μ st a w) (j:∀(i:Nat) (o:Oper),ops[i]?=some o→y4 P o∨i=0∨i=1) (h:hY (fun _=>False) P n ops false 2 st [] (fun st'=>∀S' μ' c w',Sim G n S' μ' st' c w'→Q .normal c cs w')):wpOpsSIn (Wd none) m P ops Q (List.range' 2 (ops.size-2)) a cs w:=by
 rcases h with⟨xs,st',h1,h2,r,q⟩ | ⟨v,p,xs,st',h0,_⟩
 case inr=>exact h0.elim
 have hl:=δ h2;rw[←hl,Nat.add_sub_cancel_left];exact yX j h1 (.inl (le_refl 2)) q S μ a w hs
def aLg (k:Nat) (ops:Array Oper):Bool:=(ops.toList.drop k).all fun o=>isVal o.op
theorem i6 {k:Nat}(h:aLg k ops=true) (i:Nat) (o:Oper) (ho:ops[i]?=some o) (hi:k≤i):y4 P o:=by
 refine aIp ((A3.1 h) o ?_);refine Ag (i:=i-k) ?_;rw[Ak,show k+(i-k)=i by omega];simpa using ho
end
end Go.AM
namespace Go.Proofs.YtpmheldmadendaaGreatDoor
open Go Go.AM
set_option maxRecDepth 20000
set_option maxHeartbeats 4000000
def atO (e p:Int):AObj:=.var 32 [.c (.int .i64 e),.c (.int .i64 p)]
theorem aCu (e p:Int) (w:World):(Instr.typeAssert (rF e p) 20 131 true).run Tryz.prog w=.ok (.tuple #[.agg #[.int .i64 e,.int .i64 p],.bool true]) w:=by kernel_rfl
theorem aGy (w:World):(Instr.typeAssert .nilIface 20 131 true).run Tryz.prog w=.ok (.tuple #[.agg #[.int .i64 0,.int .i64 0],.bool false]) w:=by kernel_rfl
theorem aP4 (b:Bool) (e p:Int) (m:Nat) {S:Sto}{μ:Mu}{w:World}{vals:List Value}(hI:Go.AM.Inv ⟨w,S,hH μ (Go.AM.look [(4,atO 0 0)]),μ,Go.AM.look [(4,atO 0 0)]⟩ S μ (Go.AM.look [(4,atO 0 0)]) w) (hv:aU S μ (Go.AM.look [(4,atO 0 0)]) [.one (.vp 4 0)] vals) (u A:FrameMode)
  (hu:∀(j:Frame) (cs:List Frame),j.mode=u→(b=true∧recoverD (j::cs)=some (rF e p,{ j with mode:=A }::cs))∨(b=false∧recoverD (j::cs)=none∧A=u∧e=0∧p=0)):
  CallsDIn (Wd none) m Tryz.prog 80 ⟨vals⟩ u w (fun O U w'=>(∃v,O=.returned v)∧U=A∧∃S' μ',Go.AM.Inv ⟨w,S,hH μ (Go.AM.look [(4,atO 0 0)]),μ,Go.AM.look [(4,atO 0 0)]⟩ S' μ' (Go.AM.look [(4,atO e p)]) w'):=by
 refine callsDIn_of_wpSIn Tryz.func80 rfl trivial (fun j cs hc=>?_);have c:=aDj (n:=11) (k:=(Tryz.f80).ntmps) rfl rfl hI hv;generalize hG:(⟨w,S,hH μ (Go.AM.look [(4,atO 0 0)]),μ,Go.AM.look [(4,atO 0 0)]⟩:Ctx)=G at c ⊢;generalize ha:(⟨(⟨vals⟩:Array Value)++Array.replicate ((Tryz.f80).ntmps-(⟨vals⟩:Array Value).size) undef,[]⟩:Act)=a at c;have E:∀(x y:Int) (S':Sto) (μ':Mu) (M:Act) (w':World) (st:St) (cs':List Frame),Sim G 11 S' μ' st M w'→st.d=[]→st.h 4=some (atO x y)→cs'={ j with mode:=A }::cs→x=e→y=p→bodyPostS Tryz.prog Tryz.f80 j cs (fun O U w'=>(∃v,O=.returned v)∧U=A∧∃S' μ',Go.AM.Inv G S' μ' (Go.AM.look [(4,atO e p)]) w') .normal M cs' w':=by
  intro x y S' μ' M w' st cs' hs hd h4 aa hx hy;subst hx hy;have ab:M.defers=[]:=by have:=hs.defers;rw[hd] at this;exact this
  subst hG;obtain⟨v,g1,g2,g3⟩:=aFb (fn:=Tryz.f80) (res:=.tup []) (hout:=[(4,atO x y)]) tok hs ⟨⟨[],[],.nil,.nil,rfl⟩,⟨⟨_,h4,.var rfl⟩,trivial⟩,rfl⟩;exact⟨ab,A,aa,v,g1,⟨_,rfl⟩,rfl,_,_,g2⟩
 refine wpSIn_seq (wpSIn_region ?_);show wpOpsSIn _ _ _ _ _ (0::1::List.range' 2 6) _ _ _;rcases hu j cs hc with⟨rfl,Y⟩ | ⟨rfl,Y,rfl,rfl,rfl⟩
 ·refine aBe rfl rfl rfl Y ?_;have q:=c.put c.inv (Evolve.refl _ _ _) (d:=4) (by decide) (v:=rF e p) (x:=none) (fun y hy=>by cases hy);refine aDl (w':=w) rfl rfl (v:=.tuple #[.agg #[.int .i64 e,.int .i64 p],.bool true]) ?_ ?_
  ·show(do pure (Next.value (←Instr.typeAssert ((a.put (some 4) (rF e p)).eval (.tmp 4)) 20 131 true)):Sem Next).run Tryz.prog w=_;rw[aOr (by rw[c.size];decide),π,aCu];rfl
  have I:=q.put q.inv (Evolve.refl _ _ _) (d:=5) (by decide) (v:=.tuple #[.agg #[.int .i64 e,.int .i64 p],.bool true]) (x:=some (.tup [.pa [.int .i64 e,.int .i64 p],B true])) (fun y hy=>by
   cases hy;simp only[aO,aU,bW,Rep,aT]
   exact⟨_,rfl,_,_,rfl,⟨_,rfl,_,_,rfl,rfl,_,_,rfl,rfl,rfl⟩,_,_,rfl,rfl,rfl⟩)
  refine aOt I (fun i o ho=>?_) ?_
  ·by_cases hi:2≤i
   ·exact .inl (i6 (k:=2) (by rfl) i o ho hi)
   ·exact .inr (by omega)
  refine kz 6 rfl ?_;intro S3 μ3 a3 w3 J;refine wpSIn_seq (aRz J (fun i o ho=>i6 (k:=0) (by rfl) i o ho (Ac _)) ?_);refine kz 1 rfl ?_;intro S4 ac a4 w4 r;have hb:=r.env 8 _ rfl;simp only[aO,aT,Rep] at hb;refine wpSIn_cond (t:=true) hb ?_;refine aRz r (fun i o ho=>i6 (k:=0) (by rfl) i o ho (Ac _)) ?_;refine kz 3 rfl ?_;intro S5 μ5 a5 w5 hs5;exact E e p S5 μ5 a5 w5 _ _ hs5 rfl rfl rfl rfl rfl
 ·refine aDm rfl rfl rfl Y ?_;have q:=c.put c.inv (Evolve.refl _ _ _) (d:=4) (by decide) (v:=.nilIface) (x:=none) (fun y hy=>by cases hy);refine aDl (w':=w) rfl rfl (v:=.tuple #[.agg #[.int .i64 0,.int .i64 0],.bool false]) ?_ ?_
  ·show(do pure (Next.value (←Instr.typeAssert ((a.put (some 4) .nilIface).eval (.tmp 4)) 20 131 true)):Sem Next).run Tryz.prog w=_;rw[aOr (by rw[c.size];decide),π,aGy];rfl
  have I:=q.put q.inv (Evolve.refl _ _ _) (d:=5) (by decide) (v:=.tuple #[.agg #[.int .i64 0,.int .i64 0],.bool false]) (x:=some (.tup [.pa [.int .i64 0,.int .i64 0],B false])) (fun y hy=>by
   cases hy;simp only[aO,aU,bW,Rep,aT]
   exact⟨_,rfl,_,_,rfl,⟨_,rfl,_,_,rfl,rfl,_,_,rfl,rfl,rfl⟩,_,_,rfl,rfl,rfl⟩)
  refine aOt I (fun i o ho=>?_) ?_
  ·by_cases hi:2≤i
   ·exact .inl (i6 (k:=2) (by rfl) i o ho hi)
   ·exact .inr (by omega)
  refine kz 6 rfl ?_;intro S3 μ3 a3 w3 J;refine wpSIn_seq (aRz J (fun i o ho=>i6 (k:=0) (by rfl) i o ho (Ac _)) ?_);refine kz 1 rfl ?_;intro S4 ac a4 w4 r;have hb:=r.env 8 _ rfl;simp only[aO,aT,Rep] at hb;refine wpSIn_cond (t:=false) hb ?_;refine wpSIn_of_wpIn rfl (wpIn_skip ?_);exact E 0 0 S4 ac a4 w4 _ _ r rfl rfl (by rw[←hc]) rfl rfl
end Go.Proofs.YtpmheldmadendaaGreatDoor
namespace Go.AM
open Go
section
variable {P:Program}{ops:Array Oper}{Q:Exit→Act→World→Prop}{d:Nat}{x:Value}
def Kp (d:Nat) (x:Value) (a:Act):Prop:=a.tmps.getD d undef=x
theorem Kp.put {a:Act}(h:Kp d x a) {t:Option Nat}(ht:t≠some d) (v:Value):Kp d x (a.put t v):=by
 cases t with
 | none=>exact h
 | some t=>
  show(a.tmps.setIfInBounds t v).getD d undef=x;rw[Ae,A0,ξ (fun e=>ht (by rw[e])),←Ae];exact h
theorem aLh {o:Oper}{a:Act}(h0:Kp d x a) (ht:o.dst≠some d) {K K':Act→World→Prop}(c:∀a w,Kp d x a→K a w→K' a w) {r:Result Next}(h:o.uponIn (Wd none) 0 P a K Q r) (j:¬LetsOut Q):
  o.uponIn (Wd none) 0 P a K' (fun e a w=>Q e a w∧Kp d x a) r:=by
 cases r with
 | ok y w'=>
  cases y<;>simp only[Oper.uponIn] at h ⊢<;>
   first
    | exact c _ _ (h0.put ht _) h
    | exact⟨h.1,CallsIn.mono h.2 (fun e q he=>by cases e<;>first | exact c _ _ (h0.put ht _) he | exact⟨he,h0⟩ | exact(j he).elim)⟩
    | exact⟨h.1,RowsIn.mono h.2 (fun _ _ he=>c _ _ (h0.put ht _) he)⟩
    | exact⟨h.1,RoundIn.mono h.2 (fun e q he=>by cases e<;>first | exact c _ _ (h0.put ht _) he | exact⟨he,h0⟩ | exact(j he).elim)⟩
    | (refine c _ _ (Kp.put ?_ ht _) h;unfold Kp at h0 ⊢;exact h0)
    | exact h
 | halt y w'=>cases y<;>simp only[Oper.uponIn] at h ⊢<;>first | exact⟨h,h0⟩ | exact h
theorem aC6 {i:Nat}{a:Act}{w:World}(h0:Kp d x a) (ht:∀o∈ops.toList,o.dst≠some d) {K K':Act→World→Prop}(c:∀a w,Kp d x a→K a w→K' a w) (j:¬LetsOut Q) (h:wpOpIn (Wd none) 0 P ops Q i K a w):
  wpOpIn (Wd none) 0 P ops (fun e a w=>Q e a w∧Kp d x a) i K' a w:=by
 unfold wpOpIn at h ⊢;cases ho:ops[i]? with
 | none=>rw[ho] at h;exact c _ _ h0 h
 | some o=>
  have hm:=ht o (by
   obtain⟨h1,h2⟩:=Ca.1 ho;rw[←h2]
   exact Array.getElem_mem_toList h1)
  rw[ho] at h;dsimp only at h ⊢;split
  ·rename_i hw;rw[θ hw] at h;unfold Oper.wpIn at h ⊢;exact⟨h.1,aLh h0 hm c h.2 j⟩
  ·rename_i hw;rw[ξ hw] at h;exact⟨h.1,c _ _ (h0.put hm _) h.2⟩
theorem aLa (ht:∀o∈ops.toList,o.dst≠some d) (c:¬LetsOut Q) {md:Region.Mode}:∀(fuel:Nat) (listed:Array Bool) (a:Act) (w:World),Kp d x a→wpAnyIn (Wd none) 0 P md ops Q fuel listed a w→wpAnyIn (Wd none) 0 P md ops (fun e a w=>Q e a w∧Kp d x a) fuel listed a w
 | 0,_,_,_,h0,h=>⟨h.1,h.2,h0⟩
 | fuel+1,_,_,_,h0,h=>⟨fun k=>⟨h.1 k,h0⟩,fun i hi=>aC6 h0 ht (fun a w h0 h=>aLa ht c fuel _ a w h0 h) c (h.2 i hi)⟩
theorem aKm (ht:∀o∈ops.toList,o.dst≠some d) (c:¬LetsOut Q):∀(l:List Nat) (a:Act) (w:World),Kp d x a→wpOpsIn (Wd none) 0 P ops Q l a w→wpOpsIn (Wd none) 0 P ops (fun e a w=>Q e a w∧Kp d x a) l a w
 | [],a,w,h0,h=>⟨h,h0⟩
 | i::l,a,w,h0,h=>by
  rw[Bn] at h ⊢;exact aC6 h0 ht (fun a w h0 h=>aKm ht c l a w h0 h) c h
theorem oU.kp {draw:Bool}{a:Act}{w:World}(ht:(ops.toList.all fun o=>o.dst !=some d)=true) (j:¬LetsOut Q) (h0:Kp d x a) (h:oU draw P ops Q a w):oU draw P ops (fun e a w=>Q e a w∧Kp d x a) a w:=by
 have c:∀o∈ops.toList,o.dst≠some d:=fun o ho e=>by
  have:=(A3.1 ht) o ho;rw[e] at this;simp at this
 cases draw with
 | true=>exact aLa c j _ _ _ _ h0 h
 | false=>exact aKm c j _ _ _ h0 h
end
section
variable {P:Program}{n:Nat}{ops:Array Oper}{G:Ctx}{S:Sto}{μ:Mu}{st:St}{a:Act}{w:World}{draw:Bool}{v:Value}
theorem aS4 (q:List (Nat×AObj)) (J:List (Nat×V)) (hs:Sim G n S μ st a w) (U:st.d=[]) (Y:fH (fun p=>st.e p.1=some p.2) J) (aa:(J.all fun p=>subset p.2.refs (keys q))=true)
  (ab:fH (fun p=>st.h p.1=some p.2) q) (hc:subset (fI q) (q.map (·.1))=true) (M:(q.all fun p=>p.2.live)=true) (hok:(q.all fun p=>lI p.2)=true)
  (h:hY (fun v'=>v'=v) P n ops draw 0 (mk J q) [] (fun _=>False)):
  oU draw P ops (fun e u w'=>e=pan v∧u.defers=[]∧u.tmps.size=n∧∃S' A hout,(∀id o,look hout id=some o→∃o',look q id=some o')∧Inv G S' A (gO st.h (outs hout)) w'∧Evolve S μ st.h S' A (gO st.h (outs hout))) a w:=by
 have hh:∀id o,look q id=some o→st.h id=some o∧o≠ .dead:=by
  intro id o ho;have hm:=b9 ho;refine⟨ab.mem _ hm,?_⟩;have:=(A3.1 M) _ hm;rintro rfl;simp[AObj.live] at this
 have hI:=hs.inv.hand hh hc;have O:∀i∈keys q,Good st.h (look q) (fun i=>i) i:=by
  intro i hi;obtain⟨o,ho⟩:=cE hi;obtain⟨h1,h2⟩:=hh i o ho;exact⟨o,o,h1,ho,.refl_id h2⟩
 have hs2:Sim ⟨w,S,hH μ (look q),μ,look q⟩ n S μ (mk J q) a w:=by
  refine⟨hI,hs.size,by have:=hs.defers;rw[U] at this;exact this,fun t v ht=>?_⟩;have hm:=b9 (show look J t=some v from ht);have h1:=hs.env t v (Y.mem _ hm);have hr:=(A3.1 aa) _ hm;have:=aO.ren (H:=st.h) (H':=look q) (σ:=fun i=>i) v _ (fun i hi=>O i (bR hr i hi)) (by rw[V.ren_id];exact h1);exact this
 have hout:∀S' μ' e E u w',Sim ⟨w,S,hH μ (look q),μ,look q⟩ n S' μ' ⟨e,E,[]⟩ u w'→u.defers=[]∧u.tmps.size=n∧∃S' A hout,(∀id o,look hout id=some o→∃o',look q id=some o')∧Inv G S' A (gO st.h (outs hout)) w'∧Evolve S μ st.h S' A (gO st.h (outs hout)):=by
  intro S' μ' e E u w' r;have B:=r.inv.evo;have hbl:∀id x,(∃o',look q id=some o')→E id=some x→lI x=true:=fun id x ⟨o',ho⟩ hx=>by
   obtain⟨o2,g1,g2⟩:=B.obj id o' ho;have g1:E id=some o2:=g1;rw[hx] at g1;cases g1;exact aDh g2 ((A3.1 hok) _ (b9 ho))
  have hI':Inv ⟨w,S,hH μ (look q),μ,look q⟩ S' μ' (look (tX q E)) w':=by
   refine⟨r.inv.holds,fun id o ho=>?_,fun i j o o' b c c' hi hj hm hm'=>?_,fun i o b c hi hm=>?_,r.inv.frame,r.inv.sle,r.inv.sto,⟨B.le,fun id o ho=>?_⟩,r.inv.fre⟩
   ·obtain⟨h1,x,h2,rfl⟩:=cR ho;exact(r.inv.obj id x h2).blur (hbl id x h1 h2)
   ·obtain⟨_,x,h2,_⟩:=cR hi;obtain⟨_,y,I,_⟩:=cR hj;exact r.inv.inj i j x y b c c' h2 I hm hm'
   ·obtain⟨_,x,h2,_⟩:=cR hi;exact r.inv.own i x b c h2 hm
   ·obtain⟨o2,g1,g2⟩:=B.obj id o ho;refine⟨blur o2,pH ho g1,?_⟩;exact AObj.succ_trans g2 (vO (p:=True) trivial) fun e _=>e
  obtain⟨A,q1,q2,q3,q4⟩:=hs.inv.back (fun id o ho=>(hh id o ho).1) (fun id o ho=>.inl (cR ho).1) hI';exact⟨r.defers,r.size,S',A,tX q E,fun id o ho=>(cR ho).1,q2,q3⟩
 rcases h with⟨xs,st',h1,h2,h4,I⟩ | ⟨v',p,xs,st',h0,h1,h2,I,h4,h5⟩
 ·exact I.elim
 ·subst h0;rw[Bb] at I h4 h5;exact aEi h1 I h4 (fun U=>h5 U) (fun S' μ' e h u w' s=>⟨rfl,hout S' μ' e h u w' s⟩) hs2
theorem aP2 {o:Oper}{good:List (Nat×AObj)→Prop}{K:Act→World→Prop}{Q:Exit→Act→World→Prop}{f:FuncId}{x:Operand}{caps:List R}{xs:Array Operand}{ts:Array TypeId}{ids:List Nat}{args:List V}(hin:List (Nat×AObj)) (hb:gL P f) (ho:o.op=.call { callee:=.value x,args:=xs,argTypes:=ts })
  (hx:opv st x=some (.one (.clo f caps)))
  (U:∀S μ w vals,Inv ⟨w,S,hH μ (look hin),μ,look hin⟩ S μ (look hin) w→aU S μ (look hin) (args++caps.map V.one) vals→Calls P f ⟨vals⟩ w fun e w'=>∃S' μ' hout,e=.panicked [{ v:=v,recovered:=false }]∧(∀id o,look hout id=some o→∃o',look hin id=some o')∧good hout∧Inv ⟨w,S,hH μ (look hin),μ,look hin⟩ S' μ' (look hout) w')
  (ha:ArgsV st ids xs.toList args) (y:fH (fun p=>st.h p.1=some p.2) hin) (hok:eI (args++caps.map V.one) hin=true) (hs:Sim G n S μ st a w)
  (Y:∀S' q hout w',good hout→Inv G S' q (gO st.h (outs hout)) w'→Evolve S μ st.h S' q (gO st.h (outs hout))→Q (pan v) a w'):o.wpIn (Wd none) 0 P a w K Q:=by
 have E:=aL hs hx fun t ht=>rfl
 simp only[aO,aT] at E;obtain⟨vs,h1,h2⟩:=E;have hr:(execOp a.eval o).run P w=.ok (.enter f ⟨xs.toList.map a.eval++vs⟩) w:=by
  simp only[execOp,ho,resolve,h1,Deferred.ofValue,π,Aa,κ,invoke,dU hb];congr 2;apply Array.ext';simp
 have I:∀(l:List V) (us:List Value) (rs:List R) (vs:List Value),aU S μ st.h l us→aP S μ st.h rs vs→aU S μ st.h (l++rs.map V.one) (us++vs):=by
  intro l
  induction l with
  | nil=>
   intro us rs vs h k;simp only[aU] at h;subst h;simp only[Br]
   induction rs generalizing vs with
   | nil=>simp only[aP] at k;subst k;simp[aU]
   | cons r rs A=>
    simp only[aP] at k;obtain⟨v,vs',rfl,c,j⟩:=k;simp only[Av,aU];exact⟨v,vs',rfl,by simpa [aO] using c,A vs' j⟩
  | cons x l A=>
   intro us rs vs h k;simp only[aU] at h;obtain⟨v,vs',rfl,c,j⟩:=h;simp only[Bl,aU];exact⟨v,_,rfl,c,A vs' rs vs j k⟩
 have J:=I _ _ _ _ (ha.rel hs (fun t ht=>rfl) fun i h=>rfl) h2;simp only[eI,τ] at hok;obtain⟨⟨c,j⟩,k3⟩:=hok;have hh:∀id o,look hin id=some o→st.h id=some o∧o≠ .dead:=by
  intro id o ho;have hm:=b9 ho;refine⟨y.mem _ hm,?_⟩;have:=(A3.1 k3) _ hm;rintro rfl;simp[AObj.live] at this
 have hI:=hs.inv.hand hh j;have u:∀i∈keys hin,Good st.h (look hin) (fun i=>i) i:=by
  intro i hi;obtain⟨o,ho⟩:=cE hi;obtain⟨h1,h2⟩:=hh i o ho;exact⟨o,o,h1,ho,.refl_id h2⟩
 have M:aU S μ (look hin) (args++caps.map V.one) (xs.toList.map a.eval++vs):=by
  have:=aU.ren (H:=st.h) (H':=look hin) (σ:=fun i=>i) (args++caps.map V.one) _ (fun i hi=>u i (bR c i hi)) (by rw[V.renL_id];exact J);exact this
 have hc:=U S μ w _ hI M;refine iJ hr ?_;refine hc.mono fun e w' ⟨S',μ',hout,he,B,hg,O⟩=>?_
 subst he;obtain⟨q,q1,q2,q3,q4⟩:=hs.inv.back (fun id o ho=>(hh id o ho).1) (fun id o ho=>.inl (B id o ho)) O;exact Y S' q hout w' hg q2 q3
theorem aQ9 {id:Nat}{D:List Deferred}{d:Nat}{x:Value}{Q':Exit→Act→World→Prop}(hm:P.follows .mixedOrders=true) (hs:Sim G n S μ st a w) (h0:Kp d x a) (ht:(ops.toList.all fun o=>o.dst !=some d)=true)
  (h:hY (fun _=>False) P n ops draw 0 st [] (fun st'=>∀S' μ' c w',Kp d x c→Sim G n S' μ' st' c w'→Q' .normal (qA c D) w')):(Code.region id ops draw).wpIn (Wd none) 0 P Q' (qA a D) w:=by
 rcases h with⟨xs,st',h1,h2,j,q⟩ | ⟨v,p,xs,st',h0,_⟩
 case inr=>exact h0.elim
 rw[Bb] at h2;refine oU.wp hm (oU.ext (Q:=fun e a w=>(e=.normal∧∃S' μ',Sim G n S' μ' st' a w)∧Kp d x a) ?_ (oU.kp ht ?_ h0 (yW h1 h2 j (fun S' μ' c w' s=>⟨rfl,S',μ',s⟩) hs)))
 ·rintro e a w ⟨⟨rfl,S',μ',s⟩,r⟩;exact q S' μ' a w r s
 ·rintro⟨a,w,h,_⟩;cases h
theorem aR0 {id:Nat}{Q':Exit→Act→World→Prop}(hm:P.follows .mixedOrders=true) (hs:Sim G n S μ st a w)
  (h:hY (fun _=>False) P n ops draw 0 st [] (fun st'=>∀S' μ' c w',Sim G n S' μ' st' c w'→Q' .normal c w')):(Code.region id ops draw).wpIn (Wd none) 0 P Q' a w:=by
 rcases h with⟨xs,st',h1,h2,j,q⟩ | ⟨v,p,xs,st',h0,_⟩
 case inr=>exact h0.elim
 rw[Bb] at h2;exact oU.wp hm (yW h1 h2 j q hs)
end
end Go.AM
