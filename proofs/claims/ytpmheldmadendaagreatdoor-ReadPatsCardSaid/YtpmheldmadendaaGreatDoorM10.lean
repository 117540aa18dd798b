/-
  Texts Rd57 to Am55 in one.
-/
import Derived.Test.YtpmheldmadendaaGreatDoorM9
import Derived.RecoverIn
import Derived.WideLaws
open List (all_eq_true cons_append drop_eq_getElem_cons drop_length filter_eq_self length_append length_cons length_map length_pos_iff length_range map_append map_cons mem_map nil_append range'_succ range_eq_range' set_append_right)
open Nat (eq_of_beq_eq_true le_of_ble_eq_true le_refl le_trans lt_succ_self sub_self sub_zero succ_pos zero_add zero_le)
namespace Go.Proofs.YtpmheldmadendaaGreatDoor
open Go Go.AM
set_option maxRecDepth 20000
set_option maxHeartbeats 4000000
def aAp (a:Int) (ps:List Pt) (ks:List Ex):List (Nat×AObj):=[(7,.var 61 [.c (.int .i64 7),.c (.int .i64 a),.c (.int .i64 0),.c (.str []),.hs 520 0 ks.length ks.length,.hs 521 0 ps.length ps.length,.c .nl,.c .nl,.c .nl,.c .nl,.c (.int .i64 0),.c (.int .i64 0),.c (.str []),.c .nl,.c .nl]),(520,.arr 61 15 (ks.map cD) 0),(521,.arr 49 10 (ps.map bF) 0)]
def uV (ex:Nat→Z→Ex×Z) (deep:Nat) (s:List Pt×List Ex) (z:Z):(List Pt×List Ex)×Z:=
 ((s.1++[(iJ (3*z.R.length+1) 0 z).1],s.2++[(ex (deep+1) (aR arrow (iJ (3*z.R.length+1) 0 z).2)).1]),(ex (deep+1) (aR arrow (iJ (3*z.R.length+1) 0 z).2)).2)
theorem aFi (ex:Nat→Z→Ex×Z) (deep:Nat):∀(f n:Nat) (ps:List Pt) (ks:List Ex) (z:Z),k8 ex deep f n ps ks z=lpZ bE (uV ex deep) f n (ps,ks) z
 | 0,_,_,_,_=>rfl
 | f+1,n,ps,ks,z=>by
  rw[k8,lpZ];split
  ·exact aFi ex deep f _ _ _ _
  ·rfl
theorem aKk {s:Str}{z:Z}(h:(aR s z).e=0):aR s z=tlZ z∧¬(aX z).kind=6∧z.e=0:=by
 have he:=aO h;unfold aR at h ⊢;rw[aKm he] at h ⊢;by_cases hi:isZ s z=true
 ·rw[ξ hi,ξ rfl];exact⟨rfl,gZ hi,he⟩
 ·rw[η hi,η π] at h;exact(hH (by decide) h).elim
theorem aLf (a:Int) (deep:Nat) {step:(List Pt×List Ex)→Z→(List Pt×List Ex)×Z}{Inv:Nat→(List Pt×List Ex)→Prop}{L:List Tk}{N:Nat}
  (hone:∀n s z,Inv n s→n<60→ZA L z→z.e=0→z.R.length≤N→aY Tryz.prog 243 ([]++[R.vp 7 0,R.vp 3 0,R.vp 5 0].map V.one) ((600,rO L z)::(3,pR)::(5,dO deep)::aAp a s.1 s.2) (eF L (.tup []) (step s z).2 ((3,pR)::(5,dO deep)::aAp a (step s z).1.1 (step s z).1.2)))
  (hst:∀n s z,Inv n s→n<60→ZA L z→z.e=0→ZA L (step s z).2∧Inv (n+1) (step s z).1∧((step s z).2.e=0→(step s z).2.R.length<z.R.length)∧Ze z (step s z).2)
  {z:Z} (h:ZA L z) (he:z.e=0) (hN:z.R.length≤N) {s:(List Pt×List Ex)} (hI:Inv 0 s):
  aY Tryz.prog 83 [rP,.one (.clo 184 [R.vp 2 0]),.one (.clo 243 [R.vp 7 0,R.vp 3 0,R.vp 5 0])] ((600,rO L z)::(2,pR)::(3,pR)::(5,dO deep)::aAp a s.1 s.2) (eF L (.tup []) (lpZ bE step (z.R.length+1) 0 s z).2 ((2,pR)::(3,pR)::(5,dO deep)::aAp a (lpZ bE step (z.R.length+1) 0 s z).1.1 (lpZ bE step (z.R.length+1) 0 s z).1.2)):=by
 have c:∃W,W=lpZ bE step (z.R.length+1) 0 s z:=⟨_,rfl⟩
 obtain⟨W,c⟩:=c;rw[←c];refine kT (n:=35) tok Tryz.func83 rfl rfl rfl rfl ?_;refine sg rfl (aF (aM (fun q:Nat×(List Pt×List Ex)×Z×Nat=>mk [(0,rP),(1,.one (.clo 184 [R.vp 2 0])),(2,.one (.clo 243 [R.vp 7 0,R.vp 3 0,R.vp 5 0])),(6,I .i64 (q.1:Nat))] ((600,rO L q.2.2.1)::(2,pR)::(3,pR)::(5,dO deep)::aAp a q.2.1.1 q.2.1.2)) (fun q=>Inv q.1 q.2.1∧q.1≤60∧ZA L q.2.2.1∧q.2.2.1.e=0∧q.2.2.1.R.length≤N∧q.2.2.1.R.length<q.2.2.2∧moreA bE q.1 q.2.2.1=q.2.2.1∧W=lpZ bE step q.2.2.2 q.1 q.2.1 q.2.2.1) (fun q=>q.2.2.1.R.length) (0,s,z,z.R.length+1) ⟨hI,Ae _,h,he,hN,lt_succ_self _,nV _ _,c⟩ sl ?_));clear c h he hN hI;rintro⟨n,s,z,f⟩ ⟨hI,hn,h,he,hN,hf,hA,c⟩;dsimp only at hI hn h he hN hf hA c;refine aF (aA (aF (aM (fun y:Z=>mk [(0,rP),(1,.one (.clo 184 [R.vp 2 0])),(2,.one (.clo 243 [R.vp 7 0,R.vp 3 0,R.vp 5 0])),(6,I .i64 (n:Nat))] ((600,rO L y)::(2,pR)::(3,pR)::(5,dO deep)::aAp a s.1 s.2)) (fun y=>ZA L y∧y.e=0∧cU z=cU y∧y.R.length≤z.R.length) (fun y=>y.R.length) z ⟨h,he,rfl,le_refl _⟩ sl ?_)));rintro y ⟨h2,A,e2,hle2⟩

 have hm:=dQ h2 A cA;obtain⟨m1,m2,m3⟩:=kP h2;have M:=h2.may cA;have he3:=(fL cA y).trans A;generalize bV cA y=m at hm m1 m2 m3 M he3;obtain⟨b,z3⟩:=m;dsimp only at m1 m2 m3 M he3;refine aA (sk 1 rfl (kc hm ?_));refine az (aB rfl (fun hb=>?_) (fun hb=>?_))
 ·have hb:b=true:=hb;have:=m3 hb;exact aE (aF (aE ⟨z3,⟨M,he3,e2.trans m1.symm,by omega⟩,m3 hb,sl⟩))
 have hb:b=false:=hb;obtain⟨g1,g2⟩:=m2 hb;subst g1;have e3:cU z=z3:=e2.trans g2;clear m1 m2 m3 M e2 hm;have hf0:∃g,f=g+1:=⟨f-1,by omega⟩
 obtain⟨f,rfl⟩:=hf0;rw[lpZ] at c;unfold bI at c;rw[hA,e3] at c;have hs3:=mS h2;have hn3:=cT h2;refine aL (aA (sk 1 rfl (kv (args:=[]) hs3 ?_)));refine az (aB rfl (fun hb=>?_) (fun hb=>?_))
 ·have hb:cY bE z3=true:=hb;rw[ξ (show ¬z3.e=0∨cY bE z3=true from .inr hb)] at c;rw[η π] at c;rw[c,aW A];exact aD rtN
 have hb:cY bE z3=false:=hb;have hnb:¬(¬z3.e=0∨cY bE z3=true):=fun k=>k.elim (fun k=>k A) fun k=>by rw[hb] at k;cases k
 rw[η hnb] at c;refine aE ?_;by_cases hn60:n<60
 case neg=>
  have d:decide (((n:Nat):Int)<60)=false:=ψ (by omega);rw[eC (by omega) A] at c;dsimp only at c;rw[ψ c0,η π] at c;rw[c,aG c0];have hmn:=bB 2 (aX z3).pl;refine sk 5 rfl (kc hn3 ?_);refine ak 1 [] rfl ?_;rw[d];exact kp hmn
 have d:decide (((n:Nat):Int)<60)=true:=φ (by omega);rw[eB (by omega),φ A,ξ rfl] at c;have hmo:=b7 2 (aX z3).pl;refine sk 5 rfl (kc hn3 ?_);refine ak 1 [] rfl ?_;rw[d];refine kc hmo ?_;refine az ?_;have ho:=hone n s z3 hI hn60 h2 A (by omega);obtain⟨B,k2,k3,_⟩:=hst n s z3 hI hn60 h2 A;generalize step s z3=y at ho B k2 k3 c;obtain⟨s4,z4⟩:=y;dsimp only at ho B k2 k3 c;by_cases r:z4.e=0
 case neg=>
  have hp:=aY.err ho r;rw[eJ r] at c;rw[c,aG r];exact sk 1 rfl (kpv (args:=[]) hp)
 have ho:=aY.ok ho r;have k3:=k3 r;refine sk 1 rfl (kv (args:=[]) ho ?_);refine az (aA (agN [] rfl ?_));have hlp:=B.lp;have E:=jO B cA;have hn4:=cT B;have O:=mS B;have hmo4:=b7 12 (aX z4).pl;cases U:isZ cA z4 with
 | true=>
  rw[U] at E;have J:moreA bE (n+1) z4=z4:=η fun k=>by rw[U] at k;cases k.2.2.1
  refine aC mixed (ak 1 [] rfl (kc E ?_));refine ak 7 [(2,.bv true),(5,.bv true)] rfl (kc hn4 ?_);refine ak 1 [(2,.bv true),(5,.bv true)] rfl (kc hmo4 ?_);exact az ⟨(n+1,s4,z4,f),⟨k2,by omega,B,r,by dsimp only;omega,by dsimp only;omega,J,c⟩,by dsimp only;omega,sl⟩
 | false=>
  rw[U] at E;cases Y:cY bE z4 with
  | true=>
   rw[Y] at O;have J:moreA bE (n+1) z4=z4:=η fun k=>by rw[Y] at k;cases k.2.2.2
   refine aC mixed (ak 1 [] rfl (kc E ?_));refine ak 2 [(2,.bv false)] rfl (kvG (args:=[]) O ?_);refine ak 4 [(2,.bv false),(5,.bv false)] rfl (kc hn4 ?_);refine ak 1 [(2,.bv false),(5,.bv false)] rfl (kc hmo4 ?_);exact az ⟨(n+1,s4,z4,f),⟨k2,by omega,B,r,by dsimp only;omega,by dsimp only;omega,J,c⟩,by dsimp only;omega,sl⟩
  | false=>
   rw[Y] at O;have hmn4:=bB 12 (aX z4).pl;have J:moreA bE (n+1) z4=⟨z4.R,12,(aX z4).pl⟩:=(ξ ⟨succ_pos n,r,U,Y⟩).trans (ξ r);have h12:¬(12:Int)=0:=by decide
   have hWb:W.2=⟨z4.R,12,(aX z4).pl⟩:=by
    obtain⟨f,rfl⟩:∃g,f=g+1:=⟨f-1,by omega⟩
    rw[lpZ] at c;unfold bI at c;rw[J,jF h12,ξ (show ¬(Z.mk z4.R 12 (aX z4).pl).e=0∨_ from .inl h12),η π] at c;rw[c]
   rw[hWb,aG h12];refine aC mixed (ak 1 [] rfl (kc E ?_));refine ak 2 [(2,.bv false)] rfl (kvG (args:=[]) O ?_);refine ak 4 [(2,.bv false),(5,.bv false)] rfl (kc hn4 ?_);refine ak 1 [(2,.bv false),(5,.bv false)] rfl (kpD (.tup []) [] hmn4 ?_);exact az trivial
theorem aH3 (a:Int) (deep:Nat) {step:(List Pt×List Ex)→Z→(List Pt×List Ex)×Z}{Inv:Nat→(List Pt×List Ex)→Prop}{L:List Tk}{N:Nat}
  (I:∀n s z,Inv n s→n<60→ZA L z→z.e=0→z.R.length≤N→aY Tryz.prog 243 ([]++[R.vp 7 0,R.vp 3 0,R.vp 5 0].map V.one) ((600,rO L z)::(3,pR)::(5,dO deep)::aAp a s.1 s.2) (eF L (.tup []) (step s z).2 ((3,pR)::(5,dO deep)::aAp a (step s z).1.1 (step s z).1.2)))
  (E:∀n s z,Inv n s→n<60→ZA L z→z.e=0→ZA L (step s z).2∧Inv (n+1) (step s z).1∧((step s z).2.e=0→(step s z).2.R.length<z.R.length)∧Ze z (step s z).2)
  {z:Z} (h:ZA L z) (he:z.e=0) (U:z.R.length≤N) {s:(List Pt×List Ex)} (J:Inv 0 s):
  aY Tryz.prog 142 [rP,.one (.clo 243 [R.vp 7 0,R.vp 3 0,R.vp 5 0])] ((600,rO L z)::(3,pR)::(5,dO deep)::aAp a s.1 s.2) (eF L (.tup []) (rW step s z).2 ((3,pR)::(5,dO deep)::aAp a (rW step s z).1.1 (rW step s z).1.2)):=by
 have c:=cE h he dZ;have h1:=h.need dZ;have M:=Ze.need dZ z;unfold rW;generalize aR dZ z=B at c h1 M ⊢;have O:B.R.length≤z.R.length:=M;refine kT (n:=12) tok Tryz.func142 rfl rfl rfl rfl ?_;refine sg rfl ?_;by_cases q:B.e=0
 case neg=>
  have hp:=aY.err c q;rw[eJ q];dsimp only;rw[b5 q,aG q];exact sk 1 rfl (kp hp)
 have c:=aY.ok c q;refine sk 1 rfl (kc c ?_);refine az ?_;have r:=aLf a deep (step:=step) (Inv:=Inv) (L:=L) (N:=N) I E h1 q (by omega) J;have hok:=(qZ (sh:=bE) E (B.R.length+1) 0 s B (Ae _) J h1).1
 generalize lpZ bE step (B.R.length+1) 0 s B=W at r hok ⊢;obtain⟨s2,z2⟩:=W;dsimp only at r hok ⊢;by_cases y:z2.e=0
 case neg=>
  have hp:=aY.err r y;rw[b5 y,aG y];exact sk 3 rfl (kp hp)
 have r:=aY.ok r y;refine sk 3 rfl (kc r ?_);refine az ?_;have c:=cE hok y bE;generalize aR bE z2=z3 at c ⊢;by_cases A:z3.e=0
 case neg=>
  have hp:=aY.err c A;rw[aG A];exact aC mixed (ak 1 [] rfl (kp hp))
 have c:=aY.ok c A;rw[aW A];refine aC mixed (ak 1 [] rfl (kc c ?_));exact az rtN
section
variable {L:List Tk}{ex:Nat→Z→Ex×Z}{N:Nat}(hB:rT ex) (hS:aJs L ex N) (hNm:aF0 L)
include hB hS hNm
theorem aLm (a:Int) (ps:List Pt) (ks:List Ex) (deep:Nat) {z:Z}(h:ZA L z) (he:z.e=0) (hN:z.R.length≤N) (hd:deep≤40) (h1:ps.length≤4001) (h2:ks.length≤4001):
  aY Tryz.prog 243 ([]++[R.vp 7 0,R.vp 3 0,R.vp 5 0].map V.one) ((600,rO L z)::(3,pR)::(5,dO deep)::aAp a ps ks) (eF L (.tup []) (uV ex deep (ps,ks) z).2 ((3,pR)::(5,dO deep)::aAp a (uV ex deep (ps,ks) z).1.1 (uV ex deep (ps,ks) z).1.2)):=by
 have J:(ps.map bF).length=ps.length:=χ _;have M:(ks.map cD).length=ks.length:=χ _;have U:(ps.map bF++[(bF zPt)])[ps.length]?=some (bF zPt):=by rw[A4 (by omega),J,B4];rfl
 have Y:(ks.map cD++[(cD zEx)])[ks.length]?=some (cD zEx):=by rw[A4 (by omega),M,B4];rfl
 have hp:=(aNr L hNm (3*z.R.length+1)).2 _ (le_refl _) 0 z h he (le_refl _) (by omega);obtain⟨g1,_,_,g4⟩:=(eY L (3*z.R.length+1)).2.1 0 z h;unfold uV;dsimp only;generalize iJ (3*z.R.length+1) 0 z=y at hp g1 g4 ⊢;obtain⟨q,E⟩:=y;dsimp only at hp g1 g4 ⊢;have g4:E.R.length≤z.R.length:=g4;refine kT (n:=25) tok Tryz.func243 rfl rfl rfl rfl ?_;by_cases r:E.e=0
 case neg=>
  have hp:=aY.err hp r;rw[b5 r,hB _ _ r,aG r];refine sk 3 rfl (kpD (.pa (bF zPt)) [(600,rO L z)] hp ?_);exact ak 7 [(5,.all),(8,.row ps.length (bF zPt))] rfl (az trivial)
 have hp:=aY.ok hp r;have c:(ps.map bF++[(bF zPt)]).set ps.length (bF q)=(ps++[q]).map bF:=by
  rw[set_append_right _ _ (by omega),J,B4,Am];rfl
 have hle:(ps++[q]).length=ps.length+1:=by rw[ζ];rfl
 refine sk 3 rfl (kc hp ?_);refine ak 7 [(5,.all),(8,.row ps.length (bF zPt))] rfl (az ?_);generalize ps++[q]=P at c hle ⊢;refine AWp.sub (st2:=mk [(0,.one (.vp 7 0)),(1,.one (.vp 3 0)),(2,.one (.vp 5 0))] ((600,rO L E)::(3,pR)::(5,dO deep)::aAp a P ks)) (sl (hh:=⟨⟨_,rfl,.var rfl⟩,⟨_,rfl,.var rfl⟩,⟨_,rfl,.var rfl⟩,⟨_,rfl,.var (by rw[hle,←J];rfl)⟩,⟨_,rfl,Go.AM.Ole.arr⟩,⟨_,rfl,.arrS c⟩,trivial⟩)) ?_;have A:=cE g1 r arrow;have g2:=g1.need arrow;have O:(aR arrow E).R.length≤E.R.length:=Ze.need arrow E;generalize aR arrow E=z2 at A g2 O ⊢;by_cases B:z2.e=0
 case neg=>
  have hp:=aY.err A B;rw[hB _ _ B,aG B];exact sk 1 rfl (kp hp)
 have A:=aY.ok A B;refine sk 1 rfl (kc A ?_);refine az ?_;have hx:=hS (deep+1) z2 g2 B (by omega) (by omega);generalize ex (deep+1) z2=y at hx ⊢;obtain⟨e,z3⟩:=y;dsimp only at hx ⊢;by_cases I:z3.e=0
 case neg=>
  have hp:=aY.err hx I;rw[aG I];refine aC mixed (akN 5 [] rfl (kpD (.pa (cD zEx)) [(600,rO L z2)] hp ?_));exact ak 7 [(7,.all),(10,.row ks.length (cD zEx))] rfl (az trivial)
 have hx:=aY.ok hx I;rw[aW I];have c:(ks.map cD++[(cD zEx)]).set ks.length (cD e)=(ks++[e]).map cD:=by
  rw[set_append_right _ _ (by omega),M,B4,Am];rfl
 have hle:(ks++[e]).length=ks.length+1:=by rw[ζ];rfl
 refine aC mixed (akN 5 [] rfl (kc hx ?_));refine ak 7 [(7,.all),(10,.row ks.length (cD zEx))] rfl (az ?_);generalize ks++[e]=K at c hle ⊢;exact rtN (ho:=⟨⟨_,rfl,.var rfl⟩,⟨_,rfl,.var rfl⟩,⟨_,rfl,.var rfl⟩,⟨_,rfl,.var (by rw[hle,←M];rfl)⟩,⟨_,rfl,.arrS c⟩,⟨_,rfl,Go.AM.Ole.arr⟩,trivial⟩)
theorem aLl (hO:ExO L ex) (a:Int) (deep:Nat) {z:Z}(h:ZA L z) (he:z.e=0) (hN:z.R.length≤N) (hd:deep≤40):aY Tryz.prog 225 [rP,I .i64 a,I .i64 (deep:Nat)] [(600,rO L z)] (eF L (.pa (cD (l8 ex a deep z).1)) (l8 ex a deep z).2 []):=by
 have hx:=hS (deep+1) z h he hN (by omega);obtain⟨g0,o0,_,m0⟩:=hO (deep+1) z h;unfold l8 jG fW;rw[aFi];dsimp only;generalize ex (deep+1) z=y at hx g0 o0 m0 ⊢;obtain⟨e0,z0⟩:=y;dsimp only at hx g0 o0 m0 ⊢;have m0:z0.R.length≤z.R.length:=m0;refine kT (n:=40) tok Tryz.func225 rfl rfl rfl rfl ?_;refine sg rfl ?_;by_cases q:z0.e=0
 case neg=>
  have hp:=aY.err hx q;rw[b5 q,b5 q,eJ q];dsimp only;rw[b5 q,dW q];have hb:(if([]:List Pt)=[] then z0 else z0)=z0:=ξ rfl;rw[hb,aG q];exact aA (aC mixed (akN 4 [] rfl (kp hp)))
 have hx:=aY.ok hx q;refine aA (aC mixed (akN 4 [] rfl (kc hx ?_)));refine ak 4 [(5,.id 520)] rfl (az (AWp.sub (Sub.ownCell (x:=7) (k:=5) (id:=521) 49 10 rfl rfl rfl) ?_));have E:=cE g0 q ofS;have h1:=g0.need ofS;have l1:(aR ofS z0).R.length≤z0.R.length:=Ze.need ofS z0;generalize aR ofS z0=M at E h1 l1 ⊢;by_cases A:M.e=0
 case neg=>
  have hp:=aY.err E A;rw[b5 A,eJ A];dsimp only;rw[b5 A,dW A];have hb:(if([]:List Pt)=[] then M else M)=M:=ξ rfl;rw[hb,aG A];exact sk 1 rfl (kp hp)
 have E:=aY.ok E A;refine sk 1 rfl (kc E ?_);refine az ?_;have hst:∀(n:Nat) (s:List Pt×List Ex) (z:Z),(sN s.1∧mZ s.2∧s.1.length=n∧s.2.length=n+1)→n<60→ZA L z→z.e=0→ZA L (uV ex deep s z).2∧(sN (uV ex deep s z).1.1∧mZ (uV ex deep s z).1.2∧(uV ex deep s z).1.1.length=n+1∧(uV ex deep s z).1.2.length=n+1+1)∧((uV ex deep s z).2.e=0→(uV ex deep s z).2.R.length<z.R.length)∧Ze z (uV ex deep s z).2:=fun n s z O hn h he=>by
  obtain⟨q1,q2,q3,q4⟩:=(eY L (3*z.R.length+1)).2.1 0 z h;obtain⟨m1,m2,m3,m4⟩:=hO (deep+1) _ (q1.need arrow);have l1:(aR arrow (iJ (3*z.R.length+1) 0 z).2).R.length≤(iJ (3*z.R.length+1) 0 z).2.R.length:=Ze.need _ _;have q4':(iJ (3*z.R.length+1) 0 z).2.R.length≤z.R.length:=q4;unfold uV;exact⟨m1,⟨n7 O.1 q2,o6 O.2.1 m2,by dsimp only;rw[ζ,O.2.2.1];rfl,by dsimp only;rw[ζ,O.2.2.2];rfl⟩,fun h0=>by have:=m3 h0;dsimp only;omega,(q4.trans (Ze.need _ _)).trans m4⟩
 have hI0:sN ([]:List Pt)∧mZ [e0]∧([]:List Pt).length=0∧[e0].length=0+1:=⟨trivial,⟨o0,trivial⟩,rfl,rfl⟩
 have r:=aH3 a deep (step:=uV ex deep) (Inv:=fun n s=>sN s.1∧mZ s.2∧s.1.length=n∧s.2.length=n+1) (L:=L) (N:=N) (fun n s z O hn h he hN=>aLm hB hS hNm a s.1 s.2 deep h he hN hd (by have:=O.2.2.1;omega) (by have:=O.2.2.2;omega)) hst h1 A (by omega) (s:=([],[e0])) hI0;have hok:=qZ (sh:=bE) (Inv:=fun n (s:List Pt×List Ex)=>sN s.1∧mZ s.2∧s.1.length=n∧s.2.length=n+1) hst ((aR dZ M).R.length+1) 0 ([],[e0]) (aR dZ M) (Ae _) hI0 (h1.need dZ);unfold rW at r;generalize aR dZ M=z2 at r hok ⊢;generalize lpZ bE (uV ex deep) (z2.R.length+1) 0 ([],[e0]) z2=W at r hok ⊢;obtain⟨⟨ps,ks⟩,J⟩:=W;dsimp only at r hok ⊢;obtain⟨gB,⟨m,hm60,hp,hk,hpl,hkl⟩,_⟩:=hok

 have hpe:(ps.map bF).length=ps.length:=χ _;have hke:(ks.map cD).length=ks.length:=χ _;have hne:= @aKk bE J;generalize aR bE J=z3 at r hne ⊢;by_cases B:z3.e=0
 case neg=>
  have hp:=aY.err r B;rw[dW B];have hb:(if ps=[] then z3 else z3)=z3:=by split<;>rfl
  rw[hb,aG B];exact sk 2 rfl (kp hp)
 have r:=aY.ok r B;refine sk 2 rfl (kc r ?_);refine az ?_;obtain⟨e3,hk6,heB⟩:=hne B;subst e3;have Y:=aGy gB hk6;have hLl:=gB.l;have hlt:=gB.lt;have hrow:=bG aJ gB.now;unfold rO at Y;unfold rO;rw[Y];have hLk:(L.map aJ).length=L.length:=χ _;by_cases U:ps=[]
 ·have hmn:=bB 12 (aX J).pl;have d:decide ((0:Int)<((ps.length:Nat):Int))=false:=by subst U;rfl
  rw[ξ U];unfold bY;rw[ξ B,aG (show ¬(12:Int)=0 by decide)];refine aA (aC mixed (akN 15 [] rfl ?_));rw[Nat.add_sub_cancel];refine ak 3 [(15,.row (L.length-J.R.length) (aJ (aX J)))] rfl ?_;rw[d];refine kpD (.tup []) [] hmn ?_;exact az trivial
 have hmo:=b7 12 (aX J).pl;have d:decide ((0:Int)<((ps.length:Nat):Int))=true:=φ (by have:=length_pos_iff.2 U;omega);rw[η U,aW B];unfold rO;rw[Y];refine aA (aC mixed (akN 15 [] rfl ?_));rw[Nat.add_sub_cancel];refine ak 3 [(15,.row (L.length-J.R.length) (aJ (aX J)))] rfl ?_;rw[d];refine kc hmo ?_;refine az (AWp.sub (Sub.freeze (id:=520) rfl) ?_);refine AWp.sub (Sub.freeze (id:=521) rfl) ?_;refine sg rfl ?_;unfold cD;rw[rA (aOg _ _ _)];exact aD (rtC trw (hc:=.agg (.c .refl (.c .refl (.c .refl (.c .refl (.hs rfl hke.symm (Go.AM.take_all hke.symm) (.hs rfl hpe.symm (Go.AM.take_all hpe.symm) (.c .nl (.c .nl (.c .nl (.c .nl (.c .refl (.c .refl (.c .refl (.c .nl (.c .nl .nil)))))))))))))))))
end
theorem rL {ex:Nat→Z→Ex×Z}{deep:Nat}{a:Int}{f:Nat}{e:Ex}{z:Z}(h:¬z.e=0):jZ ex deep a f e z=(e,z):=by
 cases f with
 | zero=>rfl
 | succ f=>rw[jZ,η h]
theorem wI {a:Int}{e:Ex}{z:Z}(h:¬z.e=0):aBm a (e,z)=(e,z):=by
 unfold aBm;dsimp only;rw[j5 h,η π]
section
variable {L:List Tk}{ex:Nat→Z→Ex×Z}{N:Nat}(hO:ExO L ex) (hB:rT ex) (hS:aJs L ex N) (hZ:mT L) (hNm:aF0 L) (hwt:wt L≤30000)
include hO hB hS hZ hNm hwt
theorem aOx (deep:Nat) {z:Z}(h:ZA L z) (he:z.e=0) (hN:z.R.length≤N+1) (hd:deep≤41):aY Tryz.prog 187 [rP,I .i64 (deep:Nat)] [(600,rO L z)] (eF L (.pa (cD (aFx ex deep z).1)) (aFx ex deep z).2 []):=by
 have hn:=cT h;unfold aFx;rw[η (fun k=>k he)];refine kT (n:=77) tok Tryz.func187 rfl rfl rfl rfl ?_;refine sg rfl (sk 3 rfl (kc hn ?_));refine kz 2 rfl ?_;by_cases hd40:40<deep
 ·have d:decide (((deep:Nat):Int)≤40)=false:=ψ (by omega);have hmn:=bB 13 (aX z).pl;rw[ξ hd40];unfold bY;rw[ξ he,aG (show ¬(13:Int)=0 by decide)];refine sk 4 rfl ?_;rw[d];exact kp hmn
 have d:decide (((deep:Nat):Int)≤40)=true:=φ (by omega);have hmo:=b7 13 (aX z).pl;rw[η hd40];refine sk 4 rfl ?_;rw[d];refine kc hmo ?_;refine az ?_;have A:=dQ h he aFv;have B:=fP (s:=aFv) h;have E:=h.may aFv;have J:= @mN aFv z;have M:=(fL aFv z).trans he;have r:=fun e=>aOt hB hS (aX z).pl deep E M (by have:=B e;omega) (by omega)
 generalize bV aFv z=m at A B E J M r ⊢;obtain⟨b,z1⟩:=m;dsimp only at A B E J M r ⊢;refine aA (aF (sk 1 rfl (kc A ?_)));refine kz 1 rfl ?_;cases b with
 | true=>
  rw[ξ rfl];have r:=r rfl;generalize aDf ex (aX z).pl deep z1=y at r ⊢;obtain⟨e,z2⟩:=y;dsimp only at r ⊢;refine aB rfl (fun _=>?_) (fun hb=>Bool.noConfusion hb);by_cases O:z2.e=0
  case neg=>
   have hp:=aY.err r O;rw[aG O];exact sk 4 rfl (kp hp)
  have r:=aY.ok r O;rw[aW O];refine sk 4 rfl (kc r ?_);exact kz 1 rfl (aD (rtC trw))
 | false=>
 obtain rfl:=J rfl;rw[η π];clear A B E r J M;refine aB rfl (fun hb=>Bool.noConfusion hb) (fun _=>?_);have A:=dQ h he aFt;have B:=fP (s:=aFt) h;have E:=h.may aFt;have J:= @mN aFt z1;have M:=(fL aFt z1).trans he;have r:=fun e=>aOr hB hS hZ hwt hO (aX z1).pl deep E M (by have:=B e;omega) (by omega)
 generalize bV aFt z1=m at A B E J M r ⊢;obtain⟨b,z2⟩:=m;dsimp only at A B E J M r ⊢;refine sk 1 rfl (kc A ?_);refine kz 1 rfl ?_;cases b with
 | true=>
  rw[ξ rfl];have r:=r rfl;generalize aDc ex (aX z1).pl deep z2=y at r ⊢;obtain⟨e,z3⟩:=y;dsimp only at r ⊢;refine aB rfl (fun _=>?_) (fun hb=>Bool.noConfusion hb);by_cases O:z3.e=0
  case neg=>
   have hp:=aY.err r O;rw[aG O];exact sk 4 rfl (kp hp)
  have r:=aY.ok r O;rw[aW O];refine sk 4 rfl (kc r ?_);exact kz 1 rfl (aD (rtC trw))
 | false=>
 obtain rfl:=J rfl;rw[η π];clear A B E r J M;refine aB rfl (fun hb=>Bool.noConfusion hb) (fun _=>?_);have A:=dQ h he oP;have B:=fP (s:=oP) h;have E:=h.may oP;have J:= @mN oP z2;have M:=(fL oP z2).trans he;have r:=fun e=>aLl hB hS hNm hO (aX z2).pl deep E M (by have:=B e;omega) (by omega)
 generalize bV oP z2=m at A B E J M r ⊢;obtain⟨b,z3⟩:=m;dsimp only at A B E J M r ⊢;refine sk 1 rfl (kc A ?_);refine kz 1 rfl ?_;cases b with
 | true=>
  rw[ξ rfl];have r:=r rfl;generalize l8 ex (aX z2).pl deep z3=y at r ⊢;obtain⟨e,z4⟩:=y;dsimp only at r ⊢;refine aB rfl (fun _=>?_) (fun hb=>Bool.noConfusion hb);by_cases O:z4.e=0
  case neg=>
   have hp:=aY.err r O;rw[aG O];exact sk 4 rfl (kp hp)
  have r:=aY.ok r O;rw[aW O];refine sk 4 rfl (kc r ?_);exact kz 1 rfl (aD (rtC trw))
 | false=>
 obtain rfl:=J rfl;rw[η π];clear A B E r J M;refine aB rfl (fun hb=>Bool.noConfusion hb) (fun _=>aE ?_);have U:=aEl hO hS deep h he hN (by omega);obtain⟨o1,_,o3,o4⟩:=nS hO deep h;have hlz:=h.lp;generalize hT:aX z3=t at hn ⊢;unfold kM;rw[hT];generalize mV ex deep z3=y at U o1 o3 o4 ⊢;obtain⟨⟨e0,b0⟩,z4⟩:=y;dsimp only at U o1 o3 o4 ⊢;have o4:z4.R.length≤z3.R.length:=o4;by_cases Y:z4.e=0
 case neg=>
  have hp:=aY.err U Y;rw[dW Y];have hb:(if b0=false then z4 else z4)=z4:=by split<;>rfl
  rw[hb,rL Y,wI Y,aG Y];exact sk 2 rfl (kp hp)
 have U:=aY.ok U Y;refine sk 2 rfl (kc U ?_);refine kz 6 rfl ?_;cases b0 with
 | false=>
  have hmn:=bB 12 t.pl;have h12:¬(12:Int)=0:=by decide
  rw[ξ rfl];unfold bY;rw[ξ Y,rL (show ¬(Z.mk z4.R 12 t.pl).e=0 from h12),wI (show ¬(Z.mk z4.R 12 t.pl).e=0 from h12),aG (show ¬(Z.mk z4.R 12 t.pl).e=0 from h12)];exact sk 3 rfl (kp hmn)
 | true=>
 have hmo:=b7 12 t.pl;have o3:=o3 rfl Y;rw[η (show ¬(true=false) from fun k=>Bool.noConfusion k)];refine sk 3 rfl (kc hmo ?_);refine az ?_;have hWx:∃W,W=jZ ex deep t.pl (z3.R.length+1) e0 z4:=⟨_,rfl⟩
 obtain⟨W,hW⟩:=hWx;rw[←hW];refine aA (aF (aM (fun q:Ex×Z×Nat=>mk [(0,rP),(1,I .i64 (deep:Nat)),(4,.one (.vp 4 0)),(5,.one (.vp 5 0)),(6,.one (.vp 6 0))] [(600,rO L q.2.1),(4,.var 61 (aRt.map .c)),(5,.var 139 ((aJ t).map .c)),(6,.var 61 ((cD q.1).map .c))]) (fun q=>ZA L q.2.1∧q.2.1.e=0∧q.2.1.R.length≤z3.R.length∧q.2.1.R.length<q.2.2∧W=jZ ex deep t.pl q.2.2 q.1 q.2.1) (fun q=>q.2.1.R.length+1) (e0,z4,z3.R.length+1) ⟨o1,Y,o4,by dsimp only;omega,hW⟩ sl ?_));clear hW U o1 o3 o4 Y;rintro⟨e,z6,f⟩ ⟨h6,he6,l6,hf,hW⟩;dsimp only at h6 he6 l6 hf hW ⊢;obtain⟨f,rfl⟩:∃g,f=g+1:=⟨f-1,by omega⟩
 rw[jZ,ξ he6] at hW;have U:=aEl hO hS deep h6 he6 (by omega) (by omega);obtain⟨o1,_,o3,o4⟩:=nS hO deep h6;generalize mV ex deep z6=y at U o1 o3 o4 hW;obtain⟨⟨a,b⟩,z7⟩:=y;dsimp only at U o1 o3 o4 hW;have o4:z7.R.length≤z6.R.length:=o4;by_cases he7:z7.e=0
 case neg=>
  have hp:=aY.err U he7;have hw:∃e,W=(e,z7):=by
   rw[rL he7] at hW;rw[hW];split<;>exact⟨_,rfl⟩
  obtain⟨e,hw⟩:=hw;rw[hw,wI he7,aG he7];exact aF (sk 2 rfl (kp hp))
 have U:=aY.ok U he7;refine aF (sk 2 rfl (kc U ?_));refine kz 6 rfl (aA (sg rfl ?_));cases b with
 | false=>
  rw[ξ rfl] at hW;refine aB rfl (fun _=>aL ?_) (fun hb=>Bool.noConfusion hb);subst hW;have hm:=dQ o1 he7 fV;have g2:=o1.may fV;have he8:=(fL fV z7).trans he7;unfold aBm;dsimp only;generalize bV fV z7=m at hm g2 he8 ⊢;obtain⟨b,z8⟩:=m;dsimp only at hm g2 he8 ⊢;refine aA (sk 1 rfl (kc hm ?_));refine az ?_;cases b with
  | true=>
   rw[ξ rfl];have hsc:=jC g2 he8 hZ hwt;generalize bN z8=y at hsc ⊢;obtain⟨s,z9⟩:=y;dsimp only at hsc ⊢;refine aB rfl (fun _=>?_) (fun hb=>Bool.noConfusion hb);by_cases he9:z9.e=0
   case neg=>
    have hp:=aY.err hsc he9;rw[aG he9];refine skh 5 [(3,.all)] rfl (kpD (.pa (kV mH)) [(600,rO L z8)] hp ?_);exact kz 2 rfl trivial
   have hsc:=aY.ok hsc he9;rw[aW he9];refine skh 5 [(3,.all)] rfl (kc hsc ?_);exact kz 2 rfl (aD (rtC trw))
  | false=>
   rw[η π];dsimp only;rw[aW he8];exact aB rfl (fun hb=>Bool.noConfusion hb) (fun _=>aE (sg rfl (aD (rtC trw))))
 | true=>
  rw[η (show ¬(true=false) from fun k=>Bool.noConfusion k)] at hW;have o3:=o3 rfl he7;refine aB rfl (fun hb=>Bool.noConfusion hb) (fun _=>aE (ag [(4,.all)] rfl ⟨(aP9 t.pl e a,z7,f),⟨o1,he7,by dsimp only;omega,by dsimp only;omega,hW⟩,by dsimp only;omega,Sub.trans ?_ (vp 6 (cD (aP9 t.pl e a)))⟩));exact sl
end
theorem aKx {L:List Tk}(hwt:wt L≤30000) (hZ:mT L) (hNm:aF0 L):∀f,aJs L (aI6 f) f
 | 0=>fun deep z h _ c _=>by have:=h.lp;omega
 | f+1=>fun deep z h he c q=>aOx (r5 hwt f) (r6 f) (aKx hwt hZ hNm f) hZ hNm hwt deep h he c q
def aAn (x:In) (bs:List Bd):List (Nat×AObj):=[(1,pR),(5,.var 95 [.c (.str x.cls),.c (.int .i64 x.pl),.c (.str x.con),.c (.sl 1 (x.vars.map bD)),.c (.sl 5 (x.preds.map aT)),.hs 511 0 bs.length bs.length]),(511,bdA bs 0)]
def ibS (ex:Nat→Z→Ex×Z) (s:List Bd) (z:Z):List Bd×Z:=(s++[(eE ex (aV 1 z).1 0 (aV 1 z).2).1],(eE ex (aV 1 z).1 0 (aV 1 z).2).2)
theorem o5 (ex:Nat→Z→Ex×Z):∀(f n:Nat) (s:List Bd) (z:Z),eD ex f n s z=lpZ bE (ibS ex) f n s z
 | 0,_,_,_=>rfl
 | f+1,n,s,z=>by
  rw[eD,lpZ];split
  ·exact o5 ex f _ _ _
  ·rfl
theorem lI {a:Int}:∀{l:List Prd}{z:Z},¬z.e=0→fQ a l z=z
 | [],z,_=>rfl
 | p::l,z,h=>by rw[fQ,η (fun k=>h k.1)];exact lI h
theorem gK {b:Bool}{z:Z}(h:¬z.e=0):(instV b z).2=z:=by
 unfold instV;split
 ·rw[j4 h];exact b5 h
 ·rfl
theorem lH {ex:Nat→Z→Ex×Z}{y:List Prd×Tk×Bool×Tk×Z}{w:List Str×Z}(h:¬w.2.e=0):aR bE (aDj ex (tD y w)).2=w.2:=by
 unfold tD aDj;rw[η h,lI h,b5 h,o5,eJ h];exact b5 h
theorem aIf {ex:Nat→Z→Ex×Z}(hB:rT ex) {c:Tk}{deep:Nat}{z:Z}(h:¬z.e=0):(eE ex c deep z).2=z:=by
 unfold eE lE;dsimp only;rw[j4 h,cX h,b5 h];exact hB _ _ h
def uQ:Prop:=∃(L:List Tk) (z z2:Z) (t:Tk) (b:Bd),b9 Tryz.prog 148 [rP,tkV t,I .i64 0] [(600,rO L z)] (.pa (bH b)) [(600,rO L z2)]
theorem aLd (x:In) {step:(List Bd)→Z→(List Bd)×Z}{Inv:Nat→(List Bd)→Prop}{L:List Tk}{N:Nat}
  (hone:∀n s z,Inv n s→n<60→ZA L z→z.e=0→z.R.length≤N→aY Tryz.prog 147 ([]++[R.vp 5 0,R.vp 1 0].map V.one) ((600,rO L z)::aAn x s) (eF L (.tup []) (step s z).2 (aAn x (step s z).1)))
  (hst:∀n s z,Inv n s→n<60→ZA L z→z.e=0→ZA L (step s z).2∧Inv (n+1) (step s z).1∧((step s z).2.e=0→(step s z).2.R.length<z.R.length)∧Ze z (step s z).2)
  {z:Z} (h:ZA L z) (he:z.e=0) (hN:z.R.length≤N) {s:(List Bd)} (hI:Inv 0 s):
  aY Tryz.prog 83 [rP,.one (.clo 184 [R.vp 2 0]),.one (.clo 147 [R.vp 5 0,R.vp 1 0])] ((600,rO L z)::(2,pR)::aAn x s) (eF L (.tup []) (lpZ bE step (z.R.length+1) 0 s z).2 ((2,pR)::aAn x (lpZ bE step (z.R.length+1) 0 s z).1)):=by
 have c:∃W,W=lpZ bE step (z.R.length+1) 0 s z:=⟨_,rfl⟩
 obtain⟨W,c⟩:=c;rw[←c];refine kT (n:=35) tok Tryz.func83 rfl rfl rfl rfl ?_;refine sg rfl (aF (aM (fun q:Nat×(List Bd)×Z×Nat=>mk [(0,rP),(1,.one (.clo 184 [R.vp 2 0])),(2,.one (.clo 147 [R.vp 5 0,R.vp 1 0])),(6,I .i64 (q.1:Nat))] ((600,rO L q.2.2.1)::(2,pR)::aAn x q.2.1)) (fun q=>Inv q.1 q.2.1∧q.1≤60∧ZA L q.2.2.1∧q.2.2.1.e=0∧q.2.2.1.R.length≤N∧q.2.2.1.R.length<q.2.2.2∧moreA bE q.1 q.2.2.1=q.2.2.1∧W=lpZ bE step q.2.2.2 q.1 q.2.1 q.2.2.1) (fun q=>q.2.2.1.R.length) (0,s,z,z.R.length+1) ⟨hI,Ae _,h,he,hN,lt_succ_self _,nV _ _,c⟩ sl ?_));clear c h he hN hI;rintro⟨n,s,z,f⟩ ⟨hI,hn,h,he,hN,hf,hA,c⟩;dsimp only at hI hn h he hN hf hA c;refine aF (aA (aF (aM (fun y:Z=>mk [(0,rP),(1,.one (.clo 184 [R.vp 2 0])),(2,.one (.clo 147 [R.vp 5 0,R.vp 1 0])),(6,I .i64 (n:Nat))] ((600,rO L y)::(2,pR)::aAn x s)) (fun y=>ZA L y∧y.e=0∧cU z=cU y∧y.R.length≤z.R.length) (fun y=>y.R.length) z ⟨h,he,rfl,le_refl _⟩ sl ?_)));rintro y ⟨h2,A,e2,hle2⟩

 have hm:=dQ h2 A cA;obtain⟨m1,m2,m3⟩:=kP h2;have M:=h2.may cA;have he3:=(fL cA y).trans A;generalize bV cA y=m at hm m1 m2 m3 M he3;obtain⟨b,z3⟩:=m;dsimp only at m1 m2 m3 M he3;refine aA (sk 1 rfl (kc hm ?_));refine az (aB rfl (fun hb=>?_) (fun hb=>?_))
 ·have hb:b=true:=hb;have:=m3 hb;exact aE (aF (aE ⟨z3,⟨M,he3,e2.trans m1.symm,by omega⟩,m3 hb,sl⟩))
 have hb:b=false:=hb;obtain⟨g1,g2⟩:=m2 hb;subst g1;have e3:cU z=z3:=e2.trans g2;clear m1 m2 m3 M e2 hm;have hf0:∃g,f=g+1:=⟨f-1,by omega⟩
 obtain⟨f,rfl⟩:=hf0;rw[lpZ] at c;unfold bI at c;rw[hA,e3] at c;have hs3:=mS h2;have hn3:=cT h2;refine aL (aA (sk 1 rfl (kv (args:=[]) hs3 ?_)));refine az (aB rfl (fun hb=>?_) (fun hb=>?_))
 ·have hb:cY bE z3=true:=hb;rw[ξ (show ¬z3.e=0∨cY bE z3=true from .inr hb)] at c;rw[η π] at c;rw[c,aW A];exact aD rtN
 have hb:cY bE z3=false:=hb;have hnb:¬(¬z3.e=0∨cY bE z3=true):=fun k=>k.elim (fun k=>k A) fun k=>by rw[hb] at k;cases k
 rw[η hnb] at c;refine aE ?_;by_cases hn60:n<60
 case neg=>
  have d:decide (((n:Nat):Int)<60)=false:=ψ (by omega);rw[eC (by omega) A] at c;dsimp only at c;rw[ψ c0,η π] at c;rw[c,aG c0];have hmn:=bB 2 (aX z3).pl;refine sk 5 rfl (kc hn3 ?_);refine ak 1 [] rfl ?_;rw[d];exact kp hmn
 have d:decide (((n:Nat):Int)<60)=true:=φ (by omega);rw[eB (by omega),φ A,ξ rfl] at c;have hmo:=b7 2 (aX z3).pl;refine sk 5 rfl (kc hn3 ?_);refine ak 1 [] rfl ?_;rw[d];refine kc hmo ?_;refine az ?_;have ho:=hone n s z3 hI hn60 h2 A (by omega);obtain⟨B,k2,k3,_⟩:=hst n s z3 hI hn60 h2 A;generalize step s z3=y at ho B k2 k3 c;obtain⟨s4,z4⟩:=y;dsimp only at ho B k2 k3 c;by_cases r:z4.e=0
 case neg=>
  have hp:=aY.err ho r;rw[eJ r] at c;rw[c,aG r];exact sk 1 rfl (kpv (args:=[]) hp)
 have ho:=aY.ok ho r;have k3:=k3 r;refine sk 1 rfl (kv (args:=[]) ho ?_);refine az (aA (agN [] rfl ?_));have hlp:=B.lp;have E:=jO B cA;have hn4:=cT B;have O:=mS B;have hmo4:=b7 12 (aX z4).pl;cases U:isZ cA z4 with
 | true=>
  rw[U] at E;have J:moreA bE (n+1) z4=z4:=η fun k=>by rw[U] at k;cases k.2.2.1
  refine aC mixed (ak 1 [] rfl (kc E ?_));refine ak 7 [(2,.bv true),(5,.bv true)] rfl (kc hn4 ?_);refine ak 1 [(2,.bv true),(5,.bv true)] rfl (kc hmo4 ?_);exact az ⟨(n+1,s4,z4,f),⟨k2,by omega,B,r,by dsimp only;omega,by dsimp only;omega,J,c⟩,by dsimp only;omega,sl⟩
 | false=>
  rw[U] at E;cases Y:cY bE z4 with
  | true=>
   rw[Y] at O;have J:moreA bE (n+1) z4=z4:=η fun k=>by rw[Y] at k;cases k.2.2.2
   refine aC mixed (ak 1 [] rfl (kc E ?_));refine ak 2 [(2,.bv false)] rfl (kvG (args:=[]) O ?_);refine ak 4 [(2,.bv false),(5,.bv false)] rfl (kc hn4 ?_);refine ak 1 [(2,.bv false),(5,.bv false)] rfl (kc hmo4 ?_);exact az ⟨(n+1,s4,z4,f),⟨k2,by omega,B,r,by dsimp only;omega,by dsimp only;omega,J,c⟩,by dsimp only;omega,sl⟩
  | false=>
   rw[Y] at O;have hmn4:=bB 12 (aX z4).pl;have J:moreA bE (n+1) z4=⟨z4.R,12,(aX z4).pl⟩:=(ξ ⟨succ_pos n,r,U,Y⟩).trans (ξ r);have h12:¬(12:Int)=0:=by decide
   have hWb:W.2=⟨z4.R,12,(aX z4).pl⟩:=by
    obtain⟨f,rfl⟩:∃g,f=g+1:=⟨f-1,by omega⟩
    rw[lpZ] at c;unfold bI at c;rw[J,jF h12,ξ (show ¬(Z.mk z4.R 12 (aX z4).pl).e=0∨_ from .inl h12),η π] at c;rw[c]
   rw[hWb,aG h12];refine aC mixed (ak 1 [] rfl (kc E ?_));refine ak 2 [(2,.bv false)] rfl (kvG (args:=[]) O ?_);refine ak 4 [(2,.bv false),(5,.bv false)] rfl (kc hn4 ?_);refine ak 1 [(2,.bv false),(5,.bv false)] rfl (kpD (.tup []) [] hmn4 ?_);exact az trivial
theorem aH2 (x:In) {step:(List Bd)→Z→(List Bd)×Z}{Inv:Nat→(List Bd)→Prop}{L:List Tk}{N:Nat}
  (I:∀n s z,Inv n s→n<60→ZA L z→z.e=0→z.R.length≤N→aY Tryz.prog 147 ([]++[R.vp 5 0,R.vp 1 0].map V.one) ((600,rO L z)::aAn x s) (eF L (.tup []) (step s z).2 (aAn x (step s z).1)))
  (E:∀n s z,Inv n s→n<60→ZA L z→z.e=0→ZA L (step s z).2∧Inv (n+1) (step s z).1∧((step s z).2.e=0→(step s z).2.R.length<z.R.length)∧Ze z (step s z).2)
  {z:Z} (h:ZA L z) (he:z.e=0) (U:z.R.length≤N) {s:(List Bd)} (J:Inv 0 s):
  aY Tryz.prog 142 [rP,.one (.clo 147 [R.vp 5 0,R.vp 1 0])] ((600,rO L z)::aAn x s) (eF L (.tup []) (rW step s z).2 (aAn x (rW step s z).1)):=by
 have c:=cE h he dZ;have h1:=h.need dZ;have M:=Ze.need dZ z;unfold rW;generalize aR dZ z=B at c h1 M ⊢;have O:B.R.length≤z.R.length:=M;refine kT (n:=12) tok Tryz.func142 rfl rfl rfl rfl ?_;refine sg rfl ?_;by_cases q:B.e=0
 case neg=>
  have hp:=aY.err c q;rw[eJ q];dsimp only;rw[b5 q,aG q];exact sk 1 rfl (kp hp)
 have c:=aY.ok c q;refine sk 1 rfl (kc c ?_);refine az ?_;have r:=aLd x (step:=step) (Inv:=Inv) (L:=L) (N:=N) I E h1 q (by omega) J;have hok:=(qZ (sh:=bE) E (B.R.length+1) 0 s B (Ae _) J h1).1
 generalize lpZ bE step (B.R.length+1) 0 s B=W at r hok ⊢;obtain⟨s2,z2⟩:=W;dsimp only at r hok ⊢;by_cases y:z2.e=0
 case neg=>
  have hp:=aY.err r y;rw[b5 y,aG y];exact sk 3 rfl (kp hp)
 have r:=aY.ok r y;refine sk 3 rfl (kc r ?_);refine az ?_;have c:=cE hok y bE;generalize aR bE z2=z3 at c ⊢;by_cases A:z3.e=0
 case neg=>
  have hp:=aY.err c A;rw[aG A];exact aC mixed (ak 1 [] rfl (kp hp))
 have c:=aY.ok c A;rw[aW A];refine aC mixed (ak 1 [] rfl (kc c ?_));exact az rtN
section
variable {L:List Tk}{ex:Nat→Z→Ex×Z}{N:Nat}(hB:rT ex) (hS:aJs L ex N) (hX:uQ)
include hB hS hX
theorem aLi (x:In) (c:List Bd) {z:Z}(h:ZA L z) (he:z.e=0) (hN:z.R.length≤N) (h2:c.length≤4001):
  aY Tryz.prog 147 ([]++[R.vp 5 0,R.vp 1 0].map V.one) ((600,rO L z)::aAn x c) (eF L (.tup []) (ibS ex c z).2 (aAn x (ibS ex c z).1)):=by
 have E:(c.map bH).length=c.length:=χ _;have hz0:(c.map bH++[bH zBd])[c.length]?=some (bH zBd):=by rw[A4 (by omega),E,B4];rfl
 have hw:=fH h he 1 (by decide);have g1:=h.word (k:=1) (by decide);have M:(aV 1 z).2.R.length≤z.R.length:=Ze.word 1 z;unfold ibS;generalize aV 1 z=w at hw g1 M ⊢;obtain⟨O,J⟩:=w;dsimp only at hw g1 M ⊢;refine kT (n:=13) tok Tryz.func147 rfl rfl rfl rfl ?_;by_cases r:J.e=0
 case neg=>
  have hp:=aY.err hw r;obtain⟨L',Y,z2',t',b',U⟩:=hX;rw[aIf hB r,aG r];refine aC mixed (ak 4 [] rfl (kpD (tkV t') [(600,rO L' Y)] hp ?_));refine kc U ?_;exact ak 7 [(7,.all),(10,.row c.length (bH zBd))] rfl (az trivial)
 have hw:=aY.ok hw r;have q:=rI hB hS O 0 g1 r (by omega) (by omega);generalize eE ex O 0 J=y at q ⊢;obtain⟨I,z3⟩:=y;dsimp only at q ⊢;by_cases A:z3.e=0
 case neg=>
  have hp:=aY.err q A;rw[aG A];refine aC mixed (ak 4 [] rfl (kc hw ?_));refine kpD (.pa (bH zBd)) [(600,rO L J)] hp ?_;exact ak 7 [(7,.all),(10,.row c.length (bH zBd))] rfl (az trivial)
 have q:=aY.ok q A;rw[aW A];have B:(c.map bH++[bH zBd]).set c.length (bH I)=(c++[I]).map bH:=by
  rw[set_append_right _ _ (by omega),E,B4,Am];rfl
 have hle:(c++[I]).length=c.length+1:=by rw[ζ];rfl
 refine aC mixed (ak 4 [] rfl (kc hw ?_));refine kc q ?_;refine ak 7 [(7,.all),(10,.row c.length (bH zBd))] rfl (az ?_);generalize hSe:c++[I]=S at B hle ⊢;exact rtN (ho:=⟨⟨_,rfl,.var rfl⟩,⟨_,rfl,.var rfl⟩,⟨_,rfl,.var (by rw[hle,←E];rfl)⟩,⟨_,rfl,.arrS B⟩,trivial⟩)
theorem aLh (hO:ExO L ex) (hZ:mT L) (hwt:wt L≤30000) {z:Z}(h:ZA L z) (he:z.e=0) (hN:z.R.length≤N):aY Tryz.prog 89 [rP] [(600,rO L z)] (eF L (.pa (r9 (nZ ex z).1)) (nZ ex z).2 []):=by
 unfold nZ;have hV:∀b y,instV b y=if b=true then((b8 y).1.map (·.text),aR pD (b8 y).2) else([],y):=fun _ _=>rfl
 have hBy:∀y w,tD y w=aR dZ (fQ y.2.1.pl y.1 (if w.2.e=0 then cN w.1.length 8 y.2.1.pl w.2 else w.2)):=fun _ _=>rfl
 have hA:fM z=((bL z).1,(aV 2 (bL z).2).1,(bV cM (aV 2 (bL z).2).2).1,(aV 2 (bV cM (aV 2 (bL z).2).2).2).1,(aV 2 (bV cM (aV 2 (bL z).2).2).2).2):=rfl;rw[hA];have hp:=tZ h he hZ;obtain⟨h1,hpl,l1⟩:=kK h hwt;generalize bL z=y at hp h1 hpl l1 ⊢;obtain⟨ps,z1⟩:=y;dsimp only at hp h1 hpl l1 ⊢;refine kT (n:=59) tok Tryz.func89 rfl rfl rfl rfl ?_;refine sg rfl ?_;by_cases B:z1.e=0
 case neg=>
  have hp:=aY.err hp B;rw[jE B,j5 B];dsimp only;rw[jE B,lH (by rw[gK B];exact B),gK B,aG B];exact sk 1 rfl (kp hp)
 have hp:=aY.ok hp B;refine sk 1 rfl (kc hp ?_);refine kz 1 rfl ?_;have hw:=fH h1 B 2 (by decide);have h2:=h1.word (k:=2) (by decide);have l2:=l1.trans (Ze.word 2 z1);generalize aV 2 z1=y at hw h2 l2 ⊢;obtain⟨A,z2⟩:=y;dsimp only at hw h2 l2 ⊢;by_cases E:z2.e=0
 case neg=>
  have hp:=aY.err hw E;rw[j5 E];dsimp only;rw[jE E,lH (by rw[gK E];exact E),gK E,aG E];exact sk 1 rfl (kp hp)
 have hw:=aY.ok hw E;refine sk 1 rfl (kc hw ?_);refine kz 2 rfl (sg rfl ?_);have hm:=dQ h2 E cM;have h3:=h2.may cM;have l3:=l2.trans (Ze.may cM z2);have he3:=(fL cM z2).trans E;generalize bV cM z2=y at hm h3 l3 he3 ⊢;obtain⟨br,z3⟩:=y;dsimp only at hm h3 l3 he3 ⊢;have U:=fH h3 he3 2 (by decide);have h4:=h3.word (k:=2) (by decide);have l4:=l3.trans (Ze.word 2 z3);generalize aV 2 z3=y at U h4 l4 ⊢;obtain⟨cn,z4⟩:=y;dsimp only at U h4 l4 ⊢;by_cases r:z4.e=0
 case neg=>
  have hp:=aY.err U r;rw[lH (by rw[gK r];exact r),gK r,aG r];refine aA (sk 1 rfl (kc hm ?_));refine az ?_;cases br with
  | true=>
   exact aB rfl (fun _=>sk 1 rfl (kp hp)) (fun hb=>Bool.noConfusion hb)
  | false=>
   exact aB rfl (fun hb=>Bool.noConfusion hb) (fun _=>aC mixed (ak 1 [] rfl (kp hp)))
 have U:=aY.ok U r;obtain⟨h5,hvl,l5⟩:=xZ br h4;have q:=hV br z4;generalize instV br z4=y at h5 hvl l5 q ⊢;obtain⟨vs,z5⟩:=y;dsimp only at h5 hvl l5 ⊢;by_cases J:z5.e=0
 case neg=>
  rw[lH J];dsimp only;rw[aG J];refine aA (sk 1 rfl (kc hm ?_));refine az ?_;cases br with
  | false=>
   rw[η π] at q;obtain⟨rfl,rfl⟩:=Prod.mk.inj q;exact absurd r J
  | true=>
   rw[ξ rfl] at q;have Y:=l9 h4 r;have g1:=h4.words;have aa:=dR h4;have ab:(b8 z4).2.e=0:=by unfold b8;rw[ξ r];exact r
   generalize b8 z4=y at Y g1 aa q ab;obtain⟨l,z45⟩:=y;dsimp only at Y g1 aa q ab;have htx:=rF l aa;have hnd:=cE g1 ab pD;obtain⟨rfl,rfl⟩:=Prod.mk.inj q;have hp:=aY.err hnd J;refine aB rfl (fun _=>sk 1 rfl (kc U ?_)) (fun hb=>Bool.noConfusion hb);refine kz 3 rfl (sk 1 rfl (kc Y ?_));refine kc htx ?_;exact kz 2 rfl (aC mixed (ak 1 [] rfl (kp hp)))
 have hvk:(vs.map bD).length=vs.length:=χ _;have hpk:(ps.map aT).length=ps.length:=χ _;refine aA (AWp.cut (mk [(1,.one (.vp 1 0)),(2,.one (.vp 2 0)),(3,.one (.c (.sl 5 (ps.map aT)))),(4,.one (.vp 4 0)),(5,.one (.vp 5 0))] [(600,rO L z5),(1,pR),(2,.var 95 (aRl.map .c)),(4,.var 139 ((aJ A).map .c)),(5,.var 95 [.c (.str A.text),.c (.int .i64 A.pl),.c (.str cn.text),.c (.sl 1 (vs.map bD)),.c (.sl 5 (ps.map aT)),.c .nl])]) ?_ ?_)
 ·refine sk 1 rfl (kc hm ?_);refine az ?_;cases br with
  | true=>
   rw[ξ rfl] at q;have Y:=l9 h4 r;have g1:=h4.words;have aa:=dR h4;have ab:(b8 z4).2.e=0:=by unfold b8;rw[ξ r];exact r
   generalize b8 z4=y at Y g1 aa q ab;obtain⟨l,z45⟩:=y;dsimp only at Y g1 aa q ab;have htx:=rF l aa;have hnd:=cE g1 ab pD;obtain⟨rfl,rfl⟩:=Prod.mk.inj q;have hnd:=aY.ok hnd J;refine aB rfl (fun _=>sk 1 rfl (kc U ?_)) (fun hb=>Bool.noConfusion hb);refine kz 3 rfl (sk 1 rfl (kc Y ?_));refine kc htx ?_;refine kz 2 rfl (aC mixed (ak 1 [] rfl (kc hnd ?_)));exact az sl
  | false=>
   rw[η π] at q;obtain⟨rfl,rfl⟩:=Prod.mk.inj q;refine aB rfl (fun hb=>Bool.noConfusion hb) (fun _=>aC mixed (ak 1 [] rfl (kc U ?_)));refine kz 3 rfl (Sub.trans ?_ (vp 5 [.str A.text,.int .i64 A.pl,.str cn.text,.sl 1 [],.sl 5 (ps.map aT),.nl]));exact sl
 have hBz:=hBy (ps,A,br,cn,z4) (vs,z5);dsimp only at hBz;rw[ξ J] at hBz;rw[hBz];have hC:∀y,aDj ex y=lpZ bE (ibS ex) (y.R.length+1) 0 [] y:=fun y=>o5 ex _ _ _ _
 rw[hC];clear hBz hC hV hBy hA hm hw U hp q;by_cases hv8:vs.length≤8
 case neg=>
  have d:decide (((vs.length:Nat):Int)≤8)=false:=ψ (by omega);have hm:=bB 2 A.pl;rw[eC hv8 J,lI c0,b5 c0,eJ c0];dsimp only;rw[b5 c0,aG c0];refine sk 6 rfl ?_;rw[hvk,d];exact kp hm
 have d:decide (((vs.length:Nat):Int)≤8)=true:=φ (by omega);have hm:=b7 2 A.pl;rw[eB hv8];refine sk 6 rfl ?_;rw[hvk,d];refine kc hm ?_;refine az ?_;have O:∃F,F=fQ A.pl ps z5:=⟨_,rfl⟩
 obtain⟨F,O⟩:=O;rw[←O];refine aA (sg rfl (aF (aM (fun i:Nat=>mk [(1,.one (.vp 1 0)),(2,.one (.vp 2 0)),(4,.one (.vp 4 0)),(5,.one (.vp 5 0)),(41,.one (.c (.sl 5 (ps.map aT)))),(42,I .i64 ((ps.map aT).length:Nat)),(43,I .i64 (i:Nat))] [(600,rO L z5),(1,pR),(2,.var 95 (aRl.map .c)),(4,.var 139 ((aJ A).map .c)),(5,.var 95 [.c (.str A.text),.c (.int .i64 A.pl),.c (.str cn.text),.c (.sl 1 (vs.map bD)),.c (.sl 5 (ps.map aT)),.c .nl])]) (fun i=>i≤ps.length∧F=fQ A.pl (ps.drop i) z5) (fun i=>ps.length-i) 0 ⟨Ae _,O⟩ sl ?_)));clear O;rintro i ⟨hi,O⟩;refine sg rfl (aA (aB rfl (fun hb=>?_) (fun hb=>?_)))
 ·have hlt:=ltD hb hpk;obtain⟨p,hpi⟩:=aP hlt;have hpi':=bG aT hpi;have hds:ps.drop i=p::ps.drop (i+1):=by
   obtain⟨k1,k2⟩:=Ad.1 hpi;rw[←k2];exact A8 k1
  rw[hds,fQ] at O;refine aE (aA (aF (sgh [(0,.row i (aT p))] rfl ?_)));by_cases hf2:p.ty.form=2
  case neg=>
   have d:decide (p.ty.form=2)=false:=ψ hf2;have hmn:=bB 12 A.pl;have h12:¬(12:Int)=0:=by decide
   rw[ξ ⟨J,hf2⟩] at O;unfold bY at O;rw[ξ J,lI h12] at O;subst O;rw[b5 h12,eJ h12];dsimp only;rw[b5 h12,aG h12];refine aC mixed (ak 6 [] rfl ?_);rw[d];exact kp hmn
  have d:decide (p.ty.form=2)=true:=φ hf2;have hmo:=b7 12 A.pl;rw[η (fun k=>k.2 hf2)] at O;refine aC mixed (ak 6 [] rfl ?_);rw[d];refine kc hmo ?_;exact az (agN [] rfl ⟨i+1,⟨hlt,O⟩,by dsimp only;omega,sl⟩)
 have hge:=geD hb hpk hi;subst hge;rw[Ck,fQ] at O;subst O;refine aL (AWp.sub (Sub.ownCell (x:=5) (k:=5) (id:=511) 99 33 rfl rfl rfl) ?_);have hst:∀(n:Nat) (s:List Bd) (z:Z),(dV s∧s.length=n)→n<60→ZA L z→z.e=0→ZA L (ibS ex s z).2∧(dV (ibS ex s z).1∧(ibS ex s z).1.length=n+1)∧((ibS ex s z).2.e=0→(ibS ex s z).2.R.length<z.R.length)∧Ze z (ibS ex s z).2:=fun n s z hI hn h he=>by
  have g1:=h.word (k:=1) (by decide);obtain⟨k1,k2,k3,k4⟩:=rK hO (aV 1 z).1 0 g1;have l1:(aV 1 z).2.R.length≤z.R.length:=Ze.word 1 z;unfold ibS;exact⟨k1,⟨lF hI.1 k2,by dsimp only;rw[ζ,hI.2];rfl⟩,fun h0=>by have:=k3 h0;dsimp only;omega,(Ze.word 1 z).trans k4⟩
 have hI0:dV ([]:List Bd)∧([]:List Bd).length=0:=⟨trivial,rfl⟩
 have l5N:F.R.length≤N:=le_trans (l4.trans l5) hN;have M:=aH2 ⟨A.text,A.pl,cn.text,vs,ps,[]⟩ (step:=ibS ex) (Inv:=fun n s=>dV s∧s.length=n) (L:=L) (N:=N) (fun n s z hI hn h he hN=>aLi hB hS hX _ s h he hN (by have:=hI.2;omega)) hst h5 J l5N (s:=[]) hI0;have hok:=qZ (sh:=bE) (Inv:=fun n (s:List Bd)=>dV s∧s.length=n) hst ((aR dZ F).R.length+1) 0 [] (aR dZ F) (Ae _) hI0 (h5.need dZ);unfold rW aAn at M;dsimp only at M;generalize aR dZ F=z7 at M hok ⊢;generalize lpZ bE (ibS ex) (z7.R.length+1) 0 [] z7=W at M hok ⊢;obtain⟨bs,zB⟩:=W;dsimp only at M hok ⊢;have hbk:(bs.map bH).length=bs.length:=χ _;generalize aR bE zB=z8 at M ⊢;by_cases he8:z8.e=0
 case neg=>
  have hp:=aY.err M he8;rw[aG he8];exact sk 2 rfl (kp hp)
 have M:=aY.ok M he8;rw[aW he8];refine sk 2 rfl (kc M ?_);refine az (AWp.sub (Sub.freeze (id:=511) rfl) ?_);exact sg rfl (aD (rtC trw (hc:=.agg (.c .refl (.c .refl (.c .refl (.c .refl (.c .refl (.hs rfl hbk.symm (Go.AM.take_all hbk.symm) .nil)))))))))
end
def oN (ex:Nat→Z→Ex×Z) (s:Pg×List Sg) (z:Z):(Pg×List Sg)×Z:=iI ex s.1 s.2 z
theorem aCt (ex:Nat→Z→Ex×Z):∀(f n:Nat) (p:Pg) (sigs:List Sg) (z:Z),kH ex f n p sigs z=lpZ [] (oN ex) f n (p,sigs) z
 | 0,_,_,_,_=>rfl
 | f+1,n,p,sigs,z=>by
  rw[kH,lpZ];split
  ·exact aCt ex f _ _ _ _
  ·rfl
theorem aJf {L:List Tk}{z:Z}(h:ZA L z):b9 Tryz.prog 84 ([]++[R.vp 1 0].map V.one) [(600,rO L z),(1,pR)] (B (cY [] z)) [(600,rO L z),(1,pR)]:=by
 have hn:=cT h;have e:cY [] z=decide ((aX z).kind=6):=ξ rfl;rw[e];refine bM (n:=8) tok Tryz.func84 rfl rfl rfl ?_;refine sg rfl (sk 3 rfl (kc hn ?_));exact kz 3 rfl (aD rtT)
def aL7 (L:List Tk) (N:Nat):Prop:=∀z,ZA L z→z.e=0→z.R.length≤N→aY Tryz.prog 88 [rP] [(600,rO L z)] (eF L (.pa (oM (gF z).1)) (gF z).2 [])
theorem aLe {step:(Pg×List Sg)→Z→(Pg×List Sg)×Z}{Inv:Nat→(Pg×List Sg)→Prop}{L:List Tk}{N:Nat}
  (hone:∀n s z,Inv n s→n<60→ZA L z→z.e=0→z.R.length≤N→aY Tryz.prog 85 ([]++[R.vp 1 0,R.vp 3 0,R.vp 4 0].map V.one) ((600,rO L z)::(1,pR)::aDn s.1 s.2) (eF L (.tup []) (step s z).2 ((1,pR)::aDn (step s z).1.1 (step s z).1.2)))
  (hst:∀n s z,Inv n s→n<60→ZA L z→z.e=0→ZA L (step s z).2∧Inv (n+1) (step s z).1∧((step s z).2.e=0→(step s z).2.R.length<z.R.length)∧Ze z (step s z).2)
  {z:Z} (h:ZA L z) (he:z.e=0) (hN:z.R.length≤N) {s:(Pg×List Sg)} (hI:Inv 0 s):
  aY Tryz.prog 83 [rP,.one (.clo 84 [R.vp 1 0]),.one (.clo 85 [R.vp 1 0,R.vp 3 0,R.vp 4 0])] ((600,rO L z)::(1,pR)::aDn s.1 s.2) (eF L (.tup []) (lpZ [] step (z.R.length+1) 0 s z).2 ((1,pR)::aDn (lpZ [] step (z.R.length+1) 0 s z).1.1 (lpZ [] step (z.R.length+1) 0 s z).1.2)):=by
 have c:∃W,W=lpZ [] step (z.R.length+1) 0 s z:=⟨_,rfl⟩
 obtain⟨W,c⟩:=c;rw[←c];refine kT (n:=35) tok Tryz.func83 rfl rfl rfl rfl ?_;refine sg rfl (aF (aM (fun q:Nat×(Pg×List Sg)×Z×Nat=>mk [(0,rP),(1,.one (.clo 84 [R.vp 1 0])),(2,.one (.clo 85 [R.vp 1 0,R.vp 3 0,R.vp 4 0])),(6,I .i64 (q.1:Nat))] ((600,rO L q.2.2.1)::(1,pR)::aDn q.2.1.1 q.2.1.2)) (fun q=>Inv q.1 q.2.1∧q.1≤60∧ZA L q.2.2.1∧q.2.2.1.e=0∧q.2.2.1.R.length≤N∧q.2.2.1.R.length<q.2.2.2∧moreA [] q.1 q.2.2.1=q.2.2.1∧W=lpZ [] step q.2.2.2 q.1 q.2.1 q.2.2.1) (fun q=>q.2.2.1.R.length) (0,s,z,z.R.length+1) ⟨hI,Ae _,h,he,hN,lt_succ_self _,nV _ _,c⟩ sl ?_));clear c h he hN hI;rintro⟨n,s,z,f⟩ ⟨hI,hn,h,he,hN,hf,hA,c⟩;dsimp only at hI hn h he hN hf hA c;refine aF (aA (aF (aM (fun y:Z=>mk [(0,rP),(1,.one (.clo 84 [R.vp 1 0])),(2,.one (.clo 85 [R.vp 1 0,R.vp 3 0,R.vp 4 0])),(6,I .i64 (n:Nat))] ((600,rO L y)::(1,pR)::aDn s.1 s.2)) (fun y=>ZA L y∧y.e=0∧cU z=cU y∧y.R.length≤z.R.length) (fun y=>y.R.length) z ⟨h,he,rfl,le_refl _⟩ sl ?_)));rintro y ⟨h2,A,e2,hle2⟩

 have hm:=dQ h2 A cA;obtain⟨m1,m2,m3⟩:=kP h2;have M:=h2.may cA;have he3:=(fL cA y).trans A;generalize bV cA y=m at hm m1 m2 m3 M he3;obtain⟨b,z3⟩:=m;dsimp only at m1 m2 m3 M he3;refine aA (sk 1 rfl (kc hm ?_));refine az (aB rfl (fun hb=>?_) (fun hb=>?_))
 ·have hb:b=true:=hb;have:=m3 hb;exact aE (aF (aE ⟨z3,⟨M,he3,e2.trans m1.symm,by omega⟩,m3 hb,sl⟩))
 have hb:b=false:=hb;obtain⟨g1,g2⟩:=m2 hb;subst g1;have e3:cU z=z3:=e2.trans g2;clear m1 m2 m3 M e2 hm;have hf0:∃g,f=g+1:=⟨f-1,by omega⟩
 obtain⟨f,rfl⟩:=hf0;rw[lpZ] at c;unfold bI at c;rw[hA,e3] at c;have hs3:=aJf h2;have hn3:=cT h2;refine aL (aA (sk 1 rfl (kv (args:=[]) hs3 ?_)));refine az (aB rfl (fun hb=>?_) (fun hb=>?_))
 ·have hb:cY [] z3=true:=hb;rw[ξ (show ¬z3.e=0∨cY [] z3=true from .inr hb)] at c;rw[η π] at c;rw[c,aW A];exact aD rtN
 have hb:cY [] z3=false:=hb;have hnb:¬(¬z3.e=0∨cY [] z3=true):=fun k=>k.elim (fun k=>k A) fun k=>by rw[hb] at k;cases k
 rw[η hnb] at c;refine aE ?_;by_cases hn60:n<60
 case neg=>
  have d:decide (((n:Nat):Int)<60)=false:=ψ (by omega);rw[eC (by omega) A] at c;dsimp only at c;rw[ψ c0,η π] at c;rw[c,aG c0];have hmn:=bB 2 (aX z3).pl;refine sk 5 rfl (kc hn3 ?_);refine ak 1 [] rfl ?_;rw[d];exact kp hmn
 have d:decide (((n:Nat):Int)<60)=true:=φ (by omega);rw[eB (by omega),φ A,ξ rfl] at c;have hmo:=b7 2 (aX z3).pl;refine sk 5 rfl (kc hn3 ?_);refine ak 1 [] rfl ?_;rw[d];refine kc hmo ?_;refine az ?_;have ho:=hone n s z3 hI hn60 h2 A (by omega);obtain⟨B,k2,k3,_⟩:=hst n s z3 hI hn60 h2 A;generalize step s z3=y at ho B k2 k3 c;obtain⟨s4,z4⟩:=y;dsimp only at ho B k2 k3 c;by_cases r:z4.e=0
 case neg=>
  have hp:=aY.err ho r;rw[eJ r] at c;rw[c,aG r];exact sk 1 rfl (kpv (args:=[]) hp)
 have ho:=aY.ok ho r;have k3:=k3 r;refine sk 1 rfl (kv (args:=[]) ho ?_);refine az (aA (agN [] rfl ?_));have hlp:=B.lp;have E:=jO B cA;have hn4:=cT B;have O:=aJf B;have hmo4:=b7 12 (aX z4).pl;cases U:isZ cA z4 with
 | true=>
  rw[U] at E;have J:moreA [] (n+1) z4=z4:=η fun k=>by rw[U] at k;cases k.2.2.1
  refine aC mixed (ak 1 [] rfl (kc E ?_));refine ak 7 [(2,.bv true),(5,.bv true)] rfl (kc hn4 ?_);refine ak 1 [(2,.bv true),(5,.bv true)] rfl (kc hmo4 ?_);exact az ⟨(n+1,s4,z4,f),⟨k2,by omega,B,r,by dsimp only;omega,by dsimp only;omega,J,c⟩,by dsimp only;omega,sl⟩
 | false=>
  rw[U] at E;cases Y:cY [] z4 with
  | true=>
   rw[Y] at O;have J:moreA [] (n+1) z4=z4:=η fun k=>by rw[Y] at k;cases k.2.2.2
   refine aC mixed (ak 1 [] rfl (kc E ?_));refine ak 2 [(2,.bv false)] rfl (kvG (args:=[]) O ?_);refine ak 4 [(2,.bv false),(5,.bv false)] rfl (kc hn4 ?_);refine ak 1 [(2,.bv false),(5,.bv false)] rfl (kc hmo4 ?_);exact az ⟨(n+1,s4,z4,f),⟨k2,by omega,B,r,by dsimp only;omega,by dsimp only;omega,J,c⟩,by dsimp only;omega,sl⟩
  | false=>
   rw[Y] at O;have hmn4:=bB 12 (aX z4).pl;have J:moreA [] (n+1) z4=⟨z4.R,12,(aX z4).pl⟩:=(ξ ⟨succ_pos n,r,U,Y⟩).trans (ξ r);have h12:¬(12:Int)=0:=by decide
   have hWb:W.2=⟨z4.R,12,(aX z4).pl⟩:=by
    obtain⟨f,rfl⟩:∃g,f=g+1:=⟨f-1,by omega⟩
    rw[lpZ] at c;unfold bI at c;rw[J,jF h12,ξ (show ¬(Z.mk z4.R 12 (aX z4).pl).e=0∨_ from .inl h12),η π] at c;rw[c]
   rw[hWb,aG h12];refine aC mixed (ak 1 [] rfl (kc E ?_));refine ak 2 [(2,.bv false)] rfl (kvG (args:=[]) O ?_);refine ak 4 [(2,.bv false),(5,.bv false)] rfl (kc hn4 ?_);refine ak 1 [(2,.bv false),(5,.bv false)] rfl (kpD (.tup []) [] hmn4 ?_);exact az trivial
section
variable {L:List Tk}{ex:Nat→Z→Ex×Z}{N:Nat}(hB:rT ex) (hS:aJs L ex N) (hX:uQ) (hO:ExO L ex) (hZ:mT L) (hwt:wt L≤30000) (hC:aL7 L N)
include hB hS hX hO hZ hwt hC
theorem aOm (n:Nat) (p:Pg) (sigs:List Sg) {z:Z}(h:ZA L z) (he:z.e=0) (U:z.R.length≤N) (hn:n<60) (hp:PgOk n p) (hs:eT sigs∧sigs.length≤n):
  aY Tryz.prog 85 ([]++[R.vp 1 0,R.vp 3 0,R.vp 4 0].map V.one) ((600,rO L z)::(1,pR)::aDn p sigs) (eF L (.tup []) (iI ex p sigs z).2 ((1,pR)::aDn (iI ex p sigs z).1.1 (iI ex p sigs z).1.2)):=by
 obtain⟨Y,aa,ab,I⟩:=hp;have J:(p.datas.map rC).length=p.datas.length:=χ _;have M:(p.classes.map oM).length=p.classes.length:=χ _;have O:(p.insts.map r9).length=p.insts.length:=χ _;refine kT (n:=36) tok Tryz.func85 rfl rfl rfl rfl ?_;unfold iI;have hm:=dQ h he mC;have hl:=fP (s:=mC) h;have ha:=h.may mC;have r:= @mN mC z;have hx:=(fL mC z).trans he;have c:=fun(_:(bV mC z).2.R.length≤N)=>aLk ha hx hZ
 generalize bV mC z=m at hm hl ha r hx c ⊢;obtain⟨b,E⟩:=m;dsimp only at hm hl ha r hx c ⊢;refine aF (sk 1 rfl (kc hm ?_));refine kz 1 rfl ?_;cases b with
 | true=>
  rw[ξ rfl];have c:=c (by have:=hl rfl;omega);generalize n0 E=y at c ⊢;obtain⟨e,z2⟩:=y;dsimp only at c ⊢;refine aB rfl (fun _=>?_) (fun hb=>Bool.noConfusion hb);by_cases q:z2.e=0
  case neg=>
   have hp:=aY.err c q;rw[aG q];refine aC mixed (ak 3 [] rfl (kpD (.pa (rC ⟨[],0,[],[]⟩)) [(600,rO L E)] hp ?_));exact ak 4 [(4,.all)] rfl (az trivial)
  have c:=aY.ok c q;rw[aW q];have A:p.datas.map rC++[rC e]=(p.datas++[e]).map rC:=by rw[Am];rfl
  have hle:(p.datas++[e]).length=p.datas.length+1:=by rw[ζ];rfl
  refine aC mixed (ak 3 [] rfl (kc c ?_));refine ak 4 [(4,.all)] rfl (az ?_);generalize p.datas++[e]=S at A hle ⊢;exact rtN (ho:=⟨⟨_,rfl,.var rfl⟩,⟨_,rfl,.var rfl⟩,⟨_,rfl,.var rfl⟩,⟨_,rfl,.var (by rw[hle,←J];rfl)⟩,⟨_,rfl,Go.AM.Ole.arr⟩,⟨_,rfl,Go.AM.Ole.arr⟩,⟨_,rfl,.arrS A⟩,⟨_,rfl,Go.AM.Ole.arr⟩,⟨_,rfl,Go.AM.Ole.arr⟩,trivial⟩)
 | false=>
 obtain rfl:=r rfl;rw[η π];clear hm hl ha r hx c;refine aB rfl (fun hb=>Bool.noConfusion hb) (fun _=>?_);have hm:=dQ h he gG;have hl:=fP (s:=gG) h;have ha:=h.may gG;have r:= @mN gG E;have hx:=(fL gG E).trans he;have c:=fun(k:(bV gG E).2.R.length≤N)=>hC _ ha hx k
 generalize bV gG E=m at hm hl ha r hx c ⊢;obtain⟨b,z2⟩:=m;dsimp only at hm hl ha r hx c ⊢;refine sk 1 rfl (kc hm ?_);refine kz 1 rfl ?_;cases b with
 | true=>
  rw[ξ rfl];have c:=c (by have:=hl rfl;omega);generalize gF z2=y at c ⊢;obtain⟨e,z3⟩:=y;dsimp only at c ⊢;refine aB rfl (fun _=>?_) (fun hb=>Bool.noConfusion hb);by_cases q:z3.e=0
  case neg=>
   have hp:=aY.err c q;rw[aG q];refine aC mixed (ak 3 [] rfl (kpD (.pa (oM ⟨[],0,[],[],[]⟩)) [(600,rO L z2)] hp ?_));exact ak 4 [(4,.all)] rfl (az trivial)
  have c:=aY.ok c q;rw[aW q];have A:p.classes.map oM++[oM e]=(p.classes++[e]).map oM:=by rw[Am];rfl
  have hle:(p.classes++[e]).length=p.classes.length+1:=by rw[ζ];rfl
  refine aC mixed (ak 3 [] rfl (kc c ?_));refine ak 4 [(4,.all)] rfl (az ?_);generalize p.classes++[e]=S at A hle ⊢;exact rtN (ho:=⟨⟨_,rfl,.var rfl⟩,⟨_,rfl,.var rfl⟩,⟨_,rfl,.var rfl⟩,⟨_,rfl,.var (by rw[hle,←M];rfl)⟩,⟨_,rfl,Go.AM.Ole.arr⟩,⟨_,rfl,Go.AM.Ole.arr⟩,⟨_,rfl,Go.AM.Ole.arr⟩,⟨_,rfl,.arrS A⟩,⟨_,rfl,Go.AM.Ole.arr⟩,trivial⟩)
 | false=>
 obtain rfl:=r rfl;rw[η π];clear hm hl ha r hx c;refine aB rfl (fun hb=>Bool.noConfusion hb) (fun _=>?_);have hm:=dQ h he lW;have hl:=fP (s:=lW) h;have ha:=h.may lW;have r:= @mN lW z2;have hx:=(fL lW z2).trans he;have c:=fun(k:(bV lW z2).2.R.length≤N)=>aLh hB hS hX hO hZ hwt ha hx k
 generalize bV lW z2=m at hm hl ha r hx c ⊢;obtain⟨b,z3⟩:=m;dsimp only at hm hl ha r hx c ⊢;refine sk 1 rfl (kc hm ?_);refine kz 1 rfl ?_;cases b with
 | true=>
  rw[ξ rfl];have c:=c (by have:=hl rfl;omega);generalize nZ ex z3=y at c ⊢;obtain⟨e,z4⟩:=y;dsimp only at c ⊢;refine aB rfl (fun _=>?_) (fun hb=>Bool.noConfusion hb);by_cases q:z4.e=0
  case neg=>
   have hp:=aY.err c q;rw[aG q];refine aC mixed (ak 3 [] rfl (kpD (.pa (r9 ⟨[],0,[],[],[],[]⟩)) [(600,rO L z3)] hp ?_));exact ak 4 [(4,.all)] rfl (az trivial)
  have c:=aY.ok c q;rw[aW q];have A:p.insts.map r9++[r9 e]=(p.insts++[e]).map r9:=by rw[Am];rfl
  have hle:(p.insts++[e]).length=p.insts.length+1:=by rw[ζ];rfl
  refine aC mixed (ak 3 [] rfl (kc c ?_));refine ak 4 [(4,.all)] rfl (az ?_);generalize p.insts++[e]=S at A hle ⊢;exact rtN (ho:=⟨⟨_,rfl,.var rfl⟩,⟨_,rfl,.var rfl⟩,⟨_,rfl,.var rfl⟩,⟨_,rfl,.var (by rw[hle,←O];rfl)⟩,⟨_,rfl,Go.AM.Ole.arr⟩,⟨_,rfl,Go.AM.Ole.arr⟩,⟨_,rfl,Go.AM.Ole.arr⟩,⟨_,rfl,Go.AM.Ole.arr⟩,⟨_,rfl,.arrS A⟩,trivial⟩)
 | false=>
 obtain rfl:=r rfl;rw[η π];clear hm hl ha r hx c;refine aB rfl (fun hb=>Bool.noConfusion hb) (fun _=>?_);have B:=aOj hB hS hZ hwt p sigs 0 h he U (by omega) (by have:=hs.2;omega) (by have:=I.1;omega);generalize b6 ex sigs p.binds 0 z3=y at B ⊢;obtain⟨⟨S,Bs⟩,z4⟩:=y;dsimp only at B ⊢;by_cases q:z4.e=0
 case neg=>
  have hp:=aY.err B q;rw[aG q];exact aC mixed (ak 2 [] rfl (kp hp))
 have B:=aY.ok B q;rw[aW q];refine aC mixed (ak 2 [] rfl (kc B ?_));exact az rtN
theorem aAy {z:Z}(h:ZA L z) (he:z.e=0) (hN:z.R.length≤N):aY Tryz.prog 37 [rP] [(600,rO L z)] (eF L (.pa (vY (j9 ex z).1)) (j9 ex z).2 []):=by
 have M:∀(n:Nat) (s:Pg×List Sg) (z:Z),(PgOk n s.1∧eT s.2∧s.2.length≤n)→n<60→ZA L z→z.e=0→ZA L (oN ex s z).2∧(PgOk (n+1) (oN ex s z).1.1∧eT (oN ex s z).1.2∧(oN ex s z).1.2.length≤n+1)∧((oN ex s z).2.e=0→(oN ex s z).2.R.length<z.R.length)∧Ze z (oN ex s z).2:=fun n s z I hn h he=>by
  obtain⟨a,b,c,d,e⟩:=yC hO hwt h I.1 I.2;exact⟨a,⟨b,c⟩,d,e⟩
 have O:PgOk 0 zPg∧eT ([]:List Sg)∧([]:List Sg).length≤0:=⟨⟨⟨le_refl _,fun d E=>(by cases E)⟩,⟨le_refl _,fun d E=>(by cases E)⟩,⟨le_refl _,fun d E=>(by cases E)⟩,⟨le_refl _,trivial⟩⟩,fun d E=>(by cases E),le_refl _⟩
 have r:=aLe (step:=oN ex) (Inv:=fun n s=>PgOk n s.1∧eT s.2∧s.2.length≤n) (L:=L) (N:=N) (fun n s z I hn h he hN=>aOm hB hS hX hO hZ hwt hC n s.1 s.2 h he hN hn I.1 I.2) M h he hN (s:=(zPg,[])) O;have hok:=qZ (sh:=[]) (Inv:=fun n (s:Pg×List Sg)=>PgOk n s.1∧eT s.2∧s.2.length≤n) M (z.R.length+1) 0 (zPg,[]) z (Ae _) O h;unfold j9;rw[aCt];unfold xF;generalize lpZ [] (oN ex) (z.R.length+1) 0 (zPg,[]) z=W at r hok ⊢;obtain⟨⟨p,sigs⟩,z2⟩:=W;dsimp only at r hok ⊢;obtain⟨g1,⟨m,hm60,hp,hs,hsl⟩,_⟩:=hok;refine kT (n:=15) tok Tryz.func37 rfl rfl rfl rfl ?_;refine sg rfl (sg rfl (sg rfl (AWp.sub (Sub.ownCell (x:=3) (k:=0) (id:=512) 81 5 rfl rfl rfl) ?_)));refine AWp.sub (Sub.ownCell (x:=3) (k:=1) (id:=513) 90 6 rfl rfl rfl) ?_;refine AWp.sub (Sub.ownCell (x:=3) (k:=2) (id:=514) 95 6 rfl rfl rfl) ?_;refine AWp.sub (Sub.ownCell (x:=3) (k:=3) (id:=511) 99 33 rfl rfl rfl) ?_;refine AWp.sub (Sub.ownCell (x:=4) (k:=0) (id:=510) 92 9 rfl rfl rfl) ?_;by_cases A:z2.e=0
 case neg=>
  have hp:=aY.err r A;rw[lG A,aG A];exact sk 3 rfl (kp hp)
 have r:=aY.ok r A;refine sk 3 rfl (kc r ?_);refine az ?_;have hsk:sigs.length≤m:=hsl;have q:=aEk sigs p.binds A (by omega) (by have:p.binds.length≤m:=hp.b.1;omega);obtain⟨p1,p2,p3,p4⟩:=gV sigs p.binds z2 g1 hs hp.b.2;have J:= @kN sigs p.binds z2;generalize dY sigs p.binds z2=y at q p1 p2 p3 p4 J ⊢;obtain⟨Bs,z6⟩:=y;dsimp only at q p1 p2 p3 p4 J ⊢;unfold aMi at q;dsimp only at q;refine AWp.sub (Sub.freeze (id:=510) rfl) ?_;by_cases B:z6.e=0
 case neg=>
  rw[η B] at q;have hpx:wS _ _ _ _ _:=q;rw[aG B];exact sk 3 rfl (kp hpx)
 rw[ξ B] at q;have q:b9 _ _ _ _ _ _:=q;obtain rfl:=J B;rw[aW B];have U:p.datas.length=(p.datas.map rC).length:=(χ _).symm;have Y:p.classes.length=(p.classes.map oM).length:=(χ _).symm;have aa:p.insts.length=(p.insts.map r9).length:=(χ _).symm;have ab:p.binds.length=(Bs.map bH).length:=by rw[χ,p3]
 refine sk 3 rfl (kc q ?_);refine kz 2 rfl (AWp.sub (Sub.freeze (id:=511) rfl) ?_);refine AWp.sub (Sub.freeze (id:=512) rfl) ?_;refine AWp.sub (Sub.freeze (id:=513) rfl) ?_;refine AWp.sub (Sub.freeze (id:=514) rfl) ?_;exact sg rfl (aD (rtC trw (hc:=.agg (.hs rfl U (Go.AM.take_all U) (.hs rfl Y (Go.AM.take_all Y) (.hs rfl aa (Go.AM.take_all aa) (.hs rfl ab (Go.AM.take_all ab) .nil)))))))
end
end Go.Proofs.YtpmheldmadendaaGreatDoor
namespace Go.AM
open Go
def mP (a:Act) (D:List Deferred):Act:=⟨a.tmps,a.defers++D⟩
theorem vX (a:Act) (D:List Deferred) (d:Option Nat) (v:Value):(mP a D).put d v=mP (a.put d v) D:=by cases d<;>rfl
theorem y7 (a:Act) (D:List Deferred):(mP a D).eval=a.eval:=by funext x;cases x<;>rfl
section
variable {F:Fence}{m:Nat}{P:Program}{o:Oper}{a:Act}{w:World}{K K':Act→World→Prop}{Q Q':Exit→Act→World→Prop}{D:List Deferred}
theorem aF4 (c:∀a w,K a w→K' (mP a D) w) (hq:∀e a w,Q e a w→Q' e (mP a D) w) {r:Result Next}(h:o.uponIn F m P a K Q r):o.uponIn F m P (mP a D) K' Q' r:=by
 have hl:LetsOut Q→LetsOut Q':=fun⟨a,w,h⟩=>⟨_,w,hq _ a w h⟩
 have hp:∀d v w,K (a.put d v) w→K' ((mP a D).put d v) w:=fun d v w h=>by rw[vX];exact c _ _ h
 cases r with
 | ok x w'=>
  cases x<;>simp only[Oper.uponIn] at h ⊢<;>
   first
    | exact hp _ _ _ h
    | exact⟨h.1,CallsIn.mono h.2 (fun e q he=>by cases e<;>first | exact hp _ _ _ he | exact hq _ _ _ he | exact hl he)⟩
    | exact⟨h.1,RowsIn.mono h.2 (fun _ _ he=>hp _ _ _ he)⟩
    | exact⟨h.1,RoundIn.mono h.2 (fun e q he=>by cases e<;>first | exact hp _ _ _ he | exact hq _ _ _ he | exact hl he)⟩
    | (have:=c _ _ h;rw[←vX] at this;exact this)
    | exact h
 | halt x w'=>cases x<;>simp only[Oper.uponIn] at h ⊢<;>first | exact hq _ _ _ h | exact h
theorem aF3 (c:∀a w,K a w→K' (mP a D) w) (hq:∀e a w,Q e a w→Q' e (mP a D) w) (h:o.wpIn F m P a w K Q):o.wpIn F m P (mP a D) w K' Q':=by
 unfold Oper.wpIn at h ⊢;rw[y7];exact⟨h.1,aF4 c hq h.2⟩
theorem wT {ops:Array Oper}{i:Nat}(c:∀a w,K a w→K' (mP a D) w) (hq:∀e a w,Q e a w→Q' e (mP a D) w) (h:wpOpIn F m P ops Q i K a w):wpOpIn F m P ops Q' i K' (mP a D) w:=by
 unfold wpOpIn at h ⊢;cases ho:ops[i]? with
 | none=>rw[ho] at h;exact c _ _ h
 | some o=>
  rw[ho] at h;dsimp only at h ⊢;rw[show(mP a D).tmps=a.tmps from rfl,y7];split
  ·rename_i hw;rw[ξ hw] at h;exact aF3 c hq h
  ·rename_i hw;rw[η hw] at h;exact⟨h.1,by rw[vX];exact c _ _ h.2⟩
end
section
variable {P:Program}{n:Nat}{ops:Array Oper}{D:List Deferred}{Q':Exit→Act→World→Prop}
end
theorem s7 {n:Nat}{args:List V}{hin:List (Nat×AObj)}{S:Sto}{μ:Mu}{w:World}{vals:List Value}{k:Nat}(hk:k=n) (hle:Nat.ble args.length n=true) (E:Inv ⟨w,S,fJ μ (look hin),μ,look hin⟩ S μ (look hin) w) (c:aS S μ (look hin) args vals):
  Sim ⟨w,S,fJ μ (look hin),μ,look hin⟩ n S μ (mk (uM 0 args) hin) ⟨(⟨vals⟩:Array Value)++Array.replicate (k-(⟨vals⟩:Array Value).size) undef,[]⟩ w:=by
 have B:=aS.length c;have I:=Ak hle;refine⟨E,by simp;omega,rfl,fun t v ht=>?_⟩;have key:∀(l:List V) (us:List Value) (k:Nat),aS S μ (look hin) l us→look (uM k l) t=some v→∃j,t=k+j∧∃u,us[j]?=some u∧aK S μ (look hin) v u:=by
  intro l
  induction l with
  | nil=>intro us k _ h;simp[uM,look] at h
  | cons x l J=>
   intro us k q hl;simp only[aS] at q;obtain⟨u,r,rfl,h1,h2⟩:=q;simp only[uM,look] at hl;split at hl
   ·rename_i y;cases hl;exact⟨0,by rw[ω y];rfl,u,rfl,h1⟩
   ·obtain⟨j,A,M,O,U⟩:=J r (k+1) h2 hl;exact⟨j+1,by omega,M,by simpa using O,U⟩
 obtain⟨j,h1,u,h2,A⟩:=key args vals 0 c ht;rw[A5] at h1;subst h1;have Y:t<vals.length:=(Ad.1 h2).1
 have:((⟨vals⟩:Array Value)++Array.replicate (k-(⟨vals⟩:Array Value).size) undef).getD t undef=u:=by
  rw[Ac,Br (by simpa using Y)];simp[h2]
 show aK S μ (look hin) v (((⟨vals⟩:Array Value)++Array.replicate (k-(⟨vals⟩:Array Value).size) undef).getD t undef);rw[this];exact A
theorem vV {P:Program}{T:TT}{fn:Func}{n:Nat}{S S':Sto}{μ μ':Mu}{w w':World}{hin hout:List (Nat×AObj)}{res:V}{st:St}{a:Act}(J:Tok P T) (hs:Sim ⟨w,S,fJ μ (look hin),μ,look hin⟩ n S' μ' st a w') (M:Fin T fn st hin res hout):
  ∃v,(results fn a.tmps).run P w'=.ok v w'∧Inv ⟨w,S,fJ μ (look hin),μ,look hin⟩ S' μ' (look hout) w'∧aK S' μ' (look hout) res v:=by
 obtain⟨⟨vs,vs',O,hc,B⟩,q,hok⟩:=M;simp only[Aa] at hok;obtain⟨⟨⟨⟨⟨U,Y⟩,k3⟩,k4⟩,k5⟩,k6⟩:=hok;obtain⟨us,h1,h2⟩:=nI J hs O;refine⟨_,h1,?_⟩;have c:=hc.rel hs.inv.obj h2;have r:∀i∈keys hout,Good st.h (look hout) (fun i=>i) i:=by
  intro i hi;obtain⟨o',y⟩:=bZ hi;obtain⟨o,g1,g2⟩:=q.mem _ (aU y);exact⟨o,o',g1,y,g2⟩
 have E:aK S' μ' st.h res (aBr us):=by
  rw[←B]
  match vs',us,c with
  | [],us,c=>simp only[aS] at c;subst c;simp[aF6,aBr,aK,aS]
  | [v],us,c=>
   simp only[aS] at c;obtain⟨u,I,rfl,h5,rfl⟩:=c;exact h5
  | v::v'::l,us,c=>
   have A:=c;simp only[aS] at A;obtain⟨u,I,rfl,_,u',us'',rfl,_,_⟩:=A;simp only[aF6,aBr,aK];exact⟨_,rfl,c⟩
 refine⟨hs.inv.keep q Y fun id o ho=>bK k4 id (mem_map.2 ⟨_,aU (show look hin id=some o from ho),rfl⟩),?_⟩;have:=aK.ren (H:=st.h) (H':=look hout) (σ:=fun i=>i) res _ (fun i hi=>r i (bK U i hi)) (by rw[V.ren_id];exact E);exact this
def jI (draw:Bool) (P:Program) (ops:Array Oper) (Q:Exit→Act→World→Prop) (a:Act) (w:World):Prop:=
 match draw with
 | true=>wpAnyIn (Wd none) 0 P .any ops Q ops.size (Array.replicate ops.size false) a { w with drawn:=w.drawn+1 }
 | false=>wpOpsIn (Wd none) 0 P ops Q (List.range ops.size) a w
theorem jI.wp {draw:Bool}{P:Program}{ops:Array Oper}{Q:Exit→Act→World→Prop}{a:Act}{w:World}{id:Nat}(hm:P.follows .mixedOrders=true) (h:jI draw P ops Q a w):(Code.region id ops draw).wpIn (Wd none) 0 P Q a w:=by
 cases draw with
 | true=>exact wpIn_region_any hm h
 | false=>exact wpIn_region h
section
variable {P:Program}{ops:Array Oper}{Q Q':Exit→Act→World→Prop}{D:List Deferred}(hq:∀e a w,Q e a w→Q' e (mP a D) w)
include hq
theorem aFh {md:Region.Mode}:∀(fuel:Nat) (listed:Array Bool) (a:Act) (w:World),wpAnyIn (Wd none) 0 P md ops Q fuel listed a w→wpAnyIn (Wd none) 0 P md ops Q' fuel listed (mP a D) w
 | 0,_,_,_,h=>⟨h.1,hq _ _ _ h.2⟩
 | fuel+1,_,_,_,h=>⟨fun k=>hq _ _ _ (h.1 k),fun i hi=>wT (fun a w=>aFh fuel _ a w) hq (h.2 i hi)⟩
theorem aCx:∀(l:List Nat) (a:Act) (w:World),wpOpsIn (Wd none) 0 P ops Q l a w→wpOpsIn (Wd none) 0 P ops Q' l (mP a D) w
 | [],a,w,h=>hq _ _ _ h
 | i::l,a,w,h=>by
  rw[A7] at h ⊢;exact wT (fun a w=>aCx l a w) hq h
theorem jI.ext {draw:Bool}{a:Act}{w:World}(h:jI draw P ops Q a w):jI draw P ops Q' (mP a D) w:=by
 cases draw with
 | true=>exact aFh hq _ _ _ _ h
 | false=>exact aCx hq _ _ _ h
end
section
variable {P:Program}{n:Nat}{ops:Array Oper}{Q':Exit→Act→World→Prop}{G:Ctx}{S:Sto}{μ:Mu}{st st':St}{a:Act}{w:World}{xs:REs}{draw:Bool}
theorem xO (A:Run P n ops 0 st xs st') (hlen:Nat.beq xs.length ops.size=true) (q:(!draw || (c7 (preds ops) xs []&&cS ops))=true)
  (I:∀S' μ' r w',Sim G n S' μ' st' r w'→Q' .normal r w') (hs:Sim G n S μ st a w):jI draw P ops Q' a w:=by
 have c:=ω hlen;cases draw with
 | true=>
  simp only[Bool.not_true,Bb,Aa] at q;refine aB5 (G:=G) A c q.1 q.2 I ops.size _ (by simp) ?_ ?_ S μ a _ ?_ none
  ·have:((List.range ops.size).filter fun i=>!(Array.replicate ops.size false).getD i false)=List.range ops.size:=by
    apply filter_eq_self.2;intro i hi;simp at hi;simp[hi]
   rw[this,length_range]
  ·intro i o ho hl;simp[Ax] at hl;split at hl<;>simp at hl
  ·have J:∀(B:REs) (k:Nat) (s:St),bX (fun j=>(Array.replicate ops.size false).getD j false) k B s=s:=by
    intro B
    induction B with
    | nil=>intro k s;rfl
    | cons y B E=>
     intro k s;have M:(Array.replicate ops.size false).getD k false=false:=by
      simp[Ax];split<;>rfl
     simp only[bX,M,Bg];exact E _ _
   rw[J];exact⟨hs.inv.same rfl rfl rfl rfl,hs.size,hs.defers,hs.env⟩
 | false=>
  have key:∀(k:Nat) (st st':St) (xs:REs),Run P n ops k st xs st'→k+xs.length=ops.size→(∀S' μ' r w',Sim G n S' μ' st' r w'→Q' .normal r w')→∀S μ a w,Sim G n S μ st a w→wpOpsIn (Wd none) 0 P ops Q' (List.range' k xs.length) a w:=by
   intro k st st' xs A
   induction A with
   | nil=>intro _ hq S μ a w hs;exact hq S μ a w hs
   | @cons k st rd f xs st' O _ E=>
    intro hl hq S μ a w hs;simp only[τ,range'_succ,A7];exact O st (dJ.refl _ _) G S μ a w _ Q' hs (fun S1 U Y w1 s1=>E (by simp at hl;omega) hq S1 U Y w1 s1) none
  have:=key 0 st st' xs A (by omega) I S μ a w hs;show wpOpsIn _ _ _ _ _ (List.range ops.size) _ _;rwa [range_eq_range',←c]
theorem aCy {v:Value}{p:Nat}(q:RunP v p P n ops 0 st xs st') (hp:p<xs.length) (hle:xs.length≤ops.size) (c:draw=true→xs.length=ops.size∧(c7 (preds ops) xs []&&cS ops)=true)
  (hQ:∀S' μ' e h a' w',Sim G n S' μ' ⟨e,h,st.d⟩ a' w'→Q' (pan v) a' w') (hs:Sim G n S μ st a w):jI draw P ops Q' a w:=by
 cases draw with
 | true=>
  obtain⟨r,c⟩:=c rfl;rw[Aa] at c;refine x7 (G:=G) q r c.1 c.2 (by omega) hQ ops.size _ (by simp) ?_ ?_ ?_ S μ a _ ?_ none
  ·have:((List.range ops.size).filter fun i=>!(Array.replicate ops.size false).getD i false)=List.range ops.size:=by
    apply filter_eq_self.2;intro i hi;simp at hi;simp[hi]
   rw[this,length_range]
  ·intro i o ho hl;simp[Ax] at hl;split at hl<;>simp at hl
  ·simp[Ax];split<;>rfl
  ·have hz:∀(A:REs) (k:Nat) (s:St),bX (fun j=>(Array.replicate ops.size false).getD j false) k A s=s:=by
    intro A
    induction A with
    | nil=>intro k s;rfl
    | cons y A E=>
     intro k s;have hf:(Array.replicate ops.size false).getD k false=false:=by
      simp[Ax];split<;>rfl
     simp only[bX,hf,Bg];exact E _ _
   rw[hz];exact⟨hs.inv.same rfl rfl rfl rfl,hs.size,hs.defers,hs.env⟩
 | false=>
  have key:∀(k:Nat) (s B:St) (xs:REs) (m:Nat),RunP v p P n ops k s xs B→k≤p→p<k+xs.length→k+xs.length≤m→s.d=st.d→∀S μ a w,Sim G n S μ s a w→wpOpsIn (Wd none) 0 P ops Q' (List.range' k (m-k)) a w:=by
   intro k s B xs m q
   induction q with
   | nil=>intro h1 h2;simp at h2;omega
   | @cons k s rd f xs B hne I _ E=>
    intro h1 h2 J M S μ a w hs;simp only[τ] at h2 J;rw[show m-k=(m-(k+1))+1 by omega];simp only[range'_succ,A7];exact I s (dJ.refl _ _) G S μ a w _ Q' hs (fun S1 O U Y s1=>E (by omega) (by omega) (by omega) M S1 O U Y s1) none
   | @pan s rd f xs B I _ _=>
    intro h1 h2 J M S μ a w hs;simp only[τ] at h2 J;rw[show m-p=(m-(p+1))+1 by omega];simp only[range'_succ,A7];exact I s (dJ.refl _ _) G S μ a w _ Q' hs (fun S1 O e1 h1 U Y s1=>hQ S1 O e1 h1 U Y (by rw[←M];exact s1)) none
  have:=key 0 st st' xs ops.size q (by omega) (by omega) (by omega) rfl S μ a w hs;show wpOpsIn _ _ _ _ _ (List.range ops.size) _ _;rwa [range_eq_range',←sub_zero ops.size]
end
def wR (P:Program) (o:Oper):Prop:=∀ρ w x w',(execOp ρ o).run P w=.ok x w'→(∃v,x=.value v)∨x=.skip
section
variable {P:Program}{w:World}
theorem aQh {s:Sem Value}{x:Next}{w':World}(h:(do pure (Next.value (←s)):Sem Next).run P w=.ok x w'):∃v,x=.value v:=by
 simp only[δ] at h;cases hs:s.run P w with
 | ok v c=>
  rw[hs] at h;simp only[θ,ε] at h;cases h;exact⟨v,rfl⟩
 | halt y c=>rw[hs] at h;simp[Result.andThen] at h
theorem aQi {s:Sem Unit}{x:Next}{w':World}(h:(do s;pure Next.skip:Sem Next).run P w=.ok x w'):x=.skip:=by
 simp only[δ] at h;cases hs:s.run P w with
 | ok v c=>
  rw[hs] at h;simp only[θ,ε] at h;cases h;rfl
 | halt y c=>rw[hs] at h;simp[Result.andThen] at h
end
def isVal:Op→Bool
 | .move _ | .assign _ | .alloc _ | .load .. | .store .. | .fieldAddr .. | .extract ..=>true
 | _=>false
theorem aG6 {P:Program}{o:Oper}(h:isVal o.op=true):wR P o:=by
 intro ρ w x w' c;cases ho:o.op<;>rw[ho] at h<;>first | cases h | skip
 all_goals simp only[execOp,ho] at c
 all_goals first | exact .inl (aQh c) | exact .inr (aQi c) | (simp only[ε] at c;cases c;exact .inl ⟨_,rfl⟩) | skip
section
variable {m:Nat}{P:Program}{ops:Array Oper}{Q:Exit→Act→List Frame→World→Prop}{i:Nat}{rest:List Nat}{a:Act}{cs cs':List Frame}{w w':World}{o:Oper}
theorem aB3 (ho:ops[i]?=some o) (c:o.guard=none) (q:(execOp a.eval o).run P w=.ok .recover w) (hc:recoverD cs=none) (h:wpOpsSIn (Wd none) m P ops Q rest (a.put o.dst .nilIface) cs w):wpOpsSIn (Wd none) m P ops Q (i::rest) a cs w:=by
 unfold wpOpsSIn;simp only[ho];refine⟨fun _ _=>trivial,?_⟩;rw[ξ (by simp[Region.wanted,c]),q];dsimp only;rw[hc];exact h
theorem zP {v:Value}(ho:ops[i]?=some o) (c:o.guard=none) (q:(execOp a.eval o).run P w=.ok .recover w) (hc:recoverD cs=some (v,cs')) (h:wpOpsSIn (Wd none) m P ops Q rest (a.put o.dst v) cs' w):wpOpsSIn (Wd none) m P ops Q (i::rest) a cs w:=by
 unfold wpOpsSIn;simp only[ho];refine⟨fun _ _=>trivial,?_⟩;rw[ξ (by simp[Region.wanted,c]),q];dsimp only;rw[hc];exact h
theorem aB2 {v:Value}(ho:ops[i]?=some o) (c:o.guard=none) (q:(execOp a.eval o).run P w=.ok (.value v) w') (h:wpOpsSIn (Wd none) m P ops Q rest (a.put o.dst v) cs w'):wpOpsSIn (Wd none) m P ops Q (i::rest) a cs w:=by
 unfold wpOpsSIn;simp only[ho];refine⟨fun _ _=>trivial,?_⟩;rw[ξ (by simp[Region.wanted,c]),q];exact h
theorem aM3 {d:Nat}{v:Value}(h:d<a.tmps.size):(a.put (some d) v).eval (.tmp d)=v:=by
 show((a.put (some d) v).tmps).getD d undef=v;show(a.tmps.setIfInBounds d v).getD d undef=v;rw[y2 _ _ _ _ h,ξ rfl]
theorem aNt (q:∀o,ops[i]?=some o→wR P o) (h:wpOpIn (Wd none) 0 P ops (fun e a w=>Q e a cs w) i (fun a w=>wpOpsSIn (Wd none) m P ops Q rest a cs w) a w):wpOpsSIn (Wd none) m P ops Q (i::rest) a cs w:=by
 unfold wpOpIn at h;unfold wpOpsSIn;cases ho:ops[i]? with
 | none=>rw[ho] at h;exact h
 | some o=>
  rw[ho] at h;dsimp only at h ⊢;split
  ·rename_i hw;rw[ξ hw] at h;refine⟨h.1,?_⟩;have h2:=h.2;rw[show(Wd none).round=none from rfl,Oper.semAt_none] at h2;cases c:(execOp a.eval o).run P w with
   | ok x w'=>
    rw[c] at h2;rcases q o ho _ _ _ _ c with⟨v,rfl⟩ | rfl
    ·exact h2
    ·exact h2
   | halt y w'=>
    rw[c] at h2;cases y<;>first | exact h2 | exact h2.elim
  ·rename_i hw;rw[η hw] at h;exact h
theorem xQ {n:Nat}{G:Ctx}(q:∀(i:Nat) (o:Oper),ops[i]?=some o→wR P o∨i=0∨i=1) {k:Nat}{st st':St}{xs:REs}(y:Run P n ops k st xs st') (c:2≤k∨∀(i:Nat) (o:Oper),ops[i]?=some o→wR P o):
  (∀S' μ' r w',Sim G n S' μ' st' r w'→Q .normal r cs w')→∀S μ a w,Sim G n S μ st a w→wpOpsSIn (Wd none) m P ops Q (List.range' k xs.length) a cs w:=by
 induction y with
 | nil=>intro hq S μ a w hs;exact hq S μ a w hs
 | @cons k st rd f xs st' A _ B=>
  intro hq S μ a w hs;rw[τ,range'_succ];refine aNt (fun o ho=>?_) (A st (dJ.refl _ _) G S μ a w _ _ hs (fun S1 E I J s1=>B (c.imp (fun h=>by omega) id) hq S1 E I J s1) none);rcases c with c | c
  ·rcases q k o ho with h | h | h
   ·exact h
   ·omega
   ·omega
  ·exact c k o ho
theorem aQk {n:Nat}{G:Ctx}{S:Sto}{μ:Mu}{st:St}{id:Nat}(hs:Sim G n S μ st a w) (c:∀(i:Nat) (o:Oper),ops[i]?=some o→wR P o) (h:fX (fun _=>False) P n ops false 0 st [] (fun st'=>∀S' μ' q w',Sim G n S' μ' st' q w'→Q .normal q cs w')):(Code.region id ops false).wpSIn (Wd none) m P Q a cs w:=by
 rcases h with⟨xs,st',h1,h2,y,r⟩ | ⟨v,p,xs,st',h0,_⟩
 case inr=>exact h0.elim
 have hl:=ω h2;rw[A5] at hl;refine wpSIn_region ?_;rw[range_eq_range',←hl];exact xQ (fun i o ho=>.inl (c i o ho)) h1 (.inr c) r S μ a w hs
theorem aM5 {n:Nat}{G:Ctx}{S:Sto}{μ:Mu}{st:St}(hs:Sim G n S μ st a w) (q:∀(i:Nat) (o:Oper),ops[i]?=some o→wR P o∨i=0∨i=1) (h:fX (fun _=>False) P n ops false 2 st [] (fun st'=>∀S' μ' c w',Sim G n S' μ' st' c w'→Q .normal c cs w')):wpOpsSIn (Wd none) m P ops Q (List.range' 2 (ops.size-2)) a cs w:=by
 rcases h with⟨xs,st',h1,h2,y,r⟩ | ⟨v,p,xs,st',h0,_⟩
 case inr=>exact h0.elim
 have hl:=ω h2;rw[←hl,Nat.add_sub_cancel_left];exact xQ q h1 (.inl (le_refl 2)) r S μ a w hs
def aJw (k:Nat) (ops:Array Oper):Bool:=(ops.toList.drop k).all fun o=>isVal o.op
theorem fY {k:Nat}(h:aJw k ops=true) (i:Nat) (o:Oper) (ho:ops[i]?=some o) (hi:k≤i):wR P o:=by
 refine aG6 ((A3.1 h) o ?_);refine Ag (i:=i-k) ?_;rw[Aj,show k+(i-k)=i by omega];simpa using ho
end
end Go.AM
namespace Go.Proofs.YtpmheldmadendaaGreatDoor
open Go Go.AM
set_option maxRecDepth 20000
set_option maxHeartbeats 4000000
def atO (e p:Int):AObj:=.var 32 [.c (.int .i64 e),.c (.int .i64 p)]
theorem aBd (e p:Int) (w:World):(Instr.typeAssert (lJ e p) 20 131 true).run Tryz.prog w=.ok (.tuple #[.agg #[.int .i64 e,.int .i64 p],.bool true]) w:=by kernel_rfl
theorem aFe (w:World):(Instr.typeAssert .nilIface 20 131 true).run Tryz.prog w=.ok (.tuple #[.agg #[.int .i64 0,.int .i64 0],.bool false]) w:=by kernel_rfl
theorem aJe (b:Bool) (e p:Int) (m:Nat) {S:Sto}{μ:Mu}{w:World}{vals:List Value}(hI:Go.AM.Inv ⟨w,S,fJ μ (Go.AM.look [(4,atO 0 0)]),μ,Go.AM.look [(4,atO 0 0)]⟩ S μ (Go.AM.look [(4,atO 0 0)]) w) (hv:aS S μ (Go.AM.look [(4,atO 0 0)]) [.one (.vp 4 0)] vals) (u E:FrameMode)
  (hu:∀(q:Frame) (cs:List Frame),q.mode=u→(b=true∧recoverD (q::cs)=some (lJ e p,{ q with mode:=E }::cs))∨(b=false∧recoverD (q::cs)=none∧E=u∧e=0∧p=0)):
  CallsDIn (Wd none) m Tryz.prog 80 ⟨vals⟩ u w (fun U Y w'=>(∃v,U=.returned v)∧Y=E∧∃S' μ',Go.AM.Inv ⟨w,S,fJ μ (Go.AM.look [(4,atO 0 0)]),μ,Go.AM.look [(4,atO 0 0)]⟩ S' μ' (Go.AM.look [(4,atO e p)]) w'):=by
 refine callsDIn_of_wpSIn Tryz.func80 rfl trivial (fun q cs hc=>?_);have c:=s7 (n:=11) (k:=(Tryz.f80).ntmps) rfl rfl hI hv;generalize hG:(⟨w,S,fJ μ (Go.AM.look [(4,atO 0 0)]),μ,Go.AM.look [(4,atO 0 0)]⟩:Ctx)=G at c ⊢;generalize ha:(⟨(⟨vals⟩:Array Value)++Array.replicate ((Tryz.f80).ntmps-(⟨vals⟩:Array Value).size) undef,[]⟩:Act)=a at c;have I:∀(x y:Int) (S':Sto) (μ':Mu) (O:Act) (w':World) (st:St) (cs':List Frame),Sim G 11 S' μ' st O w'→st.d=[]→st.h 4=some (atO x y)→cs'={ q with mode:=E }::cs→x=e→y=p→bodyPostS Tryz.prog Tryz.f80 q cs (fun U Y w'=>(∃v,U=.returned v)∧Y=E∧∃S' μ',Go.AM.Inv G S' μ' (Go.AM.look [(4,atO e p)]) w') .normal O cs' w':=by
  intro x y S' μ' O w' st cs' hs hd h4 hcs hx hy;subst hx hy;have hd':O.defers=[]:=by have:=hs.defers;rw[hd] at this;exact this
  subst hG;obtain⟨v,g1,g2,g3⟩:=vV (fn:=Tryz.f80) (res:=.tup []) (hout:=[(4,atO x y)]) tok hs ⟨⟨[],[],.nil,.nil,rfl⟩,⟨⟨_,h4,.var rfl⟩,trivial⟩,rfl⟩;exact⟨hd',E,hcs,v,g1,⟨_,rfl⟩,rfl,_,_,g2⟩
 refine wpSIn_seq (wpSIn_region ?_);show wpOpsSIn _ _ _ _ _ (0::1::List.range' 2 6) _ _ _;rcases hu q cs hc with⟨rfl,hr⟩ | ⟨rfl,hr,rfl,rfl,rfl⟩
 ·refine zP rfl rfl rfl hr ?_;have r:=c.put c.inv (Evolve.refl _ _ _) (d:=4) (by decide) (v:=lJ e p) (x:=none) (fun y hy=>by cases hy);refine aB2 (w':=w) rfl rfl (v:=.tuple #[.agg #[.int .i64 e,.int .i64 p],.bool true]) ?_ ?_
  ·show(do pure (Next.value (←Instr.typeAssert ((a.put (some 4) (lJ e p)).eval (.tmp 4)) 20 131 true)):Sem Next).run Tryz.prog w=_;rw[aM3 (by rw[c.size];decide),δ,aBd];rfl
  have J:=r.put r.inv (Evolve.refl _ _ _) (d:=5) (by decide) (v:=.tuple #[.agg #[.int .i64 e,.int .i64 p],.bool true]) (x:=some (.tup [.pa [.int .i64 e,.int .i64 p],B true])) (fun y hy=>by
   cases hy;simp only[aK,aS,bR,Rep,aQ]
   exact⟨_,rfl,_,_,rfl,⟨_,rfl,_,_,rfl,rfl,_,_,rfl,rfl,rfl⟩,_,_,rfl,rfl,rfl⟩)
  refine aM5 J (fun i o ho=>?_) ?_
  ·by_cases hi:2≤i
   ·exact .inl (fY (k:=2) (by rfl) i o ho hi)
   ·exact .inr (by omega)
  refine kz 6 rfl ?_;intro S3 μ3 a3 w3 M;refine wpSIn_seq (aQk M (fun i o ho=>fY (k:=0) (by rfl) i o ho (Ae _)) ?_);refine kz 1 rfl ?_;intro S4 μ4 a4 w4 A;have hb:=A.env 8 _ rfl;simp only[aK,aQ,Rep] at hb;refine wpSIn_cond (t:=true) hb ?_;refine aQk A (fun i o ho=>fY (k:=0) (by rfl) i o ho (Ae _)) ?_;refine kz 3 rfl ?_;intro S5 μ5 a5 w5 hs5;exact I e p S5 μ5 a5 w5 _ _ hs5 rfl rfl rfl rfl rfl
 ·refine aB3 rfl rfl rfl hr ?_;have r:=c.put c.inv (Evolve.refl _ _ _) (d:=4) (by decide) (v:=.nilIface) (x:=none) (fun y hy=>by cases hy);refine aB2 (w':=w) rfl rfl (v:=.tuple #[.agg #[.int .i64 0,.int .i64 0],.bool false]) ?_ ?_
  ·show(do pure (Next.value (←Instr.typeAssert ((a.put (some 4) .nilIface).eval (.tmp 4)) 20 131 true)):Sem Next).run Tryz.prog w=_;rw[aM3 (by rw[c.size];decide),δ,aFe];rfl
  have J:=r.put r.inv (Evolve.refl _ _ _) (d:=5) (by decide) (v:=.tuple #[.agg #[.int .i64 0,.int .i64 0],.bool false]) (x:=some (.tup [.pa [.int .i64 0,.int .i64 0],B false])) (fun y hy=>by
   cases hy;simp only[aK,aS,bR,Rep,aQ]
   exact⟨_,rfl,_,_,rfl,⟨_,rfl,_,_,rfl,rfl,_,_,rfl,rfl,rfl⟩,_,_,rfl,rfl,rfl⟩)
  refine aM5 J (fun i o ho=>?_) ?_
  ·by_cases hi:2≤i
   ·exact .inl (fY (k:=2) (by rfl) i o ho hi)
   ·exact .inr (by omega)
  refine kz 6 rfl ?_;intro S3 μ3 a3 w3 M;refine wpSIn_seq (aQk M (fun i o ho=>fY (k:=0) (by rfl) i o ho (Ae _)) ?_);refine kz 1 rfl ?_;intro S4 μ4 a4 w4 A;have hb:=A.env 8 _ rfl;simp only[aK,aQ,Rep] at hb;refine wpSIn_cond (t:=false) hb ?_;refine wpSIn_of_wpIn rfl (wpIn_skip ?_);exact I 0 0 S4 μ4 a4 w4 _ _ A rfl rfl (by rw[←hc]) rfl rfl
end Go.Proofs.YtpmheldmadendaaGreatDoor
namespace Go.AM
open Go
section
variable {P:Program}{ops:Array Oper}{Q:Exit→Act→World→Prop}{d:Nat}{x:Value}
def Kp (d:Nat) (x:Value) (a:Act):Prop:=a.tmps.getD d undef=x
theorem Kp.put {a:Act}(h:Kp d x a) {t:Option Nat}(ht:t≠some d) (v:Value):Kp d x (a.put t v):=by
 cases t with
 | none=>exact h
 | some t=>
  show(a.tmps.setIfInBounds t v).getD d undef=x;rw[Ac,A0,η (fun e=>ht (by rw[e])),←Ac];exact h
theorem aJx {o:Oper}{a:Act}(h0:Kp d x a) (ht:o.dst≠some d) {K K':Act→World→Prop}(c:∀a w,Kp d x a→K a w→K' a w) {r:Result Next}(h:o.uponIn (Wd none) 0 P a K Q r) (q:¬LetsOut Q):
  o.uponIn (Wd none) 0 P a K' (fun e a w=>Q e a w∧Kp d x a) r:=by
 cases r with
 | ok y w'=>
  cases y<;>simp only[Oper.uponIn] at h ⊢<;>
   first
    | exact c _ _ (h0.put ht _) h
    | exact⟨h.1,CallsIn.mono h.2 (fun e A he=>by cases e<;>first | exact c _ _ (h0.put ht _) he | exact⟨he,h0⟩ | exact(q he).elim)⟩
    | exact⟨h.1,RowsIn.mono h.2 (fun _ _ he=>c _ _ (h0.put ht _) he)⟩
    | exact⟨h.1,RoundIn.mono h.2 (fun e A he=>by cases e<;>first | exact c _ _ (h0.put ht _) he | exact⟨he,h0⟩ | exact(q he).elim)⟩
    | (refine c _ _ (Kp.put ?_ ht _) h;unfold Kp at h0 ⊢;exact h0)
    | exact h
 | halt y w'=>cases y<;>simp only[Oper.uponIn] at h ⊢<;>first | exact⟨h,h0⟩ | exact h
theorem aBn {i:Nat}{a:Act}{w:World}(h0:Kp d x a) (ht:∀o∈ops.toList,o.dst≠some d) {K K':Act→World→Prop}(c:∀a w,Kp d x a→K a w→K' a w) (q:¬LetsOut Q) (h:wpOpIn (Wd none) 0 P ops Q i K a w):
  wpOpIn (Wd none) 0 P ops (fun e a w=>Q e a w∧Kp d x a) i K' a w:=by
 unfold wpOpIn at h ⊢;cases ho:ops[i]? with
 | none=>rw[ho] at h;exact c _ _ h0 h
 | some o=>
  have hm:=ht o (by
   obtain⟨h1,h2⟩:=B7.1 ho;rw[←h2]
   exact Array.getElem_mem_toList h1)
  rw[ho] at h;dsimp only at h ⊢;split
  ·rename_i hw;rw[ξ hw] at h;unfold Oper.wpIn at h ⊢;exact⟨h.1,aJx h0 hm c h.2 q⟩
  ·rename_i hw;rw[η hw] at h;exact⟨h.1,c _ _ (h0.put hm _) h.2⟩
theorem aJq (ht:∀o∈ops.toList,o.dst≠some d) (c:¬LetsOut Q) {md:Region.Mode}:∀(fuel:Nat) (listed:Array Bool) (a:Act) (w:World),Kp d x a→wpAnyIn (Wd none) 0 P md ops Q fuel listed a w→wpAnyIn (Wd none) 0 P md ops (fun e a w=>Q e a w∧Kp d x a) fuel listed a w
 | 0,_,_,_,h0,h=>⟨h.1,h.2,h0⟩
 | fuel+1,_,_,_,h0,h=>⟨fun k=>⟨h.1 k,h0⟩,fun i hi=>aBn h0 ht (fun a w h0 h=>aJq ht c fuel _ a w h0 h) c (h.2 i hi)⟩
theorem aI3 (ht:∀o∈ops.toList,o.dst≠some d) (c:¬LetsOut Q):∀(l:List Nat) (a:Act) (w:World),Kp d x a→wpOpsIn (Wd none) 0 P ops Q l a w→wpOpsIn (Wd none) 0 P ops (fun e a w=>Q e a w∧Kp d x a) l a w
 | [],a,w,h0,h=>⟨h,h0⟩
 | i::l,a,w,h0,h=>by
  rw[A7] at h ⊢;exact aBn h0 ht (fun a w h0 h=>aI3 ht c l a w h0 h) c h
theorem jI.kp {draw:Bool}{a:Act}{w:World}(ht:(ops.toList.all fun o=>o.dst !=some d)=true) (q:¬LetsOut Q) (h0:Kp d x a) (h:jI draw P ops Q a w):jI draw P ops (fun e a w=>Q e a w∧Kp d x a) a w:=by
 have c:∀o∈ops.toList,o.dst≠some d:=fun o ho e=>by
  have:=(A3.1 ht) o ho;rw[e] at this;simp at this
 cases draw with
 | true=>exact aJq c q _ _ _ _ h0 h
 | false=>exact aI3 c q _ _ _ h0 h
end
section
variable {P:Program}{n:Nat}{ops:Array Oper}{G:Ctx}{S:Sto}{μ:Mu}{st:St}{a:Act}{w:World}{draw:Bool}{v:Value}
theorem aPs (q:List (Nat×AObj)) (M:List (Nat×V)) (hs:Sim G n S μ st a w) (Y:st.d=[]) (aa:eN (fun p=>st.e p.1=some p.2) M) (ab:(M.all fun p=>subset p.2.refs (keys q))=true)
  (ac:eN (fun p=>st.h p.1=some p.2) q) (hc:subset (eK q) (q.map (·.1))=true) (O:(q.all fun p=>p.2.live)=true) (hok:(q.all fun p=>jP p.2)=true)
  (h:fX (fun v'=>v'=v) P n ops draw 0 (mk M q) [] (fun _=>False)):
  jI draw P ops (fun e A w'=>e=pan v∧A.defers=[]∧A.tmps.size=n∧∃S' B hout,(∀id o,look hout id=some o→∃o',look q id=some o')∧Inv G S' B (dX st.h (outs hout)) w'∧Evolve S μ st.h S' B (dX st.h (outs hout))) a w:=by
 have hh:∀id o,look q id=some o→st.h id=some o∧o≠ .dead:=by
  intro id o ho;have hm:=aU ho;refine⟨ac.mem _ hm,?_⟩;have:=(A3.1 O) _ hm;rintro rfl;simp[AObj.live] at this
 have hI:=hs.inv.hand hh hc;have U:∀i∈keys q,Good st.h (look q) (fun i=>i) i:=by
  intro i hi;obtain⟨o,ho⟩:=bZ hi;obtain⟨h1,h2⟩:=hh i o ho;exact⟨o,o,h1,ho,.refl_id h2⟩
 have hs2:Sim ⟨w,S,fJ μ (look q),μ,look q⟩ n S μ (mk M q) a w:=by
  refine⟨hI,hs.size,by have:=hs.defers;rw[Y] at this;exact this,fun t v ht=>?_⟩;have hm:=aU (show look M t=some v from ht);have h1:=hs.env t v (aa.mem _ hm);have hr:=(A3.1 ab) _ hm;have:=aK.ren (H:=st.h) (H':=look q) (σ:=fun i=>i) v _ (fun i hi=>U i (bK hr i hi)) (by rw[V.ren_id];exact h1);exact this
 have hout:∀S' μ' e I A w',Sim ⟨w,S,fJ μ (look q),μ,look q⟩ n S' μ' ⟨e,I,[]⟩ A w'→A.defers=[]∧A.tmps.size=n∧∃S' B hout,(∀id o,look hout id=some o→∃o',look q id=some o')∧Inv G S' B (dX st.h (outs hout)) w'∧Evolve S μ st.h S' B (dX st.h (outs hout)):=by
  intro S' μ' e I A w' r;have E:=r.inv.evo;have hbl:∀id x,(∃o',look q id=some o')→I id=some x→jP x=true:=fun id x ⟨o',ho⟩ hx=>by
   obtain⟨o2,g1,g2⟩:=E.obj id o' ho;have g1:I id=some o2:=g1;rw[hx] at g1;cases g1;exact aBy g2 ((A3.1 hok) _ (aU ho))
  have hI':Inv ⟨w,S,fJ μ (look q),μ,look q⟩ S' μ' (look (sF q I)) w':=by
   refine⟨r.inv.holds,fun id o ho=>?_,fun i j o o' b c c' hi hj hm hm'=>?_,fun i o b c hi hm=>?_,r.inv.frame,r.inv.sle,r.inv.sto,⟨E.le,fun id o ho=>?_⟩,r.inv.fre⟩
   ·obtain⟨h1,x,h2,rfl⟩:=cG ho;exact(r.inv.obj id x h2).blur (hbl id x h1 h2)
   ·obtain⟨_,x,h2,_⟩:=cG hi;obtain⟨_,y,J,_⟩:=cG hj;exact r.inv.inj i j x y b c c' h2 J hm hm'
   ·obtain⟨_,x,h2,_⟩:=cG hi;exact r.inv.own i x b c h2 hm
   ·obtain⟨o2,g1,g2⟩:=E.obj id o ho;refine⟨blur o2,nJ ho g1,?_⟩;exact AObj.succ_trans g2 (u9 (p:=True) trivial) fun e _=>e
  obtain⟨B,q1,q2,q3,q4⟩:=hs.inv.back (fun id o ho=>(hh id o ho).1) (fun id o ho=>.inl (cG ho).1) hI';exact⟨r.defers,r.size,S',B,sF q I,fun id o ho=>(cG ho).1,q2,q3⟩
 rcases h with⟨xs,st',h1,h2,h4,J⟩ | ⟨v',p,xs,st',h0,h1,h2,J,h4,h5⟩
 ·exact J.elim
 ·subst h0;rw[A5] at J h4 h5;exact aCy h1 J h4 (fun Y=>h5 Y) (fun S' μ' e h A w' s=>⟨rfl,hout S' μ' e h A w' s⟩) hs2
theorem aJd {o:Oper}{good:List (Nat×AObj)→Prop}{K:Act→World→Prop}{Q:Exit→Act→World→Prop}{f:FuncId}{x:Operand}{caps:List R}{xs:Array Operand}{ts:Array TypeId}{ids:List Nat}{args:List V}(hin:List (Nat×AObj)) (hb:eH P f) (ho:o.op=.call { callee:=.value x,args:=xs,argTypes:=ts })
  (hx:opv st x=some (.one (.clo f caps)))
  (hf:∀S μ w vals,Inv ⟨w,S,fJ μ (look hin),μ,look hin⟩ S μ (look hin) w→aS S μ (look hin) (args++caps.map V.one) vals→Calls P f ⟨vals⟩ w fun e w'=>∃S' μ' hout,e=.panicked [{ v:=v,recovered:=false }]∧(∀id o,look hout id=some o→∃o',look hin id=some o')∧good hout∧Inv ⟨w,S,fJ μ (look hin),μ,look hin⟩ S' μ' (look hout) w')
  (ha:ArgsV st ids xs.toList args) (B:eN (fun p=>st.h p.1=some p.2) hin) (hok:dP (args++caps.map V.one) hin=true) (hs:Sim G n S μ st a w)
  (hQ:∀S' y hout w',good hout→Inv G S' y (dX st.h (outs hout)) w'→Evolve S μ st.h S' y (dX st.h (outs hout))→Q (pan v) a w'):o.wpIn (Wd none) 0 P a w K Q:=by
 have J:=aI hs hx fun t ht=>rfl
 simp only[aK,aQ] at J;obtain⟨vs,h1,h2⟩:=J;have hr:(execOp a.eval o).run P w=.ok (.enter f ⟨xs.toList.map a.eval++vs⟩) w:=by
  simp only[execOp,ho,resolve,h1,Deferred.ofValue,δ,ε,θ,invoke,cP hb];congr 2;apply Array.ext';simp
 have M:∀(l:List V) (us:List Value) (rs:List R) (vs:List Value),aS S μ st.h l us→aN S μ st.h rs vs→aS S μ st.h (l++rs.map V.one) (us++vs):=by
  intro l
  induction l with
  | nil=>
   intro us rs vs h k;simp only[aS] at h;subst h;simp only[Bv]
   induction rs generalizing vs with
   | nil=>simp only[aN] at k;subst k;simp[aS]
   | cons r rs E=>
    simp only[aN] at k;obtain⟨v,vs',rfl,c,q⟩:=k;simp only[As,aS];exact⟨v,vs',rfl,by simpa [aK] using c,E vs' q⟩
  | cons x l E=>
   intro us rs vs h k;simp only[aS] at h;obtain⟨v,vs',rfl,c,q⟩:=h;simp only[Bw,aS];exact⟨v,_,rfl,c,E vs' rs vs q k⟩
 have O:=M _ _ _ _ (ha.rel hs (fun t ht=>rfl) fun i h=>rfl) h2;simp only[dP,Aa] at hok;obtain⟨⟨c,q⟩,k3⟩:=hok;have hh:∀id o,look hin id=some o→st.h id=some o∧o≠ .dead:=by
  intro id o ho;have hm:=aU ho;refine⟨B.mem _ hm,?_⟩;have:=(A3.1 k3) _ hm;rintro rfl;simp[AObj.live] at this
 have hI:=hs.inv.hand hh q;have A:∀i∈keys hin,Good st.h (look hin) (fun i=>i) i:=by
  intro i hi;obtain⟨o,ho⟩:=bZ hi;obtain⟨h1,h2⟩:=hh i o ho;exact⟨o,o,h1,ho,.refl_id h2⟩
 have U:aS S μ (look hin) (args++caps.map V.one) (xs.toList.map a.eval++vs):=by
  have:=aS.ren (H:=st.h) (H':=look hin) (σ:=fun i=>i) (args++caps.map V.one) _ (fun i hi=>A i (bK c i hi)) (by rw[V.renL_id];exact O);exact this
 have hc:=hf S μ w _ hI U;refine gN hr ?_;refine hc.mono fun e w' ⟨S',μ',hout,he,I,hg,Y⟩=>?_
 subst he;obtain⟨y,q1,q2,q3,q4⟩:=hs.inv.back (fun id o ho=>(hh id o ho).1) (fun id o ho=>.inl (I id o ho)) Y;exact hQ S' y hout w' hg q2 q3
theorem aIy {id:Nat}{D:List Deferred}{d:Nat}{x:Value}{Q':Exit→Act→World→Prop}(hm:P.follows .mixedOrders=true) (hs:Sim G n S μ st a w) (h0:Kp d x a) (ht:(ops.toList.all fun o=>o.dst !=some d)=true)
  (h:fX (fun _=>False) P n ops draw 0 st [] (fun st'=>∀S' μ' c w',Kp d x c→Sim G n S' μ' st' c w'→Q' .normal (mP c D) w')):(Code.region id ops draw).wpIn (Wd none) 0 P Q' (mP a D) w:=by
 rcases h with⟨xs,st',h1,h2,q,r⟩ | ⟨v,p,xs,st',h0,_⟩
 case inr=>exact h0.elim
 rw[A5] at h2;refine jI.wp hm (jI.ext (Q:=fun e a w=>(e=.normal∧∃S' μ',Sim G n S' μ' st' a w)∧Kp d x a) ?_ (jI.kp ht ?_ h0 (xO h1 h2 q (fun S' μ' c w' s=>⟨rfl,S',μ',s⟩) hs)))
 ·rintro e a w ⟨⟨rfl,S',μ',s⟩,y⟩;exact r S' μ' a w y s
 ·rintro⟨a,w,h,_⟩;cases h
theorem aMe {id:Nat}{Q':Exit→Act→World→Prop}(hm:P.follows .mixedOrders=true) (hs:Sim G n S μ st a w)
  (h:fX (fun _=>False) P n ops draw 0 st [] (fun st'=>∀S' μ' c w',Sim G n S' μ' st' c w'→Q' .normal c w')):(Code.region id ops draw).wpIn (Wd none) 0 P Q' a w:=by
 rcases h with⟨xs,st',h1,h2,q,r⟩ | ⟨v,p,xs,st',h0,_⟩
 case inr=>exact h0.elim
 rw[A5] at h2;exact jI.wp hm (xO h1 h2 q r hs)
end
end Go.AM
