/-
  Texts Rd57 to Am55 in one.
-/
import Derived.Test.YtkhgpgihmphfdaaGreatDoorM10
import Derived.RecoverIn
import Derived.WideLaws
open List (all_eq_true cons_append drop_eq_getElem_cons drop_length filter_eq_self length_append length_cons length_map length_pos_iff length_range map_append map_cons mem_map nil_append range'_succ range_eq_range' set_append_right)
open Nat (eq_of_beq_eq_true le_of_ble_eq_true le_refl le_trans lt_succ_self sub_self sub_zero succ_pos zero_add zero_le)
namespace Go.Proofs.YtkhgpgihmphfdaaGreatDoor
open Go Go.AM
set_option maxRecDepth 20000
set_option maxHeartbeats 4000000
def aEp (a:Int) (ps:List Pt) (ks:List Ex):List (Nat×AObj):=[(7,.var 47 [.c (.int .i64 7),.c (.int .i64 a),.c (.int .i64 0),.c (.str []),.hs 520 0 ks.length ks.length,.hs 521 0 ps.length ps.length,.c .nl,.c .nl,.c .nl,.c .nl,.c (.int .i64 0),.c (.int .i64 0),.c (.str []),.c .nl,.c .nl]),(520,.arr 47 15 (ks.map cY) 0),(521,.arr 51 10 (ps.map cF) 0)]
def yO (ex:Nat→Z→Ex×Z) (deep:Nat) (s:List Pt×List Ex) (z:Z):(List Pt×List Ex)×Z:=
 ((s.1++[(gJ (3*z.R.length+1) 0 z).1],s.2++[(ex (deep+1) (aN arrow (gJ (3*z.R.length+1) 0 z).2)).1]),(ex (deep+1) (aN arrow (gJ (3*z.R.length+1) 0 z).2)).2)
theorem aJ6 (ex:Nat→Z→Ex×Z) (deep:Nat):∀(f n:Nat) (ps:List Pt) (ks:List Ex) (z:Z),eJ ex deep f n ps ks z=lpZ b5 (yO ex deep) f n (ps,ks) z
 | 0,_,_,_,_=>rfl
 | f+1,n,ps,ks,z=>by
  rw[eJ,lpZ];split
  ·exact aJ6 ex deep f _ _ _ _
  ·rfl
theorem aP5 {s:Str}{z:Z}(h:(aN s z).e=0):aN s z=tlZ z∧¬(bA z).kind=6∧z.e=0:=by
 have he:=aT h;unfold aN at h ⊢;rw[aP7 he] at h ⊢;by_cases hi:isZ s z=true
 ·rw[ξ hi,ξ rfl];exact⟨rfl,lM hi,he⟩
 ·rw[ζ hi,ζ π] at h;exact(cX (by decide) h).elim
theorem aRm (a:Int) (deep:Nat) {step:(List Pt×List Ex)→Z→(List Pt×List Ex)×Z}{Inv:Nat→(List Pt×List Ex)→Prop}{L:List Tk}{N:Nat}
  (hone:∀n s z,Inv n s→n<60→ZA L z→z.e=0→z.R.length≤N→b8 Tryz.prog 229 ([]++[R.vp 7 0,R.vp 3 0,R.vp 5 0].map V.one) ((600,rO L z)::(3,pR)::(5,dO deep)::aEp a s.1 s.2) (gD L (.tup []) (step s z).2 ((3,pR)::(5,dO deep)::aEp a (step s z).1.1 (step s z).1.2)))
  (hst:∀n s z,Inv n s→n<60→ZA L z→z.e=0→ZA L (step s z).2∧Inv (n+1) (step s z).1∧((step s z).2.e=0→(step s z).2.R.length<z.R.length)∧Ze z (step s z).2)
  {z:Z} (h:ZA L z) (he:z.e=0) (hN:z.R.length≤N) {s:(List Pt×List Ex)} (hI:Inv 0 s):
  b8 Tryz.prog 113 [rP,.one (.clo 194 [R.vp 2 0]),.one (.clo 229 [R.vp 7 0,R.vp 3 0,R.vp 5 0])] ((600,rO L z)::(2,pR)::(3,pR)::(5,dO deep)::aEp a s.1 s.2) (gD L (.tup []) (lpZ b5 step (z.R.length+1) 0 s z).2 ((2,pR)::(3,pR)::(5,dO deep)::aEp a (lpZ b5 step (z.R.length+1) 0 s z).1.1 (lpZ b5 step (z.R.length+1) 0 s z).1.2)):=by
 have r:∃W,W=lpZ b5 step (z.R.length+1) 0 s z:=⟨_,rfl⟩
 obtain⟨W,r⟩:=r;rw[←r];refine nC (n:=35) tok Tryz.func113 rfl rfl rfl rfl ?_;refine sg rfl (aE (aP (fun q:Nat×(List Pt×List Ex)×Z×Nat=>mk [(0,rP),(1,.one (.clo 194 [R.vp 2 0])),(2,.one (.clo 229 [R.vp 7 0,R.vp 3 0,R.vp 5 0])),(6,I .i64 (q.1:Nat))] ((600,rO L q.2.2.1)::(2,pR)::(3,pR)::(5,dO deep)::aEp a q.2.1.1 q.2.1.2)) (fun q=>Inv q.1 q.2.1∧q.1≤60∧ZA L q.2.2.1∧q.2.2.1.e=0∧q.2.2.1.R.length≤N∧q.2.2.1.R.length<q.2.2.2∧moreA b5 q.1 q.2.2.1=q.2.2.1∧W=lpZ b5 step q.2.2.2 q.1 q.2.1 q.2.2.1) (fun q=>q.2.2.1.R.length) (0,s,z,z.R.length+1) ⟨hI,Ae _,h,he,hN,lt_succ_self _,r5 _ _,r⟩ sl ?_));clear r h he hN hI;rintro⟨n,s,z,f⟩ ⟨hI,hn,h,he,hN,hf,hA,r⟩;dsimp only at hI hn h he hN hf hA r;refine aE (aA (aE (aP (fun y:Z=>mk [(0,rP),(1,.one (.clo 194 [R.vp 2 0])),(2,.one (.clo 229 [R.vp 7 0,R.vp 3 0,R.vp 5 0])),(6,I .i64 (n:Nat))] ((600,rO L y)::(2,pR)::(3,pR)::(5,dO deep)::aEp a s.1 s.2)) (fun y=>ZA L y∧y.e=0∧cV z=cV y∧y.R.length≤z.R.length) (fun y=>y.R.length) z ⟨h,he,rfl,le_refl _⟩ sl ?_)));rintro y ⟨h2,A,e2,hle2⟩

 have hm:=fD h2 A cL;obtain⟨m1,m2,m3⟩:=nA h2;have M:=h2.may cL;have he3:=(iE cL y).trans A;generalize bX cL y=m at hm m1 m2 m3 M he3;obtain⟨b,z3⟩:=m;dsimp only at m1 m2 m3 M he3;refine aA (sk 1 rfl (kc hm ?_));refine az (aB rfl (fun hb=>?_) (fun hb=>?_))
 ·have hb:b=true:=hb;have:=m3 hb;exact aF (aE (aF ⟨z3,⟨M,he3,e2.trans m1.symm,by omega⟩,m3 hb,sl⟩))
 have hb:b=false:=hb;obtain⟨g1,g2⟩:=m2 hb;subst g1;have e3:cV z=z3:=e2.trans g2;clear m1 m2 m3 M e2 hm;have hf0:∃g,f=g+1:=⟨f-1,by omega⟩
 obtain⟨f,rfl⟩:=hf0;rw[lpZ] at r;unfold bB at r;rw[hA,e3] at r;have hs3:=pE h2;have hn3:=dZ h2;refine aS (aA (sk 1 rfl (kv (args:=[]) hs3 ?_)));refine az (aB rfl (fun hb=>?_) (fun hb=>?_))
 ·have hb:dX b5 z3=true:=hb;rw[ξ (show ¬z3.e=0∨dX b5 z3=true from .inr hb)] at r;rw[ζ π] at r;rw[r,b4 A];exact aD rtN
 have hb:dX b5 z3=false:=hb;have hnb:¬(¬z3.e=0∨dX b5 z3=true):=fun k=>k.elim (fun k=>k A) fun k=>by rw[hb] at k;cases k
 rw[ζ hnb] at r;refine aF ?_;by_cases hn60:n<60
 case neg=>
  have d:decide (((n:Nat):Int)<60)=false:=φ (by omega);rw[fU (by omega) A] at r;dsimp only at r;rw[φ cK,ζ π] at r;rw[r,aG cK];have hmn:=bH 2 (bA z3).pl;refine sk 5 rfl (kc hn3 ?_);refine ak 1 [] rfl ?_;rw[d];exact kp hmn
 have d:decide (((n:Nat):Int)<60)=true:=χ (by omega);rw[fT (by omega),χ A,ξ rfl] at r;have hmo:=bF 2 (bA z3).pl;refine sk 5 rfl (kc hn3 ?_);refine ak 1 [] rfl ?_;rw[d];refine kc hmo ?_;refine az ?_;have ho:=hone n s z3 hI hn60 h2 A (by omega);obtain⟨B,k2,k3,_⟩:=hst n s z3 hI hn60 h2 A;generalize step s z3=y at ho B k2 k3 r;obtain⟨s4,z4⟩:=y;dsimp only at ho B k2 k3 r;by_cases u:z4.e=0
 case neg=>
  have hp:=b8.err ho u;rw[gA u] at r;rw[r,aG u];exact sk 1 rfl (kpv (args:=[]) hp)
 have ho:=b8.ok ho u;have k3:=k3 u;refine sk 1 rfl (kv (args:=[]) ho ?_);refine az (aA (agN [] rfl ?_));have hlp:=B.lp;have E:=mD B cL;have hn4:=dZ B;have O:=pE B;have hmo4:=bF 12 (bA z4).pl;cases U:isZ cL z4 with
 | true=>
  rw[U] at E;have J:moreA b5 (n+1) z4=z4:=ζ fun k=>by rw[U] at k;cases k.2.2.1
  refine aC mixed (ak 1 [] rfl (kc E ?_));refine ak 7 [(2,.bv true),(5,.bv true)] rfl (kc hn4 ?_);refine ak 1 [(2,.bv true),(5,.bv true)] rfl (kc hmo4 ?_);exact az ⟨(n+1,s4,z4,f),⟨k2,by omega,B,u,by dsimp only;omega,by dsimp only;omega,J,r⟩,by dsimp only;omega,sl⟩
 | false=>
  rw[U] at E;cases Y:dX b5 z4 with
  | true=>
   rw[Y] at O;have J:moreA b5 (n+1) z4=z4:=ζ fun k=>by rw[Y] at k;cases k.2.2.2
   refine aC mixed (ak 1 [] rfl (kc E ?_));refine ak 2 [(2,.bv false)] rfl (kvG (args:=[]) O ?_);refine ak 4 [(2,.bv false),(5,.bv false)] rfl (kc hn4 ?_);refine ak 1 [(2,.bv false),(5,.bv false)] rfl (kc hmo4 ?_);exact az ⟨(n+1,s4,z4,f),⟨k2,by omega,B,u,by dsimp only;omega,by dsimp only;omega,J,r⟩,by dsimp only;omega,sl⟩
  | false=>
   rw[Y] at O;have hmn4:=bH 12 (bA z4).pl;have J:moreA b5 (n+1) z4=⟨z4.R,12,(bA z4).pl⟩:=(ξ ⟨succ_pos n,u,U,Y⟩).trans (ξ u);have h12:¬(12:Int)=0:=by decide
   have hWb:W.2=⟨z4.R,12,(bA z4).pl⟩:=by
    obtain⟨f,rfl⟩:∃g,f=g+1:=⟨f-1,by omega⟩
    rw[lpZ] at r;unfold bB at r;rw[J,lS h12,ξ (show ¬(Z.mk z4.R 12 (bA z4).pl).e=0∨_ from .inl h12),ζ π] at r;rw[r]
   rw[hWb,aG h12];refine aC mixed (ak 1 [] rfl (kc E ?_));refine ak 2 [(2,.bv false)] rfl (kvG (args:=[]) O ?_);refine ak 4 [(2,.bv false),(5,.bv false)] rfl (kc hn4 ?_);refine ak 1 [(2,.bv false),(5,.bv false)] rfl (kpD (.tup []) [] hmn4 ?_);exact az trivial
theorem aMl (a:Int) (deep:Nat) {step:(List Pt×List Ex)→Z→(List Pt×List Ex)×Z}{Inv:Nat→(List Pt×List Ex)→Prop}{L:List Tk}{N:Nat}
  (I:∀n s z,Inv n s→n<60→ZA L z→z.e=0→z.R.length≤N→b8 Tryz.prog 229 ([]++[R.vp 7 0,R.vp 3 0,R.vp 5 0].map V.one) ((600,rO L z)::(3,pR)::(5,dO deep)::aEp a s.1 s.2) (gD L (.tup []) (step s z).2 ((3,pR)::(5,dO deep)::aEp a (step s z).1.1 (step s z).1.2)))
  (E:∀n s z,Inv n s→n<60→ZA L z→z.e=0→ZA L (step s z).2∧Inv (n+1) (step s z).1∧((step s z).2.e=0→(step s z).2.R.length<z.R.length)∧Ze z (step s z).2)
  {z:Z} (h:ZA L z) (he:z.e=0) (hN:z.R.length≤N) {s:(List Pt×List Ex)} (J:Inv 0 s):
  b8 Tryz.prog 158 [rP,.one (.clo 229 [R.vp 7 0,R.vp 3 0,R.vp 5 0])] ((600,rO L z)::(3,pR)::(5,dO deep)::aEp a s.1 s.2) (gD L (.tup []) (vK step s z).2 ((3,pR)::(5,dO deep)::aEp a (vK step s z).1.1 (vK step s z).1.2)):=by
 have q:=cZ h he eB;have h1:=h.need eB;have M:=Ze.need eB z;unfold vK;generalize aN eB z=B at q h1 M ⊢;have O:B.R.length≤z.R.length:=M;refine nC (n:=12) tok Tryz.func158 rfl rfl rfl rfl ?_;refine sg rfl ?_;by_cases r:B.e=0
 case neg=>
  have hp:=b8.err q r;rw[gA r];dsimp only;rw[bD r,aG r];exact sk 1 rfl (kp hp)
 have q:=b8.ok q r;refine sk 1 rfl (kc q ?_);refine az ?_;have u:=aRm a deep (step:=step) (Inv:=Inv) (L:=L) (N:=N) I E h1 r (by omega) J;have hok:=(uC (sh:=b5) E (B.R.length+1) 0 s B (Ae _) J h1).1
 generalize lpZ b5 step (B.R.length+1) 0 s B=W at u hok ⊢;obtain⟨s2,z2⟩:=W;dsimp only at u hok ⊢;by_cases y:z2.e=0
 case neg=>
  have hp:=b8.err u y;rw[bD y,aG y];exact sk 3 rfl (kp hp)
 have u:=b8.ok u y;refine sk 3 rfl (kc u ?_);refine az ?_;have q:=cZ hok y b5;generalize aN b5 z2=z3 at q ⊢;by_cases A:z3.e=0
 case neg=>
  have hp:=b8.err q A;rw[aG A];exact aC mixed (ak 1 [] rfl (kp hp))
 have q:=b8.ok q A;rw[b4 A];refine aC mixed (ak 1 [] rfl (kc q ?_));exact az rtN
section
variable {L:List Tk}{ex:Nat→Z→Ex×Z}{N:Nat}(hB:vF ex) (hS:aO3 L ex N) (hNm:aNa L)
include hB hS hNm
theorem aRt (a:Int) (ps:List Pt) (ks:List Ex) (deep:Nat) {z:Z}(h:ZA L z) (he:z.e=0) (hN:z.R.length≤N) (hd:deep≤40) (h1:ps.length≤4001) (h2:ks.length≤4001):
  b8 Tryz.prog 229 ([]++[R.vp 7 0,R.vp 3 0,R.vp 5 0].map V.one) ((600,rO L z)::(3,pR)::(5,dO deep)::aEp a ps ks) (gD L (.tup []) (yO ex deep (ps,ks) z).2 ((3,pR)::(5,dO deep)::aEp a (yO ex deep (ps,ks) z).1.1 (yO ex deep (ps,ks) z).1.2)):=by
 have J:(ps.map cF).length=ps.length:=η _;have M:(ks.map cY).length=ks.length:=η _;have U:(ps.map cF++[(cF zPt)])[ps.length]?=some (cF zPt):=by rw[A9 (by omega),J,Ch];rfl
 have Y:(ks.map cY++[(cY zEx)])[ks.length]?=some (cY zEx):=by rw[A9 (by omega),M,Ch];rfl
 have hp:=(aXx L hNm (3*z.R.length+1)).2 _ (le_refl _) 0 z h he (le_refl _) (by omega);obtain⟨g1,_,_,g4⟩:=(mI L (3*z.R.length+1)).2.1 0 z h;unfold yO;dsimp only;generalize gJ (3*z.R.length+1) 0 z=y at hp g1 g4 ⊢;obtain⟨q,E⟩:=y;dsimp only at hp g1 g4 ⊢;have g4:E.R.length≤z.R.length:=g4;refine nC (n:=25) tok Tryz.func229 rfl rfl rfl rfl ?_;by_cases u:E.e=0
 case neg=>
  have hp:=b8.err hp u;rw[bD u,hB _ _ u,aG u];refine sk 3 rfl (kpD (.pa (cF zPt)) [(600,rO L z)] hp ?_);exact ak 7 [(5,.all),(8,.row ps.length (cF zPt))] rfl (az trivial)
 have hp:=b8.ok hp u;have r:(ps.map cF++[(cF zPt)]).set ps.length (cF q)=(ps++[q]).map cF:=by
  rw[set_append_right _ _ (by omega),J,Ch,Ah];rfl
 have hle:(ps++[q]).length=ps.length+1:=by rw[ψ];rfl
 refine sk 3 rfl (kc hp ?_);refine ak 7 [(5,.all),(8,.row ps.length (cF zPt))] rfl (az ?_);generalize ps++[q]=P at r hle ⊢;refine AWp.sub (st2:=mk [(0,.one (.vp 7 0)),(1,.one (.vp 3 0)),(2,.one (.vp 5 0))] ((600,rO L E)::(3,pR)::(5,dO deep)::aEp a P ks)) (sl (hh:=⟨⟨_,rfl,.var rfl⟩,⟨_,rfl,.var rfl⟩,⟨_,rfl,.var rfl⟩,⟨_,rfl,.var (by rw[hle,←J];rfl)⟩,⟨_,rfl,Go.AM.Ole.arr⟩,⟨_,rfl,.arrS r⟩,trivial⟩)) ?_;have A:=cZ g1 u arrow;have g2:=g1.need arrow;have O:(aN arrow E).R.length≤E.R.length:=Ze.need arrow E;generalize aN arrow E=z2 at A g2 O ⊢;by_cases B:z2.e=0
 case neg=>
  have hp:=b8.err A B;rw[hB _ _ B,aG B];exact sk 1 rfl (kp hp)
 have A:=b8.ok A B;refine sk 1 rfl (kc A ?_);refine az ?_;have hx:=hS (deep+1) z2 g2 B (by omega) (by omega);generalize ex (deep+1) z2=y at hx ⊢;obtain⟨e,z3⟩:=y;dsimp only at hx ⊢;by_cases I:z3.e=0
 case neg=>
  have hp:=b8.err hx I;rw[aG I];refine aC mixed (akN 5 [] rfl (kpD (.pa (cY zEx)) [(600,rO L z2)] hp ?_));exact ak 7 [(7,.all),(10,.row ks.length (cY zEx))] rfl (az trivial)
 have hx:=b8.ok hx I;rw[b4 I];have r:(ks.map cY++[(cY zEx)]).set ks.length (cY e)=(ks++[e]).map cY:=by
  rw[set_append_right _ _ (by omega),M,Ch,Ah];rfl
 have hle:(ks++[e]).length=ks.length+1:=by rw[ψ];rfl
 refine aC mixed (akN 5 [] rfl (kc hx ?_));refine ak 7 [(7,.all),(10,.row ks.length (cY zEx))] rfl (az ?_);generalize ks++[e]=K at r hle ⊢;exact rtN (ho:=⟨⟨_,rfl,.var rfl⟩,⟨_,rfl,.var rfl⟩,⟨_,rfl,.var rfl⟩,⟨_,rfl,.var (by rw[hle,←M];rfl)⟩,⟨_,rfl,.arrS r⟩,⟨_,rfl,Go.AM.Ole.arr⟩,trivial⟩)
theorem aRs (hO:ExO L ex) (a:Int) (deep:Nat) {z:Z}(h:ZA L z) (he:z.e=0) (hN:z.R.length≤N) (hd:deep≤40):b8 Tryz.prog 220 [rP,I .i64 a,I .i64 (deep:Nat)] [(600,rO L z)] (gD L (.pa (cY (hY ex a deep z).1)) (hY ex a deep z).2 []):=by
 have hx:=hS (deep+1) z h he hN (by omega);obtain⟨g0,o0,_,m0⟩:=hO (deep+1) z h;unfold hY fI cJ;rw[aJ6];dsimp only;generalize ex (deep+1) z=y at hx g0 o0 m0 ⊢;obtain⟨e0,z0⟩:=y;dsimp only at hx g0 o0 m0 ⊢;have m0:z0.R.length≤z.R.length:=m0;refine nC (n:=40) tok Tryz.func220 rfl rfl rfl rfl ?_;refine sg rfl ?_;by_cases q:z0.e=0
 case neg=>
  have hp:=b8.err hx q;rw[bD q,bD q,gA q];dsimp only;rw[bD q,iO q];have hb:(if([]:List Pt)=[] then z0 else z0)=z0:=ξ rfl;rw[hb,aG q];exact aA (aC mixed (akN 4 [] rfl (kp hp)))
 have hx:=b8.ok hx q;refine aA (aC mixed (akN 4 [] rfl (kc hx ?_)));refine ak 4 [(5,.id 520)] rfl (az (AWp.sub (Sub.ownCell (x:=7) (k:=5) (id:=521) 51 10 rfl rfl rfl) ?_));have B:=cZ g0 q ofS;have h1:=g0.need ofS;have l1:(aN ofS z0).R.length≤z0.R.length:=Ze.need ofS z0;generalize aN ofS z0=J at B h1 l1 ⊢;by_cases u:J.e=0
 case neg=>
  have hp:=b8.err B u;rw[bD u,gA u];dsimp only;rw[bD u,iO u];have hb:(if([]:List Pt)=[] then J else J)=J:=ξ rfl;rw[hb,aG u];exact sk 1 rfl (kp hp)
 have B:=b8.ok B u;refine sk 1 rfl (kc B ?_);refine az ?_;have aa:∀(n:Nat) (s:List Pt×List Ex) (z:Z),(wI s.1∧pM s.2∧s.1.length=n∧s.2.length=n+1)→n<60→ZA L z→z.e=0→ZA L (yO ex deep s z).2∧(wI (yO ex deep s z).1.1∧pM (yO ex deep s z).1.2∧(yO ex deep s z).1.1.length=n+1∧(yO ex deep s z).1.2.length=n+1+1)∧((yO ex deep s z).2.e=0→(yO ex deep s z).2.R.length<z.R.length)∧Ze z (yO ex deep s z).2:=fun n s z M hn h he=>by
  obtain⟨q1,q2,q3,q4⟩:=(mI L (3*z.R.length+1)).2.1 0 z h;obtain⟨m1,m2,m3,m4⟩:=hO (deep+1) _ (q1.need arrow);have l1:(aN arrow (gJ (3*z.R.length+1) 0 z).2).R.length≤(gJ (3*z.R.length+1) 0 z).2.R.length:=Ze.need _ _;have q4':(gJ (3*z.R.length+1) 0 z).2.R.length≤z.R.length:=q4;unfold yO;exact⟨m1,⟨pY M.1 q2,rE M.2.1 m2,by dsimp only;rw[ψ,M.2.2.1];rfl,by dsimp only;rw[ψ,M.2.2.2];rfl⟩,fun h0=>by have:=m3 h0;dsimp only;omega,(q4.trans (Ze.need _ _)).trans m4⟩
 have ab:wI ([]:List Pt)∧pM [e0]∧([]:List Pt).length=0∧[e0].length=0+1:=⟨trivial,⟨o0,trivial⟩,rfl,rfl⟩
 have r:=aMl a deep (step:=yO ex deep) (Inv:=fun n s=>wI s.1∧pM s.2∧s.1.length=n∧s.2.length=n+1) (L:=L) (N:=N) (fun n s z M hn h he hN=>aRt hB hS hNm a s.1 s.2 deep h he hN hd (by have:=M.2.2.1;omega) (by have:=M.2.2.2;omega)) aa h1 u (by omega) (s:=([],[e0])) ab;have hok:=uC (sh:=b5) (Inv:=fun n (s:List Pt×List Ex)=>wI s.1∧pM s.2∧s.1.length=n∧s.2.length=n+1) aa ((aN eB J).R.length+1) 0 ([],[e0]) (aN eB J) (Ae _) ab (h1.need eB);unfold vK at r;generalize aN eB J=z2 at r hok ⊢;generalize lpZ b5 (yO ex deep) (z2.R.length+1) 0 ([],[e0]) z2=W at r hok ⊢;obtain⟨⟨ps,ks⟩,E⟩:=W;dsimp only at r hok ⊢;obtain⟨Y,⟨m,hm60,hp,hk,hpl,hkl⟩,_⟩:=hok

 have ac:(ps.map cF).length=ps.length:=η _;have ad:(ks.map cY).length=ks.length:=η _;have ae:= @aP5 b5 E;generalize aN b5 E=z3 at r ae ⊢;by_cases A:z3.e=0
 case neg=>
  have hp:=b8.err r A;rw[iO A];have hb:(if ps=[] then z3 else z3)=z3:=by split<;>rfl
  rw[hb,aG A];exact sk 2 rfl (kp hp)
 have r:=b8.ok r A;refine sk 2 rfl (kc r ?_);refine az ?_;obtain⟨e3,hk6,heB⟩:=ae A;subst e3;have U:=aLi Y hk6;have hLl:=Y.l;have hlt:=Y.lt;have hrow:=b9 aK Y.now;unfold rO at U;unfold rO;rw[U];have hLk:(L.map aK).length=L.length:=η _;by_cases O:ps=[]
 ·have hmn:=bH 12 (bA E).pl;have d:decide ((0:Int)<((ps.length:Nat):Int))=false:=by subst O;rfl
  rw[ξ O];unfold bN;rw[ξ A,aG (show ¬(12:Int)=0 by decide)];refine aA (aC mixed (akN 15 [] rfl ?_));rw[Nat.add_sub_cancel];refine ak 3 [(15,.row (L.length-E.R.length) (aK (bA E)))] rfl ?_;rw[d];refine kpD (.tup []) [] hmn ?_;exact az trivial
 have hmo:=bF 12 (bA E).pl;have d:decide ((0:Int)<((ps.length:Nat):Int))=true:=χ (by have:=length_pos_iff.2 O;omega);rw[ζ O,b4 A];unfold rO;rw[U];refine aA (aC mixed (akN 15 [] rfl ?_));rw[Nat.add_sub_cancel];refine ak 3 [(15,.row (L.length-E.R.length) (aK (bA E)))] rfl ?_;rw[d];refine kc hmo ?_;refine az (AWp.sub (Sub.freeze (id:=520) rfl) ?_);refine AWp.sub (Sub.freeze (id:=521) rfl) ?_;refine sg rfl ?_;unfold cY;rw[uO (aRb _ _ _)];exact aD (rtC trw (hc:=.agg (.c .refl (.c .refl (.c .refl (.c .refl (.hs rfl ad.symm (Go.AM.take_all ad.symm) (.hs rfl ac.symm (Go.AM.take_all ac.symm) (.c .nl (.c .nl (.c .nl (.c .nl (.c .refl (.c .refl (.c .refl (.c .nl (.c .nl .nil)))))))))))))))))
end
theorem v8 {ex:Nat→Z→Ex×Z}{deep:Nat}{a:Int}{f:Nat}{e:Ex}{z:Z}(h:¬z.e=0):fK ex deep a f e z=(e,z):=by
 cases f with
 | zero=>rfl
 | succ f=>rw[fK,ζ h]
theorem aAi {a:Int}{e:Ex}{z:Z}(h:¬z.e=0):sA a (e,z)=(e,z):=by
 unfold sA;dsimp only;rw[lD h,ζ π]
section
variable {L:List Tk}{ex:Nat→Z→Ex×Z}{N:Nat}(hO:ExO L ex) (hB:vF ex) (hS:aO3 L ex N) (hZ:pG L) (hNm:aNa L) (hwt:wt L≤30000)
include hO hB hS hZ hNm hwt
theorem aVu (deep:Nat) {z:Z}(h:ZA L z) (he:z.e=0) (hN:z.R.length≤N+1) (hd:deep≤41):b8 Tryz.prog 197 [rP,I .i64 (deep:Nat)] [(600,rO L z)] (gD L (.pa (cY (aCk ex deep z).1)) (aCk ex deep z).2 []):=by
 have hn:=dZ h;unfold aCk;rw[ζ (fun k=>k he)];refine nC (n:=77) tok Tryz.func197 rfl rfl rfl rfl ?_;refine sg rfl (sk 3 rfl (kc hn ?_));refine kz 2 rfl ?_;by_cases hd40:40<deep
 ·have d:decide (((deep:Nat):Int)≤40)=false:=φ (by omega);have hmn:=bH 13 (bA z).pl;rw[ξ hd40];unfold bN;rw[ξ he,aG (show ¬(13:Int)=0 by decide)];refine sk 4 rfl ?_;rw[d];exact kp hmn
 have d:decide (((deep:Nat):Int)≤40)=true:=χ (by omega);have hmo:=bF 13 (bA z).pl;rw[ζ hd40];refine sk 4 rfl ?_;rw[d];refine kc hmo ?_;refine az ?_;have u:=fD h he aFi;have A:=iK (s:=aFi) h;have B:=h.may aFi;have E:= @oZ aFi z;have J:=(iE aFi z).trans he;have r:=fun e=>aVr hB hS (bA z).pl deep B J (by have:=A e;omega) (by omega)
 generalize bX aFi z=m at u A B E J r ⊢;obtain⟨b,z1⟩:=m;dsimp only at u A B E J r ⊢;refine aA (aE (sk 1 rfl (kc u ?_)));refine kz 1 rfl ?_;cases b with
 | true=>
  rw[ξ rfl];have r:=r rfl;generalize sS ex (bA z).pl deep z1=y at r ⊢;obtain⟨e,z2⟩:=y;dsimp only at r ⊢;refine aB rfl (fun _=>?_) (fun hb=>Bool.noConfusion hb);by_cases M:z2.e=0
  case neg=>
   have hp:=b8.err r M;rw[aG M];exact sk 4 rfl (kp hp)
  have r:=b8.ok r M;rw[b4 M];refine sk 4 rfl (kc r ?_);exact kz 1 rfl (aD (rtC trw))
 | false=>
 obtain rfl:=E rfl;rw[ζ π];clear u A B r E J;refine aB rfl (fun hb=>Bool.noConfusion hb) (fun _=>?_);have u:=fD h he aFh;have A:=iK (s:=aFh) h;have B:=h.may aFh;have E:= @oZ aFh z1;have J:=(iE aFh z1).trans he;have r:=fun e=>aVp hB hS hZ hwt hO (bA z1).pl deep B J (by have:=A e;omega) (by omega)
 generalize bX aFh z1=m at u A B E J r ⊢;obtain⟨b,z2⟩:=m;dsimp only at u A B E J r ⊢;refine sk 1 rfl (kc u ?_);refine kz 1 rfl ?_;cases b with
 | true=>
  rw[ξ rfl];have r:=r rfl;generalize sR ex (bA z1).pl deep z2=y at r ⊢;obtain⟨e,z3⟩:=y;dsimp only at r ⊢;refine aB rfl (fun _=>?_) (fun hb=>Bool.noConfusion hb);by_cases M:z3.e=0
  case neg=>
   have hp:=b8.err r M;rw[aG M];exact sk 4 rfl (kp hp)
  have r:=b8.ok r M;rw[b4 M];refine sk 4 rfl (kc r ?_);exact kz 1 rfl (aD (rtC trw))
 | false=>
 obtain rfl:=E rfl;rw[ζ π];clear u A B r E J;refine aB rfl (fun hb=>Bool.noConfusion hb) (fun _=>?_);have u:=fD h he pN;have A:=iK (s:=pN) h;have B:=h.may pN;have E:= @oZ pN z2;have J:=(iE pN z2).trans he;have r:=fun e=>aRs hB hS hNm hO (bA z2).pl deep B J (by have:=A e;omega) (by omega)
 generalize bX pN z2=m at u A B E J r ⊢;obtain⟨b,z3⟩:=m;dsimp only at u A B E J r ⊢;refine sk 1 rfl (kc u ?_);refine kz 1 rfl ?_;cases b with
 | true=>
  rw[ξ rfl];have r:=r rfl;generalize hY ex (bA z2).pl deep z3=y at r ⊢;obtain⟨e,z4⟩:=y;dsimp only at r ⊢;refine aB rfl (fun _=>?_) (fun hb=>Bool.noConfusion hb);by_cases M:z4.e=0
  case neg=>
   have hp:=b8.err r M;rw[aG M];exact sk 4 rfl (kp hp)
  have r:=b8.ok r M;rw[b4 M];refine sk 4 rfl (kc r ?_);exact kz 1 rfl (aD (rtC trw))
 | false=>
 obtain rfl:=E rfl;rw[ζ π];clear u A B r E J;refine aB rfl (fun hb=>Bool.noConfusion hb) (fun _=>aF ?_);have O:=aI8 hO hS deep h he hN (by omega);obtain⟨o1,_,o3,o4⟩:=mJ hO deep h;have hlz:=h.lp;generalize hT:bA z3=t at hn ⊢;unfold fA;rw[hT];generalize fX ex deep z3=y at O o1 o3 o4 ⊢;obtain⟨⟨e0,b0⟩,z4⟩:=y;dsimp only at O o1 o3 o4 ⊢;have o4:z4.R.length≤z3.R.length:=o4;by_cases U:z4.e=0
 case neg=>
  have hp:=b8.err O U;rw[iO U];have hb:(if b0=false then z4 else z4)=z4:=by split<;>rfl
  rw[hb,v8 U,aAi U,aG U];exact sk 2 rfl (kp hp)
 have O:=b8.ok O U;refine sk 2 rfl (kc O ?_);refine kz 6 rfl ?_;cases b0 with
 | false=>
  have hmn:=bH 12 t.pl;have h12:¬(12:Int)=0:=by decide
  rw[ξ rfl];unfold bN;rw[ξ U,v8 (show ¬(Z.mk z4.R 12 t.pl).e=0 from h12),aAi (show ¬(Z.mk z4.R 12 t.pl).e=0 from h12),aG (show ¬(Z.mk z4.R 12 t.pl).e=0 from h12)];exact sk 3 rfl (kp hmn)
 | true=>
 have hmo:=bF 12 t.pl;have o3:=o3 rfl U;rw[ζ (show ¬(true=false) from fun k=>Bool.noConfusion k)];refine sk 3 rfl (kc hmo ?_);refine az ?_;have hWx:∃W,W=fK ex deep t.pl (z3.R.length+1) e0 z4:=⟨_,rfl⟩
 obtain⟨W,Y⟩:=hWx;rw[←Y];refine aA (aE (aP (fun q:Ex×Z×Nat=>mk [(0,rP),(1,I .i64 (deep:Nat)),(4,.one (.vp 4 0)),(5,.one (.vp 5 0)),(6,.one (.vp 6 0))] [(600,rO L q.2.1),(4,.var 47 (aZj.map .c)),(5,.var 62 ((aK t).map .c)),(6,.var 47 ((cY q.1).map .c))]) (fun q=>ZA L q.2.1∧q.2.1.e=0∧q.2.1.R.length≤z3.R.length∧q.2.1.R.length<q.2.2∧W=fK ex deep t.pl q.2.2 q.1 q.2.1) (fun q=>q.2.1.R.length+1) (e0,z4,z3.R.length+1) ⟨o1,U,o4,by dsimp only;omega,Y⟩ sl ?_));clear Y O o1 o3 o4 U;rintro⟨e,z6,f⟩ ⟨h6,he6,l6,hf,Y⟩;dsimp only at h6 he6 l6 hf Y ⊢;obtain⟨f,rfl⟩:∃g,f=g+1:=⟨f-1,by omega⟩
 rw[fK,ξ he6] at Y;have O:=aI8 hO hS deep h6 he6 (by omega) (by omega);obtain⟨o1,_,o3,o4⟩:=mJ hO deep h6;generalize fX ex deep z6=y at O o1 o3 o4 Y;obtain⟨⟨a,b⟩,z7⟩:=y;dsimp only at O o1 o3 o4 Y;have o4:z7.R.length≤z6.R.length:=o4;by_cases aa:z7.e=0
 case neg=>
  have hp:=b8.err O aa;have hw:∃e,W=(e,z7):=by
   rw[v8 aa] at Y;rw[Y];split<;>exact⟨_,rfl⟩
  obtain⟨e,hw⟩:=hw;rw[hw,aAi aa,aG aa];exact aE (sk 2 rfl (kp hp))
 have O:=b8.ok O aa;refine aE (sk 2 rfl (kc O ?_));refine kz 6 rfl (aA (sg rfl ?_));cases b with
 | false=>
  rw[ξ rfl] at Y;refine aB rfl (fun _=>aS ?_) (fun hb=>Bool.noConfusion hb);subst Y;have hm:=fD o1 aa fH;have g2:=o1.may fH;have he8:=(iE fH z7).trans aa;unfold sA;dsimp only;generalize bX fH z7=m at hm g2 he8 ⊢;obtain⟨b,z8⟩:=m;dsimp only at hm g2 he8 ⊢;refine aA (sk 1 rfl (kc hm ?_));refine az ?_;cases b with
  | true=>
   rw[ξ rfl];have hsc:=lP g2 he8 hZ hwt;generalize bK z8=y at hsc ⊢;obtain⟨s,z9⟩:=y;dsimp only at hsc ⊢;refine aB rfl (fun _=>?_) (fun hb=>Bool.noConfusion hb);by_cases he9:z9.e=0
   case neg=>
    have hp:=b8.err hsc he9;rw[aG he9];refine skh 5 [(3,.all)] rfl (kpD (.pa (nE mT)) [(600,rO L z8)] hp ?_);exact kz 2 rfl trivial
   have hsc:=b8.ok hsc he9;rw[b4 he9];refine skh 5 [(3,.all)] rfl (kc hsc ?_);exact kz 2 rfl (aD (rtC trw))
  | false=>
   rw[ζ π];dsimp only;rw[b4 he8];exact aB rfl (fun hb=>Bool.noConfusion hb) (fun _=>aF (sg rfl (aD (rtC trw))))
 | true=>
  rw[ζ (show ¬(true=false) from fun k=>Bool.noConfusion k)] at Y;have o3:=o3 rfl aa;refine aB rfl (fun hb=>Bool.noConfusion hb) (fun _=>aF (ag [(4,.all)] rfl ⟨(aOx t.pl e a,z7,f),⟨o1,aa,by dsimp only;omega,by dsimp only;omega,Y⟩,by dsimp only;omega,Sub.trans ?_ (vp 6 (cY (aOx t.pl e a)))⟩));exact sl
end
theorem aQs {L:List Tk}(hwt:wt L≤30000) (hZ:pG L) (hNm:aNa L):∀f,aO3 L (yL f) f
 | 0=>fun deep z h _ hN _=>by have:=h.lp;omega
 | f+1=>fun deep z h he hN q=>aVu (mM hwt f) (uL f) (aQs hwt hZ hNm f) hZ hNm hwt deep h he hN q
def aEn (x:In) (bs:List Bd):List (Nat×AObj):=[(1,pR),(5,.var 90 [.c (.str x.cls),.c (.int .i64 x.pl),.c (.str x.con),.c (.sl 1 (x.vars.map aR)),.c (.sl 5 (x.preds.map aQ)),.hs 511 0 bs.length bs.length]),(511,bdA bs 0)]
def ibS (ex:Nat→Z→Ex×Z) (s:List Bd) (z:Z):List Bd×Z:=(s++[(dP ex (aO 1 z).1 0 (aO 1 z).2).1],(dP ex (aO 1 z).1 0 (aO 1 z).2).2)
theorem r9 (ex:Nat→Z→Ex×Z):∀(f n:Nat) (s:List Bd) (z:Z),cE ex f n s z=lpZ b5 (ibS ex) f n s z
 | 0,_,_,_=>rfl
 | f+1,n,s,z=>by
  rw[cE,lpZ];split
  ·exact r9 ex f _ _ _
  ·rfl
theorem nQ {a:Int}:∀{l:List Prd}{z:Z},¬z.e=0→dL a l z=z
 | [],z,_=>rfl
 | p::l,z,h=>by rw[dL,ζ (fun k=>h k.1)];exact nQ h
theorem jJ {b:Bool}{z:Z}(h:¬z.e=0):(instV b z).2=z:=by
 unfold instV;split
 ·rw[lC h];exact bD h
 ·rfl
theorem nP {ex:Nat→Z→Ex×Z}{y:List Prd×Tk×Bool×Tk×Z}{w:List Str×Z}(h:¬w.2.e=0):aN b5 (oB ex (iF y w)).2=w.2:=by
 unfold iF oB;rw[ζ h,nQ h,bD h,r9,gA h];exact bD h
theorem aMv {ex:Nat→Z→Ex×Z}(hB:vF ex) {q:Tk}{deep:Nat}{z:Z}(h:¬z.e=0):(dP ex q deep z).2=z:=by
 unfold dP fW;dsimp only;rw[lC h,eF h,bD h];exact hB _ _ h
def yH:Prop:=∃(L:List Tk) (z z2:Z) (t:Tk) (b:Bd),bI Tryz.prog 164 [rP,tkV t,I .i64 0] [(600,rO L z)] (.pa (bL b)) [(600,rO L z2)]
theorem aRk (x:In) {step:(List Bd)→Z→(List Bd)×Z}{Inv:Nat→(List Bd)→Prop}{L:List Tk}{N:Nat}
  (hone:∀n s z,Inv n s→n<60→ZA L z→z.e=0→z.R.length≤N→b8 Tryz.prog 163 ([]++[R.vp 5 0,R.vp 1 0].map V.one) ((600,rO L z)::aEn x s) (gD L (.tup []) (step s z).2 (aEn x (step s z).1)))
  (hst:∀n s z,Inv n s→n<60→ZA L z→z.e=0→ZA L (step s z).2∧Inv (n+1) (step s z).1∧((step s z).2.e=0→(step s z).2.R.length<z.R.length)∧Ze z (step s z).2)
  {z:Z} (h:ZA L z) (he:z.e=0) (hN:z.R.length≤N) {s:(List Bd)} (hI:Inv 0 s):
  b8 Tryz.prog 113 [rP,.one (.clo 194 [R.vp 2 0]),.one (.clo 163 [R.vp 5 0,R.vp 1 0])] ((600,rO L z)::(2,pR)::aEn x s) (gD L (.tup []) (lpZ b5 step (z.R.length+1) 0 s z).2 ((2,pR)::aEn x (lpZ b5 step (z.R.length+1) 0 s z).1)):=by
 have r:∃W,W=lpZ b5 step (z.R.length+1) 0 s z:=⟨_,rfl⟩
 obtain⟨W,r⟩:=r;rw[←r];refine nC (n:=35) tok Tryz.func113 rfl rfl rfl rfl ?_;refine sg rfl (aE (aP (fun q:Nat×(List Bd)×Z×Nat=>mk [(0,rP),(1,.one (.clo 194 [R.vp 2 0])),(2,.one (.clo 163 [R.vp 5 0,R.vp 1 0])),(6,I .i64 (q.1:Nat))] ((600,rO L q.2.2.1)::(2,pR)::aEn x q.2.1)) (fun q=>Inv q.1 q.2.1∧q.1≤60∧ZA L q.2.2.1∧q.2.2.1.e=0∧q.2.2.1.R.length≤N∧q.2.2.1.R.length<q.2.2.2∧moreA b5 q.1 q.2.2.1=q.2.2.1∧W=lpZ b5 step q.2.2.2 q.1 q.2.1 q.2.2.1) (fun q=>q.2.2.1.R.length) (0,s,z,z.R.length+1) ⟨hI,Ae _,h,he,hN,lt_succ_self _,r5 _ _,r⟩ sl ?_));clear r h he hN hI;rintro⟨n,s,z,f⟩ ⟨hI,hn,h,he,hN,hf,hA,r⟩;dsimp only at hI hn h he hN hf hA r;refine aE (aA (aE (aP (fun y:Z=>mk [(0,rP),(1,.one (.clo 194 [R.vp 2 0])),(2,.one (.clo 163 [R.vp 5 0,R.vp 1 0])),(6,I .i64 (n:Nat))] ((600,rO L y)::(2,pR)::aEn x s)) (fun y=>ZA L y∧y.e=0∧cV z=cV y∧y.R.length≤z.R.length) (fun y=>y.R.length) z ⟨h,he,rfl,le_refl _⟩ sl ?_)));rintro y ⟨h2,A,e2,hle2⟩

 have hm:=fD h2 A cL;obtain⟨m1,m2,m3⟩:=nA h2;have M:=h2.may cL;have he3:=(iE cL y).trans A;generalize bX cL y=m at hm m1 m2 m3 M he3;obtain⟨b,z3⟩:=m;dsimp only at m1 m2 m3 M he3;refine aA (sk 1 rfl (kc hm ?_));refine az (aB rfl (fun hb=>?_) (fun hb=>?_))
 ·have hb:b=true:=hb;have:=m3 hb;exact aF (aE (aF ⟨z3,⟨M,he3,e2.trans m1.symm,by omega⟩,m3 hb,sl⟩))
 have hb:b=false:=hb;obtain⟨g1,g2⟩:=m2 hb;subst g1;have e3:cV z=z3:=e2.trans g2;clear m1 m2 m3 M e2 hm;have hf0:∃g,f=g+1:=⟨f-1,by omega⟩
 obtain⟨f,rfl⟩:=hf0;rw[lpZ] at r;unfold bB at r;rw[hA,e3] at r;have hs3:=pE h2;have hn3:=dZ h2;refine aS (aA (sk 1 rfl (kv (args:=[]) hs3 ?_)));refine az (aB rfl (fun hb=>?_) (fun hb=>?_))
 ·have hb:dX b5 z3=true:=hb;rw[ξ (show ¬z3.e=0∨dX b5 z3=true from .inr hb)] at r;rw[ζ π] at r;rw[r,b4 A];exact aD rtN
 have hb:dX b5 z3=false:=hb;have hnb:¬(¬z3.e=0∨dX b5 z3=true):=fun k=>k.elim (fun k=>k A) fun k=>by rw[hb] at k;cases k
 rw[ζ hnb] at r;refine aF ?_;by_cases hn60:n<60
 case neg=>
  have d:decide (((n:Nat):Int)<60)=false:=φ (by omega);rw[fU (by omega) A] at r;dsimp only at r;rw[φ cK,ζ π] at r;rw[r,aG cK];have hmn:=bH 2 (bA z3).pl;refine sk 5 rfl (kc hn3 ?_);refine ak 1 [] rfl ?_;rw[d];exact kp hmn
 have d:decide (((n:Nat):Int)<60)=true:=χ (by omega);rw[fT (by omega),χ A,ξ rfl] at r;have hmo:=bF 2 (bA z3).pl;refine sk 5 rfl (kc hn3 ?_);refine ak 1 [] rfl ?_;rw[d];refine kc hmo ?_;refine az ?_;have ho:=hone n s z3 hI hn60 h2 A (by omega);obtain⟨B,k2,k3,_⟩:=hst n s z3 hI hn60 h2 A;generalize step s z3=y at ho B k2 k3 r;obtain⟨s4,z4⟩:=y;dsimp only at ho B k2 k3 r;by_cases u:z4.e=0
 case neg=>
  have hp:=b8.err ho u;rw[gA u] at r;rw[r,aG u];exact sk 1 rfl (kpv (args:=[]) hp)
 have ho:=b8.ok ho u;have k3:=k3 u;refine sk 1 rfl (kv (args:=[]) ho ?_);refine az (aA (agN [] rfl ?_));have hlp:=B.lp;have E:=mD B cL;have hn4:=dZ B;have O:=pE B;have hmo4:=bF 12 (bA z4).pl;cases U:isZ cL z4 with
 | true=>
  rw[U] at E;have J:moreA b5 (n+1) z4=z4:=ζ fun k=>by rw[U] at k;cases k.2.2.1
  refine aC mixed (ak 1 [] rfl (kc E ?_));refine ak 7 [(2,.bv true),(5,.bv true)] rfl (kc hn4 ?_);refine ak 1 [(2,.bv true),(5,.bv true)] rfl (kc hmo4 ?_);exact az ⟨(n+1,s4,z4,f),⟨k2,by omega,B,u,by dsimp only;omega,by dsimp only;omega,J,r⟩,by dsimp only;omega,sl⟩
 | false=>
  rw[U] at E;cases Y:dX b5 z4 with
  | true=>
   rw[Y] at O;have J:moreA b5 (n+1) z4=z4:=ζ fun k=>by rw[Y] at k;cases k.2.2.2
   refine aC mixed (ak 1 [] rfl (kc E ?_));refine ak 2 [(2,.bv false)] rfl (kvG (args:=[]) O ?_);refine ak 4 [(2,.bv false),(5,.bv false)] rfl (kc hn4 ?_);refine ak 1 [(2,.bv false),(5,.bv false)] rfl (kc hmo4 ?_);exact az ⟨(n+1,s4,z4,f),⟨k2,by omega,B,u,by dsimp only;omega,by dsimp only;omega,J,r⟩,by dsimp only;omega,sl⟩
  | false=>
   rw[Y] at O;have hmn4:=bH 12 (bA z4).pl;have J:moreA b5 (n+1) z4=⟨z4.R,12,(bA z4).pl⟩:=(ξ ⟨succ_pos n,u,U,Y⟩).trans (ξ u);have h12:¬(12:Int)=0:=by decide
   have hWb:W.2=⟨z4.R,12,(bA z4).pl⟩:=by
    obtain⟨f,rfl⟩:∃g,f=g+1:=⟨f-1,by omega⟩
    rw[lpZ] at r;unfold bB at r;rw[J,lS h12,ξ (show ¬(Z.mk z4.R 12 (bA z4).pl).e=0∨_ from .inl h12),ζ π] at r;rw[r]
   rw[hWb,aG h12];refine aC mixed (ak 1 [] rfl (kc E ?_));refine ak 2 [(2,.bv false)] rfl (kvG (args:=[]) O ?_);refine ak 4 [(2,.bv false),(5,.bv false)] rfl (kc hn4 ?_);refine ak 1 [(2,.bv false),(5,.bv false)] rfl (kpD (.tup []) [] hmn4 ?_);exact az trivial
theorem aMk (x:In) {step:(List Bd)→Z→(List Bd)×Z}{Inv:Nat→(List Bd)→Prop}{L:List Tk}{N:Nat}
  (I:∀n s z,Inv n s→n<60→ZA L z→z.e=0→z.R.length≤N→b8 Tryz.prog 163 ([]++[R.vp 5 0,R.vp 1 0].map V.one) ((600,rO L z)::aEn x s) (gD L (.tup []) (step s z).2 (aEn x (step s z).1)))
  (E:∀n s z,Inv n s→n<60→ZA L z→z.e=0→ZA L (step s z).2∧Inv (n+1) (step s z).1∧((step s z).2.e=0→(step s z).2.R.length<z.R.length)∧Ze z (step s z).2)
  {z:Z} (h:ZA L z) (he:z.e=0) (hN:z.R.length≤N) {s:(List Bd)} (J:Inv 0 s):
  b8 Tryz.prog 158 [rP,.one (.clo 163 [R.vp 5 0,R.vp 1 0])] ((600,rO L z)::aEn x s) (gD L (.tup []) (vK step s z).2 (aEn x (vK step s z).1)):=by
 have q:=cZ h he eB;have h1:=h.need eB;have M:=Ze.need eB z;unfold vK;generalize aN eB z=B at q h1 M ⊢;have O:B.R.length≤z.R.length:=M;refine nC (n:=12) tok Tryz.func158 rfl rfl rfl rfl ?_;refine sg rfl ?_;by_cases r:B.e=0
 case neg=>
  have hp:=b8.err q r;rw[gA r];dsimp only;rw[bD r,aG r];exact sk 1 rfl (kp hp)
 have q:=b8.ok q r;refine sk 1 rfl (kc q ?_);refine az ?_;have u:=aRk x (step:=step) (Inv:=Inv) (L:=L) (N:=N) I E h1 r (by omega) J;have hok:=(uC (sh:=b5) E (B.R.length+1) 0 s B (Ae _) J h1).1
 generalize lpZ b5 step (B.R.length+1) 0 s B=W at u hok ⊢;obtain⟨s2,z2⟩:=W;dsimp only at u hok ⊢;by_cases y:z2.e=0
 case neg=>
  have hp:=b8.err u y;rw[bD y,aG y];exact sk 3 rfl (kp hp)
 have u:=b8.ok u y;refine sk 3 rfl (kc u ?_);refine az ?_;have q:=cZ hok y b5;generalize aN b5 z2=z3 at q ⊢;by_cases A:z3.e=0
 case neg=>
  have hp:=b8.err q A;rw[aG A];exact aC mixed (ak 1 [] rfl (kp hp))
 have q:=b8.ok q A;rw[b4 A];refine aC mixed (ak 1 [] rfl (kc q ?_));exact az rtN
section
variable {L:List Tk}{ex:Nat→Z→Ex×Z}{N:Nat}(hB:vF ex) (hS:aO3 L ex N) (hX:yH)
include hB hS hX
theorem aRp (x:In) (q:List Bd) {z:Z}(h:ZA L z) (he:z.e=0) (hN:z.R.length≤N) (h2:q.length≤4001):
  b8 Tryz.prog 163 ([]++[R.vp 5 0,R.vp 1 0].map V.one) ((600,rO L z)::aEn x q) (gD L (.tup []) (ibS ex q z).2 (aEn x (ibS ex q z).1)):=by
 have E:(q.map bL).length=q.length:=η _;have hz0:(q.map bL++[bL zBd])[q.length]?=some (bL zBd):=by rw[A9 (by omega),E,Ch];rfl
 have hw:=i6 h he 1 (by decide);have g1:=h.word (k:=1) (by decide);have M:(aO 1 z).2.R.length≤z.R.length:=Ze.word 1 z;unfold ibS;generalize aO 1 z=w at hw g1 M ⊢;obtain⟨O,J⟩:=w;dsimp only at hw g1 M ⊢;refine nC (n:=13) tok Tryz.func163 rfl rfl rfl rfl ?_;by_cases u:J.e=0
 case neg=>
  have hp:=b8.err hw u;obtain⟨L',Y,z2',t',b',U⟩:=hX;rw[aMv hB u,aG u];refine aC mixed (ak 4 [] rfl (kpD (tkV t') [(600,rO L' Y)] hp ?_));refine kc U ?_;exact ak 7 [(7,.all),(10,.row q.length (bL zBd))] rfl (az trivial)
 have hw:=b8.ok hw u;have r:=uV hB hS O 0 g1 u (by omega) (by omega);generalize dP ex O 0 J=y at r ⊢;obtain⟨I,z3⟩:=y;dsimp only at r ⊢;by_cases A:z3.e=0
 case neg=>
  have hp:=b8.err r A;rw[aG A];refine aC mixed (ak 4 [] rfl (kc hw ?_));refine kpD (.pa (bL zBd)) [(600,rO L J)] hp ?_;exact ak 7 [(7,.all),(10,.row q.length (bL zBd))] rfl (az trivial)
 have r:=b8.ok r A;rw[b4 A];have B:(q.map bL++[bL zBd]).set q.length (bL I)=(q++[I]).map bL:=by
  rw[set_append_right _ _ (by omega),E,Ch,Ah];rfl
 have hle:(q++[I]).length=q.length+1:=by rw[ψ];rfl
 refine aC mixed (ak 4 [] rfl (kc hw ?_));refine kc r ?_;refine ak 7 [(7,.all),(10,.row q.length (bL zBd))] rfl (az ?_);generalize hSe:q++[I]=S at B hle ⊢;exact rtN (ho:=⟨⟨_,rfl,.var rfl⟩,⟨_,rfl,.var rfl⟩,⟨_,rfl,.var (by rw[hle,←E];rfl)⟩,⟨_,rfl,.arrS B⟩,trivial⟩)
theorem aRo (hO:ExO L ex) (hZ:pG L) (hwt:wt L≤30000) {z:Z}(h:ZA L z) (he:z.e=0) (hN:z.R.length≤N):b8 Tryz.prog 119 [rP] [(600,rO L z)] (gD L (.pa (jC (iS ex z).1)) (iS ex z).2 []):=by
 unfold iS;have hV:∀b y,instV b y=if b=true then((aU y).1.map (·.text),aN oR (aU y).2) else([],y):=fun _ _=>rfl
 have hBy:∀y w,iF y w=aN eB (dL y.2.1.pl y.1 (if w.2.e=0 then cB w.1.length 8 y.2.1.pl w.2 else w.2)):=fun _ _=>rfl
 have hA:bO z=((bE z).1,(aO 2 (bE z).2).1,(bX cW (aO 2 (bE z).2).2).1,(aO 2 (bX cW (aO 2 (bE z).2).2).2).1,(aO 2 (bX cW (aO 2 (bE z).2).2).2).2):=rfl;rw[hA];have hp:=xU h he hZ;obtain⟨h1,hpl,l1⟩:=n3 h hwt;generalize bE z=y at hp h1 hpl l1 ⊢;obtain⟨ps,z1⟩:=y;dsimp only at hp h1 hpl l1 ⊢;refine nC (n:=59) tok Tryz.func119 rfl rfl rfl rfl ?_;refine sg rfl ?_;by_cases A:z1.e=0
 case neg=>
  have hp:=b8.err hp A;rw[lR A,lD A];dsimp only;rw[lR A,nP (by rw[jJ A];exact A),jJ A,aG A];exact sk 1 rfl (kp hp)
 have hp:=b8.ok hp A;refine sk 1 rfl (kc hp ?_);refine kz 1 rfl ?_;have hw:=i6 h1 A 2 (by decide);have h2:=h1.word (k:=2) (by decide);have l2:=l1.trans (Ze.word 2 z1);generalize aO 2 z1=y at hw h2 l2 ⊢;obtain⟨u,z2⟩:=y;dsimp only at hw h2 l2 ⊢;by_cases B:z2.e=0
 case neg=>
  have hp:=b8.err hw B;rw[lD B];dsimp only;rw[lR B,nP (by rw[jJ B];exact B),jJ B,aG B];exact sk 1 rfl (kp hp)
 have hw:=b8.ok hw B;refine sk 1 rfl (kc hw ?_);refine kz 2 rfl (sg rfl ?_);have hm:=fD h2 B cW;have h3:=h2.may cW;have l3:=l2.trans (Ze.may cW z2);have he3:=(iE cW z2).trans B;generalize bX cW z2=y at hm h3 l3 he3 ⊢;obtain⟨br,z3⟩:=y;dsimp only at hm h3 l3 he3 ⊢;have O:=i6 h3 he3 2 (by decide);have h4:=h3.word (k:=2) (by decide);have l4:=l3.trans (Ze.word 2 z3);generalize aO 2 z3=y at O h4 l4 ⊢;obtain⟨cn,z4⟩:=y;dsimp only at O h4 l4 ⊢;by_cases r:z4.e=0
 case neg=>
  have hp:=b8.err O r;rw[nP (by rw[jJ r];exact r),jJ r,aG r];refine aA (sk 1 rfl (kc hm ?_));refine az ?_;cases br with
  | true=>
   exact aB rfl (fun _=>sk 1 rfl (kp hp)) (fun hb=>Bool.noConfusion hb)
  | false=>
   exact aB rfl (fun hb=>Bool.noConfusion hb) (fun _=>aC mixed (ak 1 [] rfl (kp hp)))
 have O:=b8.ok O r;obtain⟨h5,hvl,l5⟩:=aB7 br h4;have q:=hV br z4;generalize instV br z4=y at h5 hvl l5 q ⊢;obtain⟨vs,z5⟩:=y;dsimp only at h5 hvl l5 ⊢;by_cases E:z5.e=0
 case neg=>
  rw[nP E];dsimp only;rw[aG E];refine aA (sk 1 rfl (kc hm ?_));refine az ?_;cases br with
  | false=>
   rw[ζ π] at q;obtain⟨rfl,rfl⟩:=Prod.mk.inj q;exact absurd r E
  | true=>
   rw[ξ rfl] at q;have U:=nI h4 r;have g1:=h4.words;have Y:=fE h4;have aa:(aU z4).2.e=0:=by unfold aU;rw[ξ r];exact r
   generalize aU z4=y at U g1 Y q aa;obtain⟨l,z45⟩:=y;dsimp only at U g1 Y q aa;have htx:=uT l Y;have hnd:=cZ g1 aa oR;obtain⟨rfl,rfl⟩:=Prod.mk.inj q;have hp:=b8.err hnd E;refine aB rfl (fun _=>sk 1 rfl (kc O ?_)) (fun hb=>Bool.noConfusion hb);refine kz 3 rfl (sk 1 rfl (kc U ?_));refine kc htx ?_;exact kz 2 rfl (aC mixed (ak 1 [] rfl (kp hp)))
 have hvk:(vs.map aR).length=vs.length:=η _;have hpk:(ps.map aQ).length=ps.length:=η _;refine aA (AWp.cut (mk [(1,.one (.vp 1 0)),(2,.one (.vp 2 0)),(3,.one (.c (.sl 5 (ps.map aQ)))),(4,.one (.vp 4 0)),(5,.one (.vp 5 0))] [(600,rO L z5),(1,pR),(2,.var 90 (aY8.map .c)),(4,.var 62 ((aK u).map .c)),(5,.var 90 [.c (.str u.text),.c (.int .i64 u.pl),.c (.str cn.text),.c (.sl 1 (vs.map aR)),.c (.sl 5 (ps.map aQ)),.c .nl])]) ?_ ?_)
 ·refine sk 1 rfl (kc hm ?_);refine az ?_;cases br with
  | true=>
   rw[ξ rfl] at q;have U:=nI h4 r;have g1:=h4.words;have Y:=fE h4;have aa:(aU z4).2.e=0:=by unfold aU;rw[ξ r];exact r
   generalize aU z4=y at U g1 Y q aa;obtain⟨l,z45⟩:=y;dsimp only at U g1 Y q aa;have htx:=uT l Y;have hnd:=cZ g1 aa oR;obtain⟨rfl,rfl⟩:=Prod.mk.inj q;have hnd:=b8.ok hnd E;refine aB rfl (fun _=>sk 1 rfl (kc O ?_)) (fun hb=>Bool.noConfusion hb);refine kz 3 rfl (sk 1 rfl (kc U ?_));refine kc htx ?_;refine kz 2 rfl (aC mixed (ak 1 [] rfl (kc hnd ?_)));exact az sl
  | false=>
   rw[ζ π] at q;obtain⟨rfl,rfl⟩:=Prod.mk.inj q;refine aB rfl (fun hb=>Bool.noConfusion hb) (fun _=>aC mixed (ak 1 [] rfl (kc O ?_)));refine kz 3 rfl (Sub.trans ?_ (vp 5 [.str u.text,.int .i64 u.pl,.str cn.text,.sl 1 [],.sl 5 (ps.map aQ),.nl]));exact sl
 have hBz:=hBy (ps,u,br,cn,z4) (vs,z5);dsimp only at hBz;rw[ξ E] at hBz;rw[hBz];have hC:∀y,oB ex y=lpZ b5 (ibS ex) (y.R.length+1) 0 [] y:=fun y=>r9 ex _ _ _ _
 rw[hC];clear hBz hC hV hBy hA hm hw O hp q;by_cases hv8:vs.length≤8
 case neg=>
  have d:decide (((vs.length:Nat):Int)≤8)=false:=φ (by omega);have hm:=bH 2 u.pl;rw[fU hv8 E,nQ cK,bD cK,gA cK];dsimp only;rw[bD cK,aG cK];refine sk 6 rfl ?_;rw[hvk,d];exact kp hm
 have d:decide (((vs.length:Nat):Int)≤8)=true:=χ (by omega);have hm:=bF 2 u.pl;rw[fT hv8];refine sk 6 rfl ?_;rw[hvk,d];refine kc hm ?_;refine az ?_;have M:∃F,F=dL u.pl ps z5:=⟨_,rfl⟩
 obtain⟨F,M⟩:=M;rw[←M];refine aA (sg rfl (aE (aP (fun i:Nat=>mk [(1,.one (.vp 1 0)),(2,.one (.vp 2 0)),(4,.one (.vp 4 0)),(5,.one (.vp 5 0)),(41,.one (.c (.sl 5 (ps.map aQ)))),(42,I .i64 ((ps.map aQ).length:Nat)),(43,I .i64 (i:Nat))] [(600,rO L z5),(1,pR),(2,.var 90 (aY8.map .c)),(4,.var 62 ((aK u).map .c)),(5,.var 90 [.c (.str u.text),.c (.int .i64 u.pl),.c (.str cn.text),.c (.sl 1 (vs.map aR)),.c (.sl 5 (ps.map aQ)),.c .nl])]) (fun i=>i≤ps.length∧F=dL u.pl (ps.drop i) z5) (fun i=>ps.length-i) 0 ⟨Ae _,M⟩ sl ?_)));clear M;rintro i ⟨hi,M⟩;refine sg rfl (aA (aB rfl (fun hb=>?_) (fun hb=>?_)))
 ·have hlt:=ltD hb hpk;obtain⟨p,hpi⟩:=aJ hlt;have hpi':=b9 aQ hpi;have hds:ps.drop i=p::ps.drop (i+1):=by
   obtain⟨k1,k2⟩:=Af.1 hpi;rw[←k2];exact Bf k1
  rw[hds,dL] at M;refine aF (aA (aE (sgh [(0,.row i (aQ p))] rfl ?_)));by_cases hf2:p.ty.form=2
  case neg=>
   have d:decide (p.ty.form=2)=false:=φ hf2;have hmn:=bH 12 u.pl;have h12:¬(12:Int)=0:=by decide
   rw[ξ ⟨E,hf2⟩] at M;unfold bN at M;rw[ξ E,nQ h12] at M;subst M;rw[bD h12,gA h12];dsimp only;rw[bD h12,aG h12];refine aC mixed (ak 6 [] rfl ?_);rw[d];exact kp hmn
  have d:decide (p.ty.form=2)=true:=χ hf2;have hmo:=bF 12 u.pl;rw[ζ (fun k=>k.2 hf2)] at M;refine aC mixed (ak 6 [] rfl ?_);rw[d];refine kc hmo ?_;exact az (agN [] rfl ⟨i+1,⟨hlt,M⟩,by dsimp only;omega,sl⟩)
 have hge:=geD hb hpk hi;subst hge;rw[Cq,dL] at M;subst M;refine aS (AWp.sub (Sub.ownCell (x:=5) (k:=5) (id:=511) 109 33 rfl rfl rfl) ?_);have hst:∀(n:Nat) (s:List Bd) (z:Z),(eY s∧s.length=n)→n<60→ZA L z→z.e=0→ZA L (ibS ex s z).2∧(eY (ibS ex s z).1∧(ibS ex s z).1.length=n+1)∧((ibS ex s z).2.e=0→(ibS ex s z).2.R.length<z.R.length)∧Ze z (ibS ex s z).2:=fun n s z hI hn h he=>by
  have g1:=h.word (k:=1) (by decide);obtain⟨k1,k2,k3,k4⟩:=qD hO (aO 1 z).1 0 g1;have l1:(aO 1 z).2.R.length≤z.R.length:=Ze.word 1 z;unfold ibS;exact⟨k1,⟨nN hI.1 k2,by dsimp only;rw[ψ,hI.2];rfl⟩,fun h0=>by have:=k3 h0;dsimp only;omega,(Ze.word 1 z).trans k4⟩
 have hI0:eY ([]:List Bd)∧([]:List Bd).length=0:=⟨trivial,rfl⟩
 have l5N:F.R.length≤N:=le_trans (l4.trans l5) hN;have J:=aMk ⟨u.text,u.pl,cn.text,vs,ps,[]⟩ (step:=ibS ex) (Inv:=fun n s=>eY s∧s.length=n) (L:=L) (N:=N) (fun n s z hI hn h he hN=>aRp hB hS hX _ s h he hN (by have:=hI.2;omega)) hst h5 E l5N (s:=[]) hI0;have hok:=uC (sh:=b5) (Inv:=fun n (s:List Bd)=>eY s∧s.length=n) hst ((aN eB F).R.length+1) 0 [] (aN eB F) (Ae _) hI0 (h5.need eB);unfold vK aEn at J;dsimp only at J;generalize aN eB F=z7 at J hok ⊢;generalize lpZ b5 (ibS ex) (z7.R.length+1) 0 [] z7=W at J hok ⊢;obtain⟨bs,zB⟩:=W;dsimp only at J hok ⊢;have hbk:(bs.map bL).length=bs.length:=η _;generalize aN b5 zB=z8 at J ⊢;by_cases he8:z8.e=0
 case neg=>
  have hp:=b8.err J he8;rw[aG he8];exact sk 2 rfl (kp hp)
 have J:=b8.ok J he8;rw[b4 he8];refine sk 2 rfl (kc J ?_);refine az (AWp.sub (Sub.freeze (id:=511) rfl) ?_);exact sg rfl (aD (rtC trw (hc:=.agg (.c .refl (.c .refl (.c .refl (.c .refl (.c .refl (.hs rfl hbk.symm (Go.AM.take_all hbk.symm) .nil)))))))))
end
def rZ (ex:Nat→Z→Ex×Z) (s:Pg×List Sg) (z:Z):(Pg×List Sg)×Z:=eD ex s.1 s.2 z
theorem aG9 (ex:Nat→Z→Ex×Z):∀(f n:Nat) (p:Pg) (sigs:List Sg) (z:Z),dR ex f n p sigs z=lpZ [] (rZ ex) f n (p,sigs) z
 | 0,_,_,_,_=>rfl
 | f+1,n,p,sigs,z=>by
  rw[dR,lpZ];split
  ·exact aG9 ex f _ _ _ _
  ·rfl
theorem aOi {L:List Tk}{z:Z}(h:ZA L z):bI Tryz.prog 114 ([]++[R.vp 1 0].map V.one) [(600,rO L z),(1,pR)] (B (dX [] z)) [(600,rO L z),(1,pR)]:=by
 have hn:=dZ h;have e:dX [] z=decide ((bA z).kind=6):=ξ rfl;rw[e];refine bM (n:=8) tok Tryz.func114 rfl rfl rfl ?_;refine sg rfl (sk 3 rfl (kc hn ?_));exact kz 3 rfl (aD rtT)
def aSh (L:List Tk) (N:Nat):Prop:=∀z,ZA L z→z.e=0→z.R.length≤N→b8 Tryz.prog 118 [rP] [(600,rO L z)] (gD L (.pa (iT (eE z).1)) (eE z).2 [])
theorem aRl {step:(Pg×List Sg)→Z→(Pg×List Sg)×Z}{Inv:Nat→(Pg×List Sg)→Prop}{L:List Tk}{N:Nat}
  (hone:∀n s z,Inv n s→n<60→ZA L z→z.e=0→z.R.length≤N→b8 Tryz.prog 115 ([]++[R.vp 1 0,R.vp 3 0,R.vp 4 0].map V.one) ((600,rO L z)::(1,pR)::aIa s.1 s.2) (gD L (.tup []) (step s z).2 ((1,pR)::aIa (step s z).1.1 (step s z).1.2)))
  (hst:∀n s z,Inv n s→n<60→ZA L z→z.e=0→ZA L (step s z).2∧Inv (n+1) (step s z).1∧((step s z).2.e=0→(step s z).2.R.length<z.R.length)∧Ze z (step s z).2)
  {z:Z} (h:ZA L z) (he:z.e=0) (hN:z.R.length≤N) {s:(Pg×List Sg)} (hI:Inv 0 s):
  b8 Tryz.prog 113 [rP,.one (.clo 114 [R.vp 1 0]),.one (.clo 115 [R.vp 1 0,R.vp 3 0,R.vp 4 0])] ((600,rO L z)::(1,pR)::aIa s.1 s.2) (gD L (.tup []) (lpZ [] step (z.R.length+1) 0 s z).2 ((1,pR)::aIa (lpZ [] step (z.R.length+1) 0 s z).1.1 (lpZ [] step (z.R.length+1) 0 s z).1.2)):=by
 have r:∃W,W=lpZ [] step (z.R.length+1) 0 s z:=⟨_,rfl⟩
 obtain⟨W,r⟩:=r;rw[←r];refine nC (n:=35) tok Tryz.func113 rfl rfl rfl rfl ?_;refine sg rfl (aE (aP (fun q:Nat×(Pg×List Sg)×Z×Nat=>mk [(0,rP),(1,.one (.clo 114 [R.vp 1 0])),(2,.one (.clo 115 [R.vp 1 0,R.vp 3 0,R.vp 4 0])),(6,I .i64 (q.1:Nat))] ((600,rO L q.2.2.1)::(1,pR)::aIa q.2.1.1 q.2.1.2)) (fun q=>Inv q.1 q.2.1∧q.1≤60∧ZA L q.2.2.1∧q.2.2.1.e=0∧q.2.2.1.R.length≤N∧q.2.2.1.R.length<q.2.2.2∧moreA [] q.1 q.2.2.1=q.2.2.1∧W=lpZ [] step q.2.2.2 q.1 q.2.1 q.2.2.1) (fun q=>q.2.2.1.R.length) (0,s,z,z.R.length+1) ⟨hI,Ae _,h,he,hN,lt_succ_self _,r5 _ _,r⟩ sl ?_));clear r h he hN hI;rintro⟨n,s,z,f⟩ ⟨hI,hn,h,he,hN,hf,hA,r⟩;dsimp only at hI hn h he hN hf hA r;refine aE (aA (aE (aP (fun y:Z=>mk [(0,rP),(1,.one (.clo 114 [R.vp 1 0])),(2,.one (.clo 115 [R.vp 1 0,R.vp 3 0,R.vp 4 0])),(6,I .i64 (n:Nat))] ((600,rO L y)::(1,pR)::aIa s.1 s.2)) (fun y=>ZA L y∧y.e=0∧cV z=cV y∧y.R.length≤z.R.length) (fun y=>y.R.length) z ⟨h,he,rfl,le_refl _⟩ sl ?_)));rintro y ⟨h2,A,e2,hle2⟩

 have hm:=fD h2 A cL;obtain⟨m1,m2,m3⟩:=nA h2;have M:=h2.may cL;have he3:=(iE cL y).trans A;generalize bX cL y=m at hm m1 m2 m3 M he3;obtain⟨b,z3⟩:=m;dsimp only at m1 m2 m3 M he3;refine aA (sk 1 rfl (kc hm ?_));refine az (aB rfl (fun hb=>?_) (fun hb=>?_))
 ·have hb:b=true:=hb;have:=m3 hb;exact aF (aE (aF ⟨z3,⟨M,he3,e2.trans m1.symm,by omega⟩,m3 hb,sl⟩))
 have hb:b=false:=hb;obtain⟨g1,g2⟩:=m2 hb;subst g1;have e3:cV z=z3:=e2.trans g2;clear m1 m2 m3 M e2 hm;have hf0:∃g,f=g+1:=⟨f-1,by omega⟩
 obtain⟨f,rfl⟩:=hf0;rw[lpZ] at r;unfold bB at r;rw[hA,e3] at r;have hs3:=aOi h2;have hn3:=dZ h2;refine aS (aA (sk 1 rfl (kv (args:=[]) hs3 ?_)));refine az (aB rfl (fun hb=>?_) (fun hb=>?_))
 ·have hb:dX [] z3=true:=hb;rw[ξ (show ¬z3.e=0∨dX [] z3=true from .inr hb)] at r;rw[ζ π] at r;rw[r,b4 A];exact aD rtN
 have hb:dX [] z3=false:=hb;have hnb:¬(¬z3.e=0∨dX [] z3=true):=fun k=>k.elim (fun k=>k A) fun k=>by rw[hb] at k;cases k
 rw[ζ hnb] at r;refine aF ?_;by_cases hn60:n<60
 case neg=>
  have d:decide (((n:Nat):Int)<60)=false:=φ (by omega);rw[fU (by omega) A] at r;dsimp only at r;rw[φ cK,ζ π] at r;rw[r,aG cK];have hmn:=bH 2 (bA z3).pl;refine sk 5 rfl (kc hn3 ?_);refine ak 1 [] rfl ?_;rw[d];exact kp hmn
 have d:decide (((n:Nat):Int)<60)=true:=χ (by omega);rw[fT (by omega),χ A,ξ rfl] at r;have hmo:=bF 2 (bA z3).pl;refine sk 5 rfl (kc hn3 ?_);refine ak 1 [] rfl ?_;rw[d];refine kc hmo ?_;refine az ?_;have ho:=hone n s z3 hI hn60 h2 A (by omega);obtain⟨B,k2,k3,_⟩:=hst n s z3 hI hn60 h2 A;generalize step s z3=y at ho B k2 k3 r;obtain⟨s4,z4⟩:=y;dsimp only at ho B k2 k3 r;by_cases u:z4.e=0
 case neg=>
  have hp:=b8.err ho u;rw[gA u] at r;rw[r,aG u];exact sk 1 rfl (kpv (args:=[]) hp)
 have ho:=b8.ok ho u;have k3:=k3 u;refine sk 1 rfl (kv (args:=[]) ho ?_);refine az (aA (agN [] rfl ?_));have hlp:=B.lp;have E:=mD B cL;have hn4:=dZ B;have O:=aOi B;have hmo4:=bF 12 (bA z4).pl;cases U:isZ cL z4 with
 | true=>
  rw[U] at E;have J:moreA [] (n+1) z4=z4:=ζ fun k=>by rw[U] at k;cases k.2.2.1
  refine aC mixed (ak 1 [] rfl (kc E ?_));refine ak 7 [(2,.bv true),(5,.bv true)] rfl (kc hn4 ?_);refine ak 1 [(2,.bv true),(5,.bv true)] rfl (kc hmo4 ?_);exact az ⟨(n+1,s4,z4,f),⟨k2,by omega,B,u,by dsimp only;omega,by dsimp only;omega,J,r⟩,by dsimp only;omega,sl⟩
 | false=>
  rw[U] at E;cases Y:dX [] z4 with
  | true=>
   rw[Y] at O;have J:moreA [] (n+1) z4=z4:=ζ fun k=>by rw[Y] at k;cases k.2.2.2
   refine aC mixed (ak 1 [] rfl (kc E ?_));refine ak 2 [(2,.bv false)] rfl (kvG (args:=[]) O ?_);refine ak 4 [(2,.bv false),(5,.bv false)] rfl (kc hn4 ?_);refine ak 1 [(2,.bv false),(5,.bv false)] rfl (kc hmo4 ?_);exact az ⟨(n+1,s4,z4,f),⟨k2,by omega,B,u,by dsimp only;omega,by dsimp only;omega,J,r⟩,by dsimp only;omega,sl⟩
  | false=>
   rw[Y] at O;have hmn4:=bH 12 (bA z4).pl;have J:moreA [] (n+1) z4=⟨z4.R,12,(bA z4).pl⟩:=(ξ ⟨succ_pos n,u,U,Y⟩).trans (ξ u);have h12:¬(12:Int)=0:=by decide
   have hWb:W.2=⟨z4.R,12,(bA z4).pl⟩:=by
    obtain⟨f,rfl⟩:∃g,f=g+1:=⟨f-1,by omega⟩
    rw[lpZ] at r;unfold bB at r;rw[J,lS h12,ξ (show ¬(Z.mk z4.R 12 (bA z4).pl).e=0∨_ from .inl h12),ζ π] at r;rw[r]
   rw[hWb,aG h12];refine aC mixed (ak 1 [] rfl (kc E ?_));refine ak 2 [(2,.bv false)] rfl (kvG (args:=[]) O ?_);refine ak 4 [(2,.bv false),(5,.bv false)] rfl (kc hn4 ?_);refine ak 1 [(2,.bv false),(5,.bv false)] rfl (kpD (.tup []) [] hmn4 ?_);exact az trivial
section
variable {L:List Tk}{ex:Nat→Z→Ex×Z}{N:Nat}(hB:vF ex) (hS:aO3 L ex N) (hX:yH) (hO:ExO L ex) (hZ:pG L) (hwt:wt L≤30000) (hC:aSh L N)
include hB hS hX hO hZ hwt hC
theorem aVm (n:Nat) (p:Pg) (sigs:List Sg) {z:Z}(h:ZA L z) (he:z.e=0) (hN:z.R.length≤N) (hn:n<60) (hp:PgOk n p) (hs:gQ sigs∧sigs.length≤n):
  b8 Tryz.prog 115 ([]++[R.vp 1 0,R.vp 3 0,R.vp 4 0].map V.one) ((600,rO L z)::(1,pR)::aIa p sigs) (gD L (.tup []) (eD ex p sigs z).2 ((1,pR)::aIa (eD ex p sigs z).1.1 (eD ex p sigs z).1.2)):=by
 obtain⟨U,Y,aa,I⟩:=hp;have J:(p.datas.map iG).length=p.datas.length:=η _;have M:(p.classes.map iT).length=p.classes.length:=η _;have O:(p.insts.map jC).length=p.insts.length:=η _;refine nC (n:=36) tok Tryz.func115 rfl rfl rfl rfl ?_;unfold eD;have hm:=fD h he fV;have hl:=iK (s:=fV) h;have ha:=h.may fV;have u:= @oZ fV z;have hx:=(iE fV z).trans he;have q:=fun(_:(bX fV z).2.R.length≤N)=>aRr ha hx hZ
 generalize bX fV z=m at hm hl ha u hx q ⊢;obtain⟨b,E⟩:=m;dsimp only at hm hl ha u hx q ⊢;refine aE (sk 1 rfl (kc hm ?_));refine kz 1 rfl ?_;cases b with
 | true=>
  rw[ξ rfl];have q:=q (by have:=hl rfl;omega);generalize jE E=y at q ⊢;obtain⟨e,z2⟩:=y;dsimp only at q ⊢;refine aB rfl (fun _=>?_) (fun hb=>Bool.noConfusion hb);by_cases r:z2.e=0
  case neg=>
   have hp:=b8.err q r;rw[aG r];refine aC mixed (ak 3 [] rfl (kpD (.pa (iG ⟨[],0,[],[]⟩)) [(600,rO L E)] hp ?_));exact ak 4 [(4,.all)] rfl (az trivial)
  have q:=b8.ok q r;rw[b4 r];have A:p.datas.map iG++[iG e]=(p.datas++[e]).map iG:=by rw[Ah];rfl
  have hle:(p.datas++[e]).length=p.datas.length+1:=by rw[ψ];rfl
  refine aC mixed (ak 3 [] rfl (kc q ?_));refine ak 4 [(4,.all)] rfl (az ?_);generalize p.datas++[e]=S at A hle ⊢;exact rtN (ho:=⟨⟨_,rfl,.var rfl⟩,⟨_,rfl,.var rfl⟩,⟨_,rfl,.var rfl⟩,⟨_,rfl,.var (by rw[hle,←J];rfl)⟩,⟨_,rfl,Go.AM.Ole.arr⟩,⟨_,rfl,Go.AM.Ole.arr⟩,⟨_,rfl,.arrS A⟩,⟨_,rfl,Go.AM.Ole.arr⟩,⟨_,rfl,Go.AM.Ole.arr⟩,trivial⟩)
 | false=>
 obtain rfl:=u rfl;rw[ζ π];clear hm hl ha u hx q;refine aB rfl (fun hb=>Bool.noConfusion hb) (fun _=>?_);have hm:=fD h he fY;have hl:=iK (s:=fY) h;have ha:=h.may fY;have u:= @oZ fY E;have hx:=(iE fY E).trans he;have q:=fun(k:(bX fY E).2.R.length≤N)=>hC _ ha hx k
 generalize bX fY E=m at hm hl ha u hx q ⊢;obtain⟨b,z2⟩:=m;dsimp only at hm hl ha u hx q ⊢;refine sk 1 rfl (kc hm ?_);refine kz 1 rfl ?_;cases b with
 | true=>
  rw[ξ rfl];have q:=q (by have:=hl rfl;omega);generalize eE z2=y at q ⊢;obtain⟨e,z3⟩:=y;dsimp only at q ⊢;refine aB rfl (fun _=>?_) (fun hb=>Bool.noConfusion hb);by_cases r:z3.e=0
  case neg=>
   have hp:=b8.err q r;rw[aG r];refine aC mixed (ak 3 [] rfl (kpD (.pa (iT ⟨[],0,[],[],[]⟩)) [(600,rO L z2)] hp ?_));exact ak 4 [(4,.all)] rfl (az trivial)
  have q:=b8.ok q r;rw[b4 r];have A:p.classes.map iT++[iT e]=(p.classes++[e]).map iT:=by rw[Ah];rfl
  have hle:(p.classes++[e]).length=p.classes.length+1:=by rw[ψ];rfl
  refine aC mixed (ak 3 [] rfl (kc q ?_));refine ak 4 [(4,.all)] rfl (az ?_);generalize p.classes++[e]=S at A hle ⊢;exact rtN (ho:=⟨⟨_,rfl,.var rfl⟩,⟨_,rfl,.var rfl⟩,⟨_,rfl,.var rfl⟩,⟨_,rfl,.var (by rw[hle,←M];rfl)⟩,⟨_,rfl,Go.AM.Ole.arr⟩,⟨_,rfl,Go.AM.Ole.arr⟩,⟨_,rfl,Go.AM.Ole.arr⟩,⟨_,rfl,.arrS A⟩,⟨_,rfl,Go.AM.Ole.arr⟩,trivial⟩)
 | false=>
 obtain rfl:=u rfl;rw[ζ π];clear hm hl ha u hx q;refine aB rfl (fun hb=>Bool.noConfusion hb) (fun _=>?_);have hm:=fD h he lW;have hl:=iK (s:=lW) h;have ha:=h.may lW;have u:= @oZ lW z2;have hx:=(iE lW z2).trans he;have q:=fun(k:(bX lW z2).2.R.length≤N)=>aRo hB hS hX hO hZ hwt ha hx k
 generalize bX lW z2=m at hm hl ha u hx q ⊢;obtain⟨b,z3⟩:=m;dsimp only at hm hl ha u hx q ⊢;refine sk 1 rfl (kc hm ?_);refine kz 1 rfl ?_;cases b with
 | true=>
  rw[ξ rfl];have q:=q (by have:=hl rfl;omega);generalize iS ex z3=y at q ⊢;obtain⟨e,z4⟩:=y;dsimp only at q ⊢;refine aB rfl (fun _=>?_) (fun hb=>Bool.noConfusion hb);by_cases r:z4.e=0
  case neg=>
   have hp:=b8.err q r;rw[aG r];refine aC mixed (ak 3 [] rfl (kpD (.pa (jC ⟨[],0,[],[],[],[]⟩)) [(600,rO L z3)] hp ?_));exact ak 4 [(4,.all)] rfl (az trivial)
  have q:=b8.ok q r;rw[b4 r];have A:p.insts.map jC++[jC e]=(p.insts++[e]).map jC:=by rw[Ah];rfl
  have hle:(p.insts++[e]).length=p.insts.length+1:=by rw[ψ];rfl
  refine aC mixed (ak 3 [] rfl (kc q ?_));refine ak 4 [(4,.all)] rfl (az ?_);generalize p.insts++[e]=S at A hle ⊢;exact rtN (ho:=⟨⟨_,rfl,.var rfl⟩,⟨_,rfl,.var rfl⟩,⟨_,rfl,.var rfl⟩,⟨_,rfl,.var (by rw[hle,←O];rfl)⟩,⟨_,rfl,Go.AM.Ole.arr⟩,⟨_,rfl,Go.AM.Ole.arr⟩,⟨_,rfl,Go.AM.Ole.arr⟩,⟨_,rfl,Go.AM.Ole.arr⟩,⟨_,rfl,.arrS A⟩,trivial⟩)
 | false=>
 obtain rfl:=u rfl;rw[ζ π];clear hm hl ha u hx q;refine aB rfl (fun hb=>Bool.noConfusion hb) (fun _=>?_);have B:=aVk hB hS hZ hwt p sigs 0 h he hN (by omega) (by have:=hs.2;omega) (by have:=I.1;omega);generalize aW ex sigs p.binds 0 z3=y at B ⊢;obtain⟨⟨S,Bs⟩,z4⟩:=y;dsimp only at B ⊢;by_cases r:z4.e=0
 case neg=>
  have hp:=b8.err B r;rw[aG r];exact aC mixed (ak 2 [] rfl (kp hp))
 have B:=b8.ok B r;rw[b4 r];refine aC mixed (ak 2 [] rfl (kc B ?_));exact az rtN
theorem aE0 {z:Z}(h:ZA L z) (he:z.e=0) (hN:z.R.length≤N):b8 Tryz.prog 65 [rP] [(600,rO L z)] (gD L (.pa (rG (dY ex z).1)) (dY ex z).2 []):=by
 have J:∀(n:Nat) (s:Pg×List Sg) (z:Z),(PgOk n s.1∧gQ s.2∧s.2.length≤n)→n<60→ZA L z→z.e=0→ZA L (rZ ex s z).2∧(PgOk (n+1) (rZ ex s z).1.1∧gQ (rZ ex s z).1.2∧(rZ ex s z).1.2.length≤n+1)∧((rZ ex s z).2.e=0→(rZ ex s z).2.R.length<z.R.length)∧Ze z (rZ ex s z).2:=fun n s z E hn h he=>by
  obtain⟨a,b,c,d,e⟩:=aCu hO hwt h E.1 E.2;exact⟨a,⟨b,c⟩,d,e⟩
 have M:PgOk 0 zPg∧gQ ([]:List Sg)∧([]:List Sg).length≤0:=⟨⟨⟨le_refl _,fun d B=>(by cases B)⟩,⟨le_refl _,fun d B=>(by cases B)⟩,⟨le_refl _,fun d B=>(by cases B)⟩,⟨le_refl _,trivial⟩⟩,fun d B=>(by cases B),le_refl _⟩
 have r:=aRl (step:=rZ ex) (Inv:=fun n s=>PgOk n s.1∧gQ s.2∧s.2.length≤n) (L:=L) (N:=N) (fun n s z E hn h he hN=>aVm hB hS hX hO hZ hwt hC n s.1 s.2 h he hN hn E.1 E.2) J h he hN (s:=(zPg,[])) M;have hok:=uC (sh:=[]) (Inv:=fun n (s:Pg×List Sg)=>PgOk n s.1∧gQ s.2∧s.2.length≤n) J (z.R.length+1) 0 (zPg,[]) z (Ae _) M h;unfold dY;rw[aG9];unfold pZ;generalize lpZ [] (rZ ex) (z.R.length+1) 0 (zPg,[]) z=W at r hok ⊢;obtain⟨⟨p,sigs⟩,z2⟩:=W;dsimp only at r hok ⊢;obtain⟨g1,⟨m,hm60,hp,hs,hsl⟩,_⟩:=hok;refine nC (n:=15) tok Tryz.func65 rfl rfl rfl rfl ?_;refine sg rfl (sg rfl (sg rfl (AWp.sub (Sub.ownCell (x:=3) (k:=0) (id:=512) 81 5 rfl rfl rfl) ?_)));refine AWp.sub (Sub.ownCell (x:=3) (k:=1) (id:=513) 87 6 rfl rfl rfl) ?_;refine AWp.sub (Sub.ownCell (x:=3) (k:=2) (id:=514) 90 6 rfl rfl rfl) ?_;refine AWp.sub (Sub.ownCell (x:=3) (k:=3) (id:=511) 109 33 rfl rfl rfl) ?_;refine AWp.sub (Sub.ownCell (x:=4) (k:=0) (id:=510) 100 9 rfl rfl rfl) ?_;by_cases u:z2.e=0
 case neg=>
  have hp:=b8.err r u;rw[nO u,aG u];exact sk 3 rfl (kp hp)
 have r:=b8.ok r u;refine sk 3 rfl (kc r ?_);refine az ?_;have hsk:sigs.length≤m:=hsl;have q:=aI7 sigs p.binds u (by omega) (by have:p.binds.length≤m:=hp.b.1;omega);obtain⟨p1,p2,p3,p4⟩:=iI sigs p.binds z2 g1 hs hp.b.2;have I:= @iZ sigs p.binds z2;generalize dI sigs p.binds z2=y at q p1 p2 p3 p4 I ⊢;obtain⟨Bs,z6⟩:=y;dsimp only at q p1 p2 p3 p4 I ⊢;unfold aSp at q;dsimp only at q;refine AWp.sub (Sub.freeze (id:=510) rfl) ?_;by_cases A:z6.e=0
 case neg=>
  rw[ζ A] at q;have hpx:aDr _ _ _ _ _:=q;rw[aG A];exact sk 3 rfl (kp hpx)
 rw[ξ A] at q;have q:bI _ _ _ _ _ _:=q;obtain rfl:=I A;rw[b4 A];have O:p.datas.length=(p.datas.map iG).length:=(η _).symm;have U:p.classes.length=(p.classes.map iT).length:=(η _).symm;have Y:p.insts.length=(p.insts.map jC).length:=(η _).symm;have aa:p.binds.length=(Bs.map bL).length:=by rw[η,p3]
 refine sk 3 rfl (kc q ?_);refine kz 2 rfl (AWp.sub (Sub.freeze (id:=511) rfl) ?_);refine AWp.sub (Sub.freeze (id:=512) rfl) ?_;refine AWp.sub (Sub.freeze (id:=513) rfl) ?_;refine AWp.sub (Sub.freeze (id:=514) rfl) ?_;exact sg rfl (aD (rtC trw (hc:=.agg (.hs rfl O (Go.AM.take_all O) (.hs rfl U (Go.AM.take_all U) (.hs rfl Y (Go.AM.take_all Y) (.hs rfl aa (Go.AM.take_all aa) .nil)))))))
end
end Go.Proofs.YtkhgpgihmphfdaaGreatDoor
namespace Go.AM
open Go
def rD (a:Act) (D:List Deferred):Act:=⟨a.tmps,a.defers++D⟩
theorem zX (a:Act) (D:List Deferred) (d:Option Nat) (v:Value):(rD a D).put d v=rD (a.put d v) D:=by cases d<;>rfl
theorem aCi (a:Act) (D:List Deferred):(rD a D).eval=a.eval:=by funext x;cases x<;>rfl
section
variable {F:Fence}{m:Nat}{P:Program}{o:Oper}{a:Act}{w:World}{K K':Act→World→Prop}{Q Q':Exit→Act→World→Prop}{D:List Deferred}
theorem aKl (q:∀a w,K a w→K' (rD a D) w) (hq:∀e a w,Q e a w→Q' e (rD a D) w) {r:Result Next}(h:o.uponIn F m P a K Q r):o.uponIn F m P (rD a D) K' Q' r:=by
 have hl:LetsOut Q→LetsOut Q':=fun⟨a,w,h⟩=>⟨_,w,hq _ a w h⟩
 have hp:∀d v w,K (a.put d v) w→K' ((rD a D).put d v) w:=fun d v w h=>by rw[zX];exact q _ _ h
 cases r with
 | ok x w'=>
  cases x<;>simp only[Oper.uponIn] at h ⊢<;>
   first
    | exact hp _ _ _ h
    | exact⟨h.1,CallsIn.mono h.2 (fun e u he=>by cases e<;>first | exact hp _ _ _ he | exact hq _ _ _ he | exact hl he)⟩
    | exact⟨h.1,RowsIn.mono h.2 (fun _ _ he=>hp _ _ _ he)⟩
    | exact⟨h.1,RoundIn.mono h.2 (fun e u he=>by cases e<;>first | exact hp _ _ _ he | exact hq _ _ _ he | exact hl he)⟩
    | (have:=q _ _ h;rw[←zX] at this;exact this)
    | exact h
 | halt x w'=>cases x<;>simp only[Oper.uponIn] at h ⊢<;>first | exact hq _ _ _ h | exact h
theorem aKj (q:∀a w,K a w→K' (rD a D) w) (hq:∀e a w,Q e a w→Q' e (rD a D) w) (h:o.wpIn F m P a w K Q):o.wpIn F m P (rD a D) w K' Q':=by
 unfold Oper.wpIn at h ⊢;rw[aCi];exact⟨h.1,aKl q hq h.2⟩
theorem aAr {ops:Array Oper}{i:Nat}(q:∀a w,K a w→K' (rD a D) w) (hq:∀e a w,Q e a w→Q' e (rD a D) w) (h:wpOpIn F m P ops Q i K a w):wpOpIn F m P ops Q' i K' (rD a D) w:=by
 unfold wpOpIn at h ⊢;cases ho:ops[i]? with
 | none=>rw[ho] at h;exact q _ _ h
 | some o=>
  rw[ho] at h;dsimp only at h ⊢;rw[show(rD a D).tmps=a.tmps from rfl,aCi];split
  ·rename_i hw;rw[ξ hw] at h;exact aKj q hq h
  ·rename_i hw;rw[ζ hw] at h;exact⟨h.1,by rw[zX];exact q _ _ h.2⟩
end
section
variable {P:Program}{n:Nat}{ops:Array Oper}{D:List Deferred}{Q':Exit→Act→World→Prop}
end
theorem aGa {n:Nat}{args:List V}{hin:List (Nat×AObj)}{S:Sto}{μ:Mu}{w:World}{vals:List Value}{k:Nat}(hk:k=n) (hle:Nat.ble args.length n=true) (I:Inv ⟨w,S,k8 μ (look hin),μ,look hin⟩ S μ (look hin) w) (q:aY S μ (look hin) args vals):
  Sim ⟨w,S,k8 μ (look hin),μ,look hin⟩ n S μ (mk (yN 0 args) hin) ⟨(⟨vals⟩:Array Value)++Array.replicate (k-(⟨vals⟩:Array Value).size) undef,[]⟩ w:=by
 have E:=aY.length q;have J:=Ao hle;refine⟨I,by simp;omega,rfl,fun t v ht=>?_⟩;have key:∀(l:List V) (us:List Value) (k:Nat),aY S μ (look hin) l us→look (yN k l) t=some v→∃j,t=k+j∧∃u,us[j]?=some u∧aL S μ (look hin) v u:=by
  intro l
  induction l with
  | nil=>intro us k _ h;simp[yN,look] at h
  | cons x l M=>
   intro us k r hl;simp only[aY] at r;obtain⟨u,y,rfl,h1,h2⟩:=r;simp only[yN,look] at hl;split at hl
   ·rename_i A;cases hl;exact⟨0,by rw[δ A];rfl,u,rfl,h1⟩
   ·obtain⟨j,B,O,U,Y⟩:=M y (k+1) h2 hl;exact⟨j+1,by omega,O,by simpa using U,Y⟩
 obtain⟨j,h1,u,h2,B⟩:=key args vals 0 q ht;rw[Bb] at h1;subst h1;have hj:t<vals.length:=(Af.1 h2).1
 have:((⟨vals⟩:Array Value)++Array.replicate (k-(⟨vals⟩:Array Value).size) undef).getD t undef=u:=by
  rw[Ad,Bv (by simpa using hj)];simp[h2]
 show aL S μ (look hin) v (((⟨vals⟩:Array Value)++Array.replicate (k-(⟨vals⟩:Array Value).size) undef).getD t undef);rw[this];exact B
theorem aIj {P:Program}{T:TT}{fn:Func}{n:Nat}{S S':Sto}{μ μ':Mu}{w w':World}{hin hout:List (Nat×AObj)}{res:V}{st:St}{a:Act}(M:Tok P T) (hs:Sim ⟨w,S,k8 μ (look hin),μ,look hin⟩ n S' μ' st a w') (O:Fin T fn st hin res hout):
  ∃v,(results fn a.tmps).run P w'=.ok v w'∧Inv ⟨w,S,k8 μ (look hin),μ,look hin⟩ S' μ' (look hout) w'∧aL S' μ' (look hout) res v:=by
 obtain⟨⟨vs,vs',U,hc,E⟩,r,hok⟩:=O;simp only[Ab] at hok;obtain⟨⟨⟨⟨⟨Y,k2⟩,k3⟩,k4⟩,k5⟩,k6⟩:=hok;obtain⟨us,h1,h2⟩:=qQ M hs U;refine⟨_,h1,?_⟩;have q:=hc.rel hs.inv.obj h2;have y:∀i∈keys hout,Good st.h (look hout) (fun i=>i) i:=by
  intro i hi;obtain⟨o',A⟩:=cM hi;obtain⟨o,g1,g2⟩:=r.mem _ (b6 A);exact⟨o,o',g1,A,g2⟩
 have I:aL S' μ' st.h res (aFx us):=by
  rw[←E]
  match vs',us,q with
  | [],us,q=>simp only[aY] at q;subst q;simp[aPa,aFx,aL,aY]
  | [v],us,q=>
   simp only[aY] at q;obtain⟨u,J,rfl,h5,rfl⟩:=q;exact h5
  | v::v'::l,us,q=>
   have B:=q;simp only[aY] at B;obtain⟨u,J,rfl,_,u',us'',rfl,_,_⟩:=B;simp only[aPa,aFx,aL];exact⟨_,rfl,q⟩
 refine⟨hs.inv.keep r k2 fun id o ho=>bT k4 id (mem_map.2 ⟨_,b6 (show look hin id=some o from ho),rfl⟩),?_⟩;have:=aL.ren (H:=st.h) (H':=look hout) (σ:=fun i=>i) res _ (fun i hi=>y i (bT Y i hi)) (by rw[V.ren_id];exact I);exact this
def qG (draw:Bool) (P:Program) (ops:Array Oper) (Q:Exit→Act→World→Prop) (a:Act) (w:World):Prop:=
 match draw with
 | true=>wpAnyIn (Wd none) 0 P .any ops Q ops.size (Array.replicate ops.size false) a { w with drawn:=w.drawn+1 }
 | false=>wpOpsIn (Wd none) 0 P ops Q (List.range ops.size) a w
theorem qG.wp {draw:Bool}{P:Program}{ops:Array Oper}{Q:Exit→Act→World→Prop}{a:Act}{w:World}{id:Nat}(hm:P.follows .mixedOrders=true) (h:qG draw P ops Q a w):(Code.region id ops draw).wpIn (Wd none) 0 P Q a w:=by
 cases draw with
 | true=>exact wpIn_region_any hm h
 | false=>exact wpIn_region h
section
variable {P:Program}{ops:Array Oper}{Q Q':Exit→Act→World→Prop}{D:List Deferred}(hq:∀e a w,Q e a w→Q' e (rD a D) w)
include hq
theorem aJ5 {md:Region.Mode}:∀(fuel:Nat) (listed:Array Bool) (a:Act) (w:World),wpAnyIn (Wd none) 0 P md ops Q fuel listed a w→wpAnyIn (Wd none) 0 P md ops Q' fuel listed (rD a D) w
 | 0,_,_,_,h=>⟨h.1,hq _ _ _ h.2⟩
 | fuel+1,_,_,_,h=>⟨fun k=>hq _ _ _ (h.1 k),fun i hi=>aAr (fun a w=>aJ5 fuel _ a w) hq (h.2 i hi)⟩
theorem aHj:∀(l:List Nat) (a:Act) (w:World),wpOpsIn (Wd none) 0 P ops Q l a w→wpOpsIn (Wd none) 0 P ops Q' l (rD a D) w
 | [],a,w,h=>hq _ _ _ h
 | i::l,a,w,h=>by
  rw[Br] at h ⊢;exact aAr (fun a w=>aHj l a w) hq h
theorem qG.ext {draw:Bool}{a:Act}{w:World}(h:qG draw P ops Q a w):qG draw P ops Q' (rD a D) w:=by
 cases draw with
 | true=>exact aJ5 hq _ _ _ _ h
 | false=>exact aHj hq _ _ _ h
end
section
variable {P:Program}{n:Nat}{ops:Array Oper}{Q':Exit→Act→World→Prop}{G:Ctx}{S:Sto}{μ:Mu}{st st':St}{a:Act}{w:World}{xs:REs}{draw:Bool}
theorem aBq (A:Run P n ops 0 st xs st') (hlen:Nat.beq xs.length ops.size=true) (r:(!draw || (cR (preds ops) xs []&&dU ops))=true)
  (I:∀S' μ' u w',Sim G n S' μ' st' u w'→Q' .normal u w') (hs:Sim G n S μ st a w):qG draw P ops Q' a w:=by
 have q:=δ hlen;cases draw with
 | true=>
  simp only[Bool.not_true,Bh,Ab] at r;refine aGh (G:=G) A q r.1 r.2 I ops.size _ (by simp) ?_ ?_ S μ a _ ?_ none
  ·have:((List.range ops.size).filter fun i=>!(Array.replicate ops.size false).getD i false)=List.range ops.size:=by
    apply filter_eq_self.2;intro i hi;simp at hi;simp[hi]
   rw[this,length_range]
  ·intro i o ho hl;simp[A3] at hl;split at hl<;>simp at hl
  ·have J:∀(B:REs) (k:Nat) (s:St),cA (fun j=>(Array.replicate ops.size false).getD j false) k B s=s:=by
    intro B
    induction B with
    | nil=>intro k s;rfl
    | cons y B E=>
     intro k s;have M:(Array.replicate ops.size false).getD k false=false:=by
      simp[A3];split<;>rfl
     simp only[cA,M,Bj];exact E _ _
   rw[J];exact⟨hs.inv.same rfl rfl rfl rfl,hs.size,hs.defers,hs.env⟩
 | false=>
  have key:∀(k:Nat) (st st':St) (xs:REs),Run P n ops k st xs st'→k+xs.length=ops.size→(∀S' μ' u w',Sim G n S' μ' st' u w'→Q' .normal u w')→∀S μ a w,Sim G n S μ st a w→wpOpsIn (Wd none) 0 P ops Q' (List.range' k xs.length) a w:=by
   intro k st st' xs A
   induction A with
   | nil=>intro _ hq S μ a w hs;exact hq S μ a w hs
   | @cons k st rd f xs st' O _ E=>
    intro hl hq S μ a w hs;simp only[κ,range'_succ,Br];exact O st (fL.refl _ _) G S μ a w _ Q' hs (fun S1 U Y w1 s1=>E (by simp at hl;omega) hq S1 U Y w1 s1) none
  have:=key 0 st st' xs A (by omega) I S μ a w hs;show wpOpsIn _ _ _ _ _ (List.range ops.size) _ _;rwa [range_eq_range',←q]
theorem aHk {v:Value}{p:Nat}(r:RunP v p P n ops 0 st xs st') (hp:p<xs.length) (hle:xs.length≤ops.size) (q:draw=true→xs.length=ops.size∧(cR (preds ops) xs []&&dU ops)=true)
  (hQ:∀S' μ' e h a' w',Sim G n S' μ' ⟨e,h,st.d⟩ a' w'→Q' (pan v) a' w') (hs:Sim G n S μ st a w):qG draw P ops Q' a w:=by
 cases draw with
 | true=>
  obtain⟨u,q⟩:=q rfl;rw[Ab] at q;refine aA9 (G:=G) r u q.1 q.2 (by omega) hQ ops.size _ (by simp) ?_ ?_ ?_ S μ a _ ?_ none
  ·have:((List.range ops.size).filter fun i=>!(Array.replicate ops.size false).getD i false)=List.range ops.size:=by
    apply filter_eq_self.2;intro i hi;simp at hi;simp[hi]
   rw[this,length_range]
  ·intro i o ho hl;simp[A3] at hl;split at hl<;>simp at hl
  ·simp[A3];split<;>rfl
  ·have hz:∀(A:REs) (k:Nat) (s:St),cA (fun j=>(Array.replicate ops.size false).getD j false) k A s=s:=by
    intro A
    induction A with
    | nil=>intro k s;rfl
    | cons y A E=>
     intro k s;have hf:(Array.replicate ops.size false).getD k false=false:=by
      simp[A3];split<;>rfl
     simp only[cA,hf,Bj];exact E _ _
   rw[hz];exact⟨hs.inv.same rfl rfl rfl rfl,hs.size,hs.defers,hs.env⟩
 | false=>
  have key:∀(k:Nat) (s B:St) (xs:REs) (m:Nat),RunP v p P n ops k s xs B→k≤p→p<k+xs.length→k+xs.length≤m→s.d=st.d→∀S μ a w,Sim G n S μ s a w→wpOpsIn (Wd none) 0 P ops Q' (List.range' k (m-k)) a w:=by
   intro k s B xs m r
   induction r with
   | nil=>intro h1 h2;simp at h2;omega
   | @cons k s rd f xs B hne I _ E=>
    intro h1 h2 J M S μ a w hs;simp only[κ] at h2 J;rw[show m-k=(m-(k+1))+1 by omega];simp only[range'_succ,Br];exact I s (fL.refl _ _) G S μ a w _ Q' hs (fun S1 O U Y s1=>E (by omega) (by omega) (by omega) M S1 O U Y s1) none
   | @pan s rd f xs B I _ _=>
    intro h1 h2 J M S μ a w hs;simp only[κ] at h2 J;rw[show m-p=(m-(p+1))+1 by omega];simp only[range'_succ,Br];exact I s (fL.refl _ _) G S μ a w _ Q' hs (fun S1 O e1 h1 U Y s1=>hQ S1 O e1 h1 U Y (by rw[←M];exact s1)) none
  have:=key 0 st st' xs ops.size r (by omega) (by omega) (by omega) rfl S μ a w hs;show wpOpsIn _ _ _ _ _ (List.range ops.size) _ _;rwa [range_eq_range',←sub_zero ops.size]
end
def aAq (P:Program) (o:Oper):Prop:=∀ρ w x w',(execOp ρ o).run P w=.ok x w'→(∃v,x=.value v)∨x=.skip
section
variable {P:Program}{w:World}
theorem aXa {s:Sem Value}{x:Next}{w':World}(h:(do pure (Next.value (←s)):Sem Next).run P w=.ok x w'):∃v,x=.value v:=by
 simp only[ε] at h;cases hs:s.run P w with
 | ok v q=>
  rw[hs] at h;simp only[θ,τ] at h;cases h;exact⟨v,rfl⟩
 | halt y q=>rw[hs] at h;simp[Result.andThen] at h
theorem aXb {s:Sem Unit}{x:Next}{w':World}(h:(do s;pure Next.skip:Sem Next).run P w=.ok x w'):x=.skip:=by
 simp only[ε] at h;cases hs:s.run P w with
 | ok v q=>
  rw[hs] at h;simp only[θ,τ] at h;cases h;rfl
 | halt y q=>rw[hs] at h;simp[Result.andThen] at h
end
def isVal:Op→Bool
 | .move _ | .assign _ | .alloc _ | .load .. | .store .. | .fieldAddr .. | .extract ..=>true
 | _=>false
theorem aLu {P:Program}{o:Oper}(h:isVal o.op=true):aAq P o:=by
 intro ρ w x w' q;cases ho:o.op<;>rw[ho] at h<;>first | cases h | skip
 all_goals simp only[execOp,ho] at q
 all_goals first | exact .inl (aXa q) | exact .inr (aXb q) | (simp only[τ] at q;cases q;exact .inl ⟨_,rfl⟩) | skip
section
variable {m:Nat}{P:Program}{ops:Array Oper}{Q:Exit→Act→List Frame→World→Prop}{i:Nat}{rest:List Nat}{a:Act}{cs cs':List Frame}{w w':World}{o:Oper}
theorem aGg (ho:ops[i]?=some o) (q:o.guard=none) (r:(execOp a.eval o).run P w=.ok .recover w) (hc:recoverD cs=none) (h:wpOpsSIn (Wd none) m P ops Q rest (a.put o.dst .nilIface) cs w):wpOpsSIn (Wd none) m P ops Q (i::rest) a cs w:=by
 unfold wpOpsSIn;simp only[ho];refine⟨fun _ _=>trivial,?_⟩;rw[ξ (by simp[Region.wanted,q]),r];dsimp only;rw[hc];exact h
theorem aDy {v:Value}(ho:ops[i]?=some o) (q:o.guard=none) (r:(execOp a.eval o).run P w=.ok .recover w) (hc:recoverD cs=some (v,cs')) (h:wpOpsSIn (Wd none) m P ops Q rest (a.put o.dst v) cs' w):wpOpsSIn (Wd none) m P ops Q (i::rest) a cs w:=by
 unfold wpOpsSIn;simp only[ho];refine⟨fun _ _=>trivial,?_⟩;rw[ξ (by simp[Region.wanted,q]),r];dsimp only;rw[hc];exact h
theorem aGf {v:Value}(ho:ops[i]?=some o) (q:o.guard=none) (r:(execOp a.eval o).run P w=.ok (.value v) w') (h:wpOpsSIn (Wd none) m P ops Q rest (a.put o.dst v) cs w'):wpOpsSIn (Wd none) m P ops Q (i::rest) a cs w:=by
 unfold wpOpsSIn;simp only[ho];refine⟨fun _ _=>trivial,?_⟩;rw[ξ (by simp[Region.wanted,q]),r];exact h
theorem aTe {d:Nat}{v:Value}(h:d<a.tmps.size):(a.put (some d) v).eval (.tmp d)=v:=by
 show((a.put (some d) v).tmps).getD d undef=v;show(a.tmps.setIfInBounds d v).getD d undef=v;rw[aCb _ _ _ _ h,ξ rfl]
theorem aT8 (r:∀o,ops[i]?=some o→aAq P o) (h:wpOpIn (Wd none) 0 P ops (fun e a w=>Q e a cs w) i (fun a w=>wpOpsSIn (Wd none) m P ops Q rest a cs w) a w):wpOpsSIn (Wd none) m P ops Q (i::rest) a cs w:=by
 unfold wpOpIn at h;unfold wpOpsSIn;cases ho:ops[i]? with
 | none=>rw[ho] at h;exact h
 | some o=>
  rw[ho] at h;dsimp only at h ⊢;split
  ·rename_i hw;rw[ξ hw] at h;refine⟨h.1,?_⟩;have h2:=h.2;rw[show(Wd none).round=none from rfl,Oper.semAt_none] at h2;cases q:(execOp a.eval o).run P w with
   | ok x w'=>
    rw[q] at h2;rcases r o ho _ _ _ _ q with⟨v,rfl⟩ | rfl
    ·exact h2
    ·exact h2
   | halt y w'=>
    rw[q] at h2;cases y<;>first | exact h2 | exact h2.elim
  ·rename_i hw;rw[ζ hw] at h;exact h
theorem aBr {n:Nat}{G:Ctx}(r:∀(i:Nat) (o:Oper),ops[i]?=some o→aAq P o∨i=0∨i=1) {k:Nat}{st st':St}{xs:REs}(y:Run P n ops k st xs st') (q:2≤k∨∀(i:Nat) (o:Oper),ops[i]?=some o→aAq P o):
  (∀S' μ' u w',Sim G n S' μ' st' u w'→Q .normal u cs w')→∀S μ a w,Sim G n S μ st a w→wpOpsSIn (Wd none) m P ops Q (List.range' k xs.length) a cs w:=by
 induction y with
 | nil=>intro hq S μ a w hs;exact hq S μ a w hs
 | @cons k st rd f xs st' A _ B=>
  intro hq S μ a w hs;rw[κ,range'_succ];refine aT8 (fun o ho=>?_) (A st (fL.refl _ _) G S μ a w _ _ hs (fun S1 E I J s1=>B (q.imp (fun h=>by omega) id) hq S1 E I J s1) none);rcases q with q | q
  ·rcases r k o ho with h | h | h
   ·exact h
   ·omega
   ·omega
  ·exact q k o ho
theorem aXe {n:Nat}{G:Ctx}{S:Sto}{μ:Mu}{st:St}{id:Nat}(hs:Sim G n S μ st a w) (q:∀(i:Nat) (o:Oper),ops[i]?=some o→aAq P o) (h:iV (fun _=>False) P n ops false 0 st [] (fun st'=>∀S' μ' r w',Sim G n S' μ' st' r w'→Q .normal r cs w')):(Code.region id ops false).wpSIn (Wd none) m P Q a cs w:=by
 rcases h with⟨xs,st',h1,h2,y,u⟩ | ⟨v,p,xs,st',h0,_⟩
 case inr=>exact h0.elim
 have hl:=δ h2;rw[Bb] at hl;refine wpSIn_region ?_;rw[range_eq_range',←hl];exact aBr (fun i o ho=>.inl (q i o ho)) h1 (.inr q) u S μ a w hs
theorem aTg {n:Nat}{G:Ctx}{S:Sto}{μ:Mu}{st:St}(hs:Sim G n S μ st a w) (r:∀(i:Nat) (o:Oper),ops[i]?=some o→aAq P o∨i=0∨i=1) (h:iV (fun _=>False) P n ops false 2 st [] (fun st'=>∀S' μ' q w',Sim G n S' μ' st' q w'→Q .normal q cs w')):wpOpsSIn (Wd none) m P ops Q (List.range' 2 (ops.size-2)) a cs w:=by
 rcases h with⟨xs,st',h1,h2,y,u⟩ | ⟨v,p,xs,st',h0,_⟩
 case inr=>exact h0.elim
 have hl:=δ h2;rw[←hl,Nat.add_sub_cancel_left];exact aBr r h1 (.inl (le_refl 2)) u S μ a w hs
def aO7 (k:Nat) (ops:Array Oper):Bool:=(ops.toList.drop k).all fun o=>isVal o.op
theorem iW {k:Nat}(h:aO7 k ops=true) (i:Nat) (o:Oper) (ho:ops[i]?=some o) (hi:k≤i):aAq P o:=by
 refine aLu ((A8.1 h) o ?_);refine Aa (i:=i-k) ?_;rw[Am,show k+(i-k)=i by omega];simpa using ho
end
end Go.AM
namespace Go.Proofs.YtkhgpgihmphfdaaGreatDoor
open Go Go.AM
set_option maxRecDepth 20000
set_option maxHeartbeats 4000000
def atO (e p:Int):AObj:=.var 33 [.c (.int .i64 e),.c (.int .i64 p)]
theorem aFc (e p:Int) (w:World):(Instr.typeAssert (tF e p) 20 163 true).run Tryz.prog w=.ok (.tuple #[.agg #[.int .i64 e,.int .i64 p],.bool true]) w:=by kernel_rfl
theorem aJ1 (w:World):(Instr.typeAssert .nilIface 20 163 true).run Tryz.prog w=.ok (.tuple #[.agg #[.int .i64 0,.int .i64 0],.bool false]) w:=by kernel_rfl
theorem aVj (b:Bool) (e p:Int) (m:Nat) {S:Sto}{μ:Mu}{w:World}{vals:List Value}(hI:Go.AM.Inv ⟨w,S,k8 μ (Go.AM.look [(4,atO 0 0)]),μ,Go.AM.look [(4,atO 0 0)]⟩ S μ (Go.AM.look [(4,atO 0 0)]) w) (hv:aY S μ (Go.AM.look [(4,atO 0 0)]) [.one (.vp 4 0)] vals) (u I:FrameMode)
  (hu:∀(r:Frame) (cs:List Frame),r.mode=u→(b=true∧recoverD (r::cs)=some (tF e p,{ r with mode:=I }::cs))∨(b=false∧recoverD (r::cs)=none∧I=u∧e=0∧p=0)):
  CallsDIn (Wd none) m Tryz.prog 110 ⟨vals⟩ u w (fun Y u' w'=>(∃v,Y=.returned v)∧u'=I∧∃S' μ',Go.AM.Inv ⟨w,S,k8 μ (Go.AM.look [(4,atO 0 0)]),μ,Go.AM.look [(4,atO 0 0)]⟩ S' μ' (Go.AM.look [(4,atO e p)]) w'):=by
 refine callsDIn_of_wpSIn Tryz.func110 rfl trivial (fun r cs hc=>?_);have q:=aGa (n:=11) (k:=(Tryz.f110).ntmps) rfl rfl hI hv;generalize hG:(⟨w,S,k8 μ (Go.AM.look [(4,atO 0 0)]),μ,Go.AM.look [(4,atO 0 0)]⟩:Ctx)=G at q ⊢;generalize ha:(⟨(⟨vals⟩:Array Value)++Array.replicate ((Tryz.f110).ntmps-(⟨vals⟩:Array Value).size) undef,[]⟩:Act)=a at q;have J:∀(x y:Int) (S':Sto) (μ':Mu) (U:Act) (w':World) (st:St) (cs':List Frame),Sim G 11 S' μ' st U w'→st.d=[]→st.h 4=some (atO x y)→cs'={ r with mode:=I }::cs→x=e→y=p→bodyPostS Tryz.prog Tryz.f110 r cs (fun Y u' w'=>(∃v,Y=.returned v)∧u'=I∧∃S' μ',Go.AM.Inv G S' μ' (Go.AM.look [(4,atO e p)]) w') .normal U cs' w':=by
  intro x y S' μ' U w' st cs' hs hd h4 hcs hx hy;subst hx hy;have hd':U.defers=[]:=by have:=hs.defers;rw[hd] at this;exact this
  subst hG;obtain⟨v,g1,g2,g3⟩:=aIj (fn:=Tryz.f110) (res:=.tup []) (hout:=[(4,atO x y)]) tok hs ⟨⟨[],[],.nil,.nil,rfl⟩,⟨⟨_,h4,.var rfl⟩,trivial⟩,rfl⟩;exact⟨hd',I,hcs,v,g1,⟨_,rfl⟩,rfl,_,_,g2⟩
 refine wpSIn_seq (wpSIn_region ?_);show wpOpsSIn _ _ _ _ _ (0::1::List.range' 2 6) _ _ _;rcases hu r cs hc with⟨rfl,hr⟩ | ⟨rfl,hr,rfl,rfl,rfl⟩
 ·refine aDy rfl rfl rfl hr ?_;have A:=q.put q.inv (Evolve.refl _ _ _) (d:=4) (by decide) (v:=tF e p) (x:=none) (fun y hy=>by cases hy);refine aGf (w':=w) rfl rfl (v:=.tuple #[.agg #[.int .i64 e,.int .i64 p],.bool true]) ?_ ?_
  ·show(do pure (Next.value (←Instr.typeAssert ((a.put (some 4) (tF e p)).eval (.tmp 4)) 20 163 true)):Sem Next).run Tryz.prog w=_;rw[aTe (by rw[q.size];decide),ε,aFc];rfl
  have M:=A.put A.inv (Evolve.refl _ _ _) (d:=5) (by decide) (v:=.tuple #[.agg #[.int .i64 e,.int .i64 p],.bool true]) (x:=some (.tup [.pa [.int .i64 e,.int .i64 p],B true])) (fun y hy=>by
   cases hy;simp only[aL,aY,bZ,Rep,aV]
   exact⟨_,rfl,_,_,rfl,⟨_,rfl,_,_,rfl,rfl,_,_,rfl,rfl,rfl⟩,_,_,rfl,rfl,rfl⟩)
  refine aTg M (fun i o ho=>?_) ?_
  ·by_cases hi:2≤i
   ·exact .inl (iW (k:=2) (by rfl) i o ho hi)
   ·exact .inr (by omega)
  refine kz 6 rfl ?_;intro S3 μ3 a3 w3 O;refine wpSIn_seq (aXe O (fun i o ho=>iW (k:=0) (by rfl) i o ho (Ae _)) ?_);refine kz 1 rfl ?_;intro S4 μ4 a4 w4 E;have hb:=E.env 8 _ rfl;simp only[aL,aV,Rep] at hb;refine wpSIn_cond (t:=true) hb ?_;refine aXe E (fun i o ho=>iW (k:=0) (by rfl) i o ho (Ae _)) ?_;refine kz 3 rfl ?_;intro S5 μ5 a5 w5 hs5;exact J e p S5 μ5 a5 w5 _ _ hs5 rfl rfl rfl rfl rfl
 ·refine aGg rfl rfl rfl hr ?_;have A:=q.put q.inv (Evolve.refl _ _ _) (d:=4) (by decide) (v:=.nilIface) (x:=none) (fun y hy=>by cases hy);refine aGf (w':=w) rfl rfl (v:=.tuple #[.agg #[.int .i64 0,.int .i64 0],.bool false]) ?_ ?_
  ·show(do pure (Next.value (←Instr.typeAssert ((a.put (some 4) .nilIface).eval (.tmp 4)) 20 163 true)):Sem Next).run Tryz.prog w=_;rw[aTe (by rw[q.size];decide),ε,aJ1];rfl
  have M:=A.put A.inv (Evolve.refl _ _ _) (d:=5) (by decide) (v:=.tuple #[.agg #[.int .i64 0,.int .i64 0],.bool false]) (x:=some (.tup [.pa [.int .i64 0,.int .i64 0],B false])) (fun y hy=>by
   cases hy;simp only[aL,aY,bZ,Rep,aV]
   exact⟨_,rfl,_,_,rfl,⟨_,rfl,_,_,rfl,rfl,_,_,rfl,rfl,rfl⟩,_,_,rfl,rfl,rfl⟩)
  refine aTg M (fun i o ho=>?_) ?_
  ·by_cases hi:2≤i
   ·exact .inl (iW (k:=2) (by rfl) i o ho hi)
   ·exact .inr (by omega)
  refine kz 6 rfl ?_;intro S3 μ3 a3 w3 O;refine wpSIn_seq (aXe O (fun i o ho=>iW (k:=0) (by rfl) i o ho (Ae _)) ?_);refine kz 1 rfl ?_;intro S4 μ4 a4 w4 E;have hb:=E.env 8 _ rfl;simp only[aL,aV,Rep] at hb;refine wpSIn_cond (t:=false) hb ?_;refine wpSIn_of_wpIn rfl (wpIn_skip ?_);exact J 0 0 S4 μ4 a4 w4 _ _ E rfl rfl (by rw[←hc]) rfl rfl
end Go.Proofs.YtkhgpgihmphfdaaGreatDoor
namespace Go.AM
open Go
section
variable {P:Program}{ops:Array Oper}{Q:Exit→Act→World→Prop}{d:Nat}{x:Value}
def Kp (d:Nat) (x:Value) (a:Act):Prop:=a.tmps.getD d undef=x
theorem Kp.put {a:Act}(h:Kp d x a) {t:Option Nat}(ht:t≠some d) (v:Value):Kp d x (a.put t v):=by
 cases t with
 | none=>exact h
 | some t=>
  show(a.tmps.setIfInBounds t v).getD d undef=x;rw[Ad,A5,ζ (fun e=>ht (by rw[e])),←Ad];exact h
theorem aO8 {o:Oper}{a:Act}(h0:Kp d x a) (ht:o.dst≠some d) {K K':Act→World→Prop}(q:∀a w,Kp d x a→K a w→K' a w) {r:Result Next}(h:o.uponIn (Wd none) 0 P a K Q r) (u:¬LetsOut Q):
  o.uponIn (Wd none) 0 P a K' (fun e a w=>Q e a w∧Kp d x a) r:=by
 cases r with
 | ok y w'=>
  cases y<;>simp only[Oper.uponIn] at h ⊢<;>
   first
    | exact q _ _ (h0.put ht _) h
    | exact⟨h.1,CallsIn.mono h.2 (fun e A he=>by cases e<;>first | exact q _ _ (h0.put ht _) he | exact⟨he,h0⟩ | exact(u he).elim)⟩
    | exact⟨h.1,RowsIn.mono h.2 (fun _ _ he=>q _ _ (h0.put ht _) he)⟩
    | exact⟨h.1,RoundIn.mono h.2 (fun e A he=>by cases e<;>first | exact q _ _ (h0.put ht _) he | exact⟨he,h0⟩ | exact(u he).elim)⟩
    | (refine q _ _ (Kp.put ?_ ht _) h;unfold Kp at h0 ⊢;exact h0)
    | exact h
 | halt y w'=>cases y<;>simp only[Oper.uponIn] at h ⊢<;>first | exact⟨h,h0⟩ | exact h
theorem aFp {i:Nat}{a:Act}{w:World}(h0:Kp d x a) (ht:∀o∈ops.toList,o.dst≠some d) {K K':Act→World→Prop}(q:∀a w,Kp d x a→K a w→K' a w) (r:¬LetsOut Q) (h:wpOpIn (Wd none) 0 P ops Q i K a w):
  wpOpIn (Wd none) 0 P ops (fun e a w=>Q e a w∧Kp d x a) i K' a w:=by
 unfold wpOpIn at h ⊢;cases ho:ops[i]? with
 | none=>rw[ho] at h;exact q _ _ h0 h
 | some o=>
  have hm:=ht o (by
   obtain⟨h1,h2⟩:=B9.1 ho;rw[←h2]
   exact Array.getElem_mem_toList h1)
  rw[ho] at h;dsimp only at h ⊢;split
  ·rename_i hw;rw[ξ hw] at h;unfold Oper.wpIn at h ⊢;exact⟨h.1,aO8 h0 hm q h.2 r⟩
  ·rename_i hw;rw[ζ hw] at h;exact⟨h.1,q _ _ (h0.put hm _) h.2⟩
theorem aOy (ht:∀o∈ops.toList,o.dst≠some d) (q:¬LetsOut Q) {md:Region.Mode}:∀(fuel:Nat) (listed:Array Bool) (a:Act) (w:World),Kp d x a→wpAnyIn (Wd none) 0 P md ops Q fuel listed a w→wpAnyIn (Wd none) 0 P md ops (fun e a w=>Q e a w∧Kp d x a) fuel listed a w
 | 0,_,_,_,h0,h=>⟨h.1,h.2,h0⟩
 | fuel+1,_,_,_,h0,h=>⟨fun k=>⟨h.1 k,h0⟩,fun i hi=>aFp h0 ht (fun a w h0 h=>aOy ht q fuel _ a w h0 h) q (h.2 i hi)⟩
theorem aN0 (ht:∀o∈ops.toList,o.dst≠some d) (q:¬LetsOut Q):∀(l:List Nat) (a:Act) (w:World),Kp d x a→wpOpsIn (Wd none) 0 P ops Q l a w→wpOpsIn (Wd none) 0 P ops (fun e a w=>Q e a w∧Kp d x a) l a w
 | [],a,w,h0,h=>⟨h,h0⟩
 | i::l,a,w,h0,h=>by
  rw[Br] at h ⊢;exact aFp h0 ht (fun a w h0 h=>aN0 ht q l a w h0 h) q h
theorem qG.kp {draw:Bool}{a:Act}{w:World}(ht:(ops.toList.all fun o=>o.dst !=some d)=true) (r:¬LetsOut Q) (h0:Kp d x a) (h:qG draw P ops Q a w):qG draw P ops (fun e a w=>Q e a w∧Kp d x a) a w:=by
 have q:∀o∈ops.toList,o.dst≠some d:=fun o ho e=>by
  have:=(A8.1 ht) o ho;rw[e] at this;simp at this
 cases draw with
 | true=>exact aOy q r _ _ _ _ h0 h
 | false=>exact aN0 q r _ _ _ h0 h
end
section
variable {P:Program}{n:Nat}{ops:Array Oper}{G:Ctx}{S:Sto}{μ:Mu}{st:St}{a:Act}{w:World}{draw:Bool}{v:Value}
theorem aY9 (q:List (Nat×AObj)) (J:List (Nat×V)) (hs:Sim G n S μ st a w) (U:st.d=[]) (Y:gG (fun p=>st.e p.1=some p.2) J) (aa:(J.all fun p=>subset p.2.refs (keys q))=true)
  (ab:gG (fun p=>st.h p.1=some p.2) q) (hc:subset (gS q) (q.map (·.1))=true) (M:(q.all fun p=>p.2.live)=true) (hok:(q.all fun p=>mE p.2)=true)
  (h:iV (fun v'=>v'=v) P n ops draw 0 (mk J q) [] (fun _=>False)):
  qG draw P ops (fun e u w'=>e=pan v∧u.defers=[]∧u.tmps.size=n∧∃S' A hout,(∀id o,look hout id=some o→∃o',look q id=some o')∧Inv G S' A (iB st.h (outs hout)) w'∧Evolve S μ st.h S' A (iB st.h (outs hout))) a w:=by
 have hh:∀id o,look q id=some o→st.h id=some o∧o≠ .dead:=by
  intro id o ho;have hm:=b6 ho;refine⟨ab.mem _ hm,?_⟩;have:=(A8.1 M) _ hm;rintro rfl;simp[AObj.live] at this
 have hI:=hs.inv.hand hh hc;have O:∀i∈keys q,Good st.h (look q) (fun i=>i) i:=by
  intro i hi;obtain⟨o,ho⟩:=cM hi;obtain⟨h1,h2⟩:=hh i o ho;exact⟨o,o,h1,ho,.refl_id h2⟩
 have hs2:Sim ⟨w,S,k8 μ (look q),μ,look q⟩ n S μ (mk J q) a w:=by
  refine⟨hI,hs.size,by have:=hs.defers;rw[U] at this;exact this,fun t v ht=>?_⟩;have hm:=b6 (show look J t=some v from ht);have h1:=hs.env t v (Y.mem _ hm);have hr:=(A8.1 aa) _ hm;have:=aL.ren (H:=st.h) (H':=look q) (σ:=fun i=>i) v _ (fun i hi=>O i (bT hr i hi)) (by rw[V.ren_id];exact h1);exact this
 have hout:∀S' μ' e E u w',Sim ⟨w,S,k8 μ (look q),μ,look q⟩ n S' μ' ⟨e,E,[]⟩ u w'→u.defers=[]∧u.tmps.size=n∧∃S' A hout,(∀id o,look hout id=some o→∃o',look q id=some o')∧Inv G S' A (iB st.h (outs hout)) w'∧Evolve S μ st.h S' A (iB st.h (outs hout)):=by
  intro S' μ' e E u w' r;have B:=r.inv.evo;have hbl:∀id x,(∃o',look q id=some o')→E id=some x→mE x=true:=fun id x ⟨o',ho⟩ hx=>by
   obtain⟨o2,g1,g2⟩:=B.obj id o' ho;have g1:E id=some o2:=g1;rw[hx] at g1;cases g1;exact aF8 g2 ((A8.1 hok) _ (b6 ho))
  have hI':Inv ⟨w,S,k8 μ (look q),μ,look q⟩ S' μ' (look (wB q E)) w':=by
   refine⟨r.inv.holds,fun id o ho=>?_,fun i j o o' b c c' hi hj hm hm'=>?_,fun i o b c hi hm=>?_,r.inv.frame,r.inv.sle,r.inv.sto,⟨B.le,fun id o ho=>?_⟩,r.inv.fre⟩
   ·obtain⟨h1,x,h2,rfl⟩:=dB ho;exact(r.inv.obj id x h2).blur (hbl id x h1 h2)
   ·obtain⟨_,x,h2,_⟩:=dB hi;obtain⟨_,y,I,_⟩:=dB hj;exact r.inv.inj i j x y b c c' h2 I hm hm'
   ·obtain⟨_,x,h2,_⟩:=dB hi;exact r.inv.own i x b c h2 hm
   ·obtain⟨o2,g1,g2⟩:=B.obj id o ho;refine⟨blur o2,qR ho g1,?_⟩;exact AObj.succ_trans g2 (y1 (p:=True) trivial) fun e _=>e
  obtain⟨A,q1,q2,q3,q4⟩:=hs.inv.back (fun id o ho=>(hh id o ho).1) (fun id o ho=>.inl (dB ho).1) hI';exact⟨r.defers,r.size,S',A,wB q E,fun id o ho=>(dB ho).1,q2,q3⟩
 rcases h with⟨xs,st',h1,h2,h4,I⟩ | ⟨v',p,xs,st',h0,h1,h2,I,h4,h5⟩
 ·exact I.elim
 ·subst h0;rw[Bb] at I h4 h5;exact aHk h1 I h4 (fun U=>h5 U) (fun S' μ' e h u w' s=>⟨rfl,hout S' μ' e h u w' s⟩) hs2
theorem aVh {o:Oper}{good:List (Nat×AObj)→Prop}{K:Act→World→Prop}{Q:Exit→Act→World→Prop}{f:FuncId}{x:Operand}{caps:List R}{xs:Array Operand}{ts:Array TypeId}{ids:List Nat}{args:List V}(hin:List (Nat×AObj)) (hb:i7 P f) (ho:o.op=.call { callee:=.value x,args:=xs,argTypes:=ts })
  (hx:opv st x=some (.one (.clo f caps)))
  (hf:∀S μ w vals,Inv ⟨w,S,k8 μ (look hin),μ,look hin⟩ S μ (look hin) w→aY S μ (look hin) (args++caps.map V.one) vals→Calls P f ⟨vals⟩ w fun e w'=>∃S' μ' hout,e=.panicked [{ v:=v,recovered:=false }]∧(∀id o,look hout id=some o→∃o',look hin id=some o')∧good hout∧Inv ⟨w,S,k8 μ (look hin),μ,look hin⟩ S' μ' (look hout) w')
  (ha:ArgsV st ids xs.toList args) (B:gG (fun p=>st.h p.1=some p.2) hin) (hok:fC (args++caps.map V.one) hin=true) (hs:Sim G n S μ st a w)
  (hQ:∀S' y hout w',good hout→Inv G S' y (iB st.h (outs hout)) w'→Evolve S μ st.h S' y (iB st.h (outs hout))→Q (pan v) a w'):o.wpIn (Wd none) 0 P a w K Q:=by
 have J:=aI hs hx fun t ht=>rfl
 simp only[aL,aV] at J;obtain⟨vs,h1,h2⟩:=J;have hr:(execOp a.eval o).run P w=.ok (.enter f ⟨xs.toList.map a.eval++vs⟩) w:=by
  simp only[execOp,ho,resolve,h1,Deferred.ofValue,ε,τ,θ,invoke,eL hb];congr 2;apply Array.ext';simp
 have M:∀(l:List V) (us:List Value) (rs:List R) (vs:List Value),aY S μ st.h l us→aM S μ st.h rs vs→aY S μ st.h (l++rs.map V.one) (us++vs):=by
  intro l
  induction l with
  | nil=>
   intro us rs vs h k;simp only[aY] at h;subst h;simp only[Az]
   induction rs generalizing vs with
   | nil=>simp only[aM] at k;subst k;simp[aY]
   | cons r rs E=>
    simp only[aM] at k;obtain⟨v,vs',rfl,q,u⟩:=k;simp only[An,aY];exact⟨v,vs',rfl,by simpa [aL] using q,E vs' u⟩
  | cons x l E=>
   intro us rs vs h k;simp only[aY] at h;obtain⟨v,vs',rfl,q,u⟩:=h;simp only[Ap,aY];exact⟨v,_,rfl,q,E vs' rs vs u k⟩
 have O:=M _ _ _ _ (ha.rel hs (fun t ht=>rfl) fun i h=>rfl) h2;simp only[fC,Ab] at hok;obtain⟨⟨q,u⟩,k3⟩:=hok;have hh:∀id o,look hin id=some o→st.h id=some o∧o≠ .dead:=by
  intro id o ho;have hm:=b6 ho;refine⟨B.mem _ hm,?_⟩;have:=(A8.1 k3) _ hm;rintro rfl;simp[AObj.live] at this
 have hI:=hs.inv.hand hh u;have A:∀i∈keys hin,Good st.h (look hin) (fun i=>i) i:=by
  intro i hi;obtain⟨o,ho⟩:=cM hi;obtain⟨h1,h2⟩:=hh i o ho;exact⟨o,o,h1,ho,.refl_id h2⟩
 have U:aY S μ (look hin) (args++caps.map V.one) (xs.toList.map a.eval++vs):=by
  have:=aY.ren (H:=st.h) (H':=look hin) (σ:=fun i=>i) (args++caps.map V.one) _ (fun i hi=>A i (bT q i hi)) (by rw[V.renL_id];exact O);exact this
 have hc:=hf S μ w _ hI U;refine jL hr ?_;refine hc.mono fun e w' ⟨S',μ',hout,he,I,hg,Y⟩=>?_
 subst he;obtain⟨y,q1,q2,q3,q4⟩:=hs.inv.back (fun id o ho=>(hh id o ho).1) (fun id o ho=>.inl (I id o ho)) Y;exact hQ S' y hout w' hg q2 q3
theorem aWj {id:Nat}{D:List Deferred}{d:Nat}{x:Value}{Q':Exit→Act→World→Prop}(hm:P.follows .mixedOrders=true) (hs:Sim G n S μ st a w) (h0:Kp d x a) (ht:(ops.toList.all fun o=>o.dst !=some d)=true)
  (h:iV (fun _=>False) P n ops draw 0 st [] (fun st'=>∀S' μ' q w',Kp d x q→Sim G n S' μ' st' q w'→Q' .normal (rD q D) w')):(Code.region id ops draw).wpIn (Wd none) 0 P Q' (rD a D) w:=by
 rcases h with⟨xs,st',h1,h2,r,u⟩ | ⟨v,p,xs,st',h0,_⟩
 case inr=>exact h0.elim
 rw[Bb] at h2;refine qG.wp hm (qG.ext (Q:=fun e a w=>(e=.normal∧∃S' μ',Sim G n S' μ' st' a w)∧Kp d x a) ?_ (qG.kp ht ?_ h0 (aBq h1 h2 r (fun S' μ' q w' s=>⟨rfl,S',μ',s⟩) hs)))
 ·rintro e a w ⟨⟨rfl,S',μ',s⟩,y⟩;exact u S' μ' a w y s
 ·rintro⟨a,w,h,_⟩;cases h
theorem aXf {id:Nat}{Q':Exit→Act→World→Prop}(hm:P.follows .mixedOrders=true) (hs:Sim G n S μ st a w)
  (h:iV (fun _=>False) P n ops draw 0 st [] (fun st'=>∀S' μ' q w',Sim G n S' μ' st' q w'→Q' .normal q w')):(Code.region id ops draw).wpIn (Wd none) 0 P Q' a w:=by
 rcases h with⟨xs,st',h1,h2,r,u⟩ | ⟨v,p,xs,st',h0,_⟩
 case inr=>exact h0.elim
 rw[Bb] at h2;exact qG.wp hm (aBq h1 h2 r u hs)
end
end Go.AM
