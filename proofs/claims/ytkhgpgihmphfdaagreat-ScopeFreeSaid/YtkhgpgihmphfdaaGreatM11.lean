/-
  Texts Rd57 to Am55 in one.
-/
import Derived.Test.YtkhgpgihmphfdaaGreatM10
import Derived.RecoverIn
import Derived.WideLaws
open List (all_eq_true cons_append drop_eq_getElem_cons drop_length filter_eq_self length_append length_cons length_map length_pos_iff length_range map_append map_cons mem_map nil_append range'_succ range_eq_range' set_append_right)
open Nat (eq_of_beq_eq_true le_of_ble_eq_true le_refl le_trans lt_succ_self sub_self sub_zero succ_pos zero_add zero_le)
namespace Go.Proofs.YtkhgpgihmphfdaaGreat
open Go Go.AM
set_option maxRecDepth 20000
set_option maxHeartbeats 4000000
def aCy (a:Int) (ps:List Pt) (ks:List Ex):List (Nat×AObj):=[(7,.var 35 [.c (.int .i64 7),.c (.int .i64 a),.c (.int .i64 0),.c (.str []),.hs 520 0 ks.length ks.length,.hs 521 0 ps.length ps.length,.c .nl,.c .nl,.c .nl,.c .nl,.c (.int .i64 0),.c (.int .i64 0),.c (.str []),.c .nl,.c .nl]),(520,.arr 35 15 (ks.map bD) 0),(521,.arr 43 10 (ps.map bK) 0)]
def xD (ex:Nat→Z→Ex×Z) (deep:Nat) (s:List Pt×List Ex) (z:Z):(List Pt×List Ex)×Z:=
 ((s.1++[(fS (3*z.R.length+1) 0 z).1],s.2++[(ex (deep+1) (aQ arrow (fS (3*z.R.length+1) 0 z).2)).1]),(ex (deep+1) (aQ arrow (fS (3*z.R.length+1) 0 z).2)).2)
theorem aIh (ex:Nat→Z→Ex×Z) (deep:Nat):∀(f n:Nat) (ps:List Pt) (ks:List Ex) (z:Z),eO ex deep f n ps ks z=lpZ bB (xD ex deep) f n (ps,ks) z
 | 0,_,_,_,_=>rfl
 | f+1,n,ps,ks,z=>by
  rw[eO,lpZ];split
  ·exact aIh ex deep f _ _ _ _
  ·rfl
theorem aOs {s:Str}{z:Z}(h:(aQ s z).e=0):aQ s z=tlZ z∧¬(b4 z).kind=6∧z.e=0:=by
 have he:=aW h;unfold aQ at h ⊢;rw[aOv he] at h ⊢;by_cases hi:isZ s z=true
 ·rw[θ hi,θ rfl];exact⟨rfl,iX hi,he⟩
 ·rw[ξ hi,ξ ω] at h;exact(cW (by decide) h).elim
theorem aPy (a:Int) (deep:Nat) {step:(List Pt×List Ex)→Z→(List Pt×List Ex)×Z}{Inv:Nat→(List Pt×List Ex)→Prop}{L:List Tk}{N:Nat}
  (hone:∀n s z,Inv n s→n<60→ZA L z→z.e=0→z.R.length≤N→bF Tryz.prog 226 ([]++[R.vp 7 0,R.vp 3 0,R.vp 5 0].map V.one) ((600,rO L z)::(3,pR)::(5,dO deep)::aCy a s.1 s.2) (fZ L (.tup []) (step s z).2 ((3,pR)::(5,dO deep)::aCy a (step s z).1.1 (step s z).1.2)))
  (hst:∀n s z,Inv n s→n<60→ZA L z→z.e=0→ZA L (step s z).2∧Inv (n+1) (step s z).1∧((step s z).2.e=0→(step s z).2.R.length<z.R.length)∧Ze z (step s z).2)
  {z:Z} (h:ZA L z) (he:z.e=0) (hN:z.R.length≤N) {s:(List Pt×List Ex)} (hI:Inv 0 s):
  bF Tryz.prog 90 [rP,.one (.clo 189 [R.vp 2 0]),.one (.clo 226 [R.vp 7 0,R.vp 3 0,R.vp 5 0])] ((600,rO L z)::(2,pR)::(3,pR)::(5,dO deep)::aCy a s.1 s.2) (fZ L (.tup []) (lpZ bB step (z.R.length+1) 0 s z).2 ((2,pR)::(3,pR)::(5,dO deep)::aCy a (lpZ bB step (z.R.length+1) 0 s z).1.1 (lpZ bB step (z.R.length+1) 0 s z).1.2)):=by
 have u:∃W,W=lpZ bB step (z.R.length+1) 0 s z:=⟨_,rfl⟩
 obtain⟨W,u⟩:=u;rw[←u];refine mE (n:=35) tok Tryz.func90 rfl rfl rfl rfl ?_;refine sg rfl (aE (aL (fun q:Nat×(List Pt×List Ex)×Z×Nat=>mk [(0,rP),(1,.one (.clo 189 [R.vp 2 0])),(2,.one (.clo 226 [R.vp 7 0,R.vp 3 0,R.vp 5 0])),(6,I .i64 (q.1:Nat))] ((600,rO L q.2.2.1)::(2,pR)::(3,pR)::(5,dO deep)::aCy a q.2.1.1 q.2.1.2)) (fun q=>Inv q.1 q.2.1∧q.1≤60∧ZA L q.2.2.1∧q.2.2.1.e=0∧q.2.2.1.R.length≤N∧q.2.2.1.R.length<q.2.2.2∧moreA bB q.1 q.2.2.1=q.2.2.1∧W=lpZ bB step q.2.2.2 q.1 q.2.1 q.2.2.1) (fun q=>q.2.2.1.R.length) (0,s,z,z.R.length+1) ⟨hI,Ac _,h,he,hN,B2 _,pJ _ _,u⟩ sl ?_));clear u h he hN hI;rintro⟨n,s,z,f⟩ ⟨hI,hn,h,he,hN,hf,hA,u⟩;dsimp only at hI hn h he hN hf hA u;refine aE (aA (aE (aL (fun y:Z=>mk [(0,rP),(1,.one (.clo 189 [R.vp 2 0])),(2,.one (.clo 226 [R.vp 7 0,R.vp 3 0,R.vp 5 0])),(6,I .i64 (n:Nat))] ((600,rO L y)::(2,pR)::(3,pR)::(5,dO deep)::aCy a s.1 s.2)) (fun y=>ZA L y∧y.e=0∧cO z=cO y∧y.R.length≤z.R.length) (fun y=>y.R.length) z ⟨h,he,rfl,le_refl _⟩ sl ?_)));rintro y ⟨h2,B,e2,hle2⟩

 have hm:=eT h2 B cC;obtain⟨m1,m2,m3⟩:=kU h2;have O:=h2.may cC;have he3:=(gX cC y).trans B;generalize bQ cC y=m at hm m1 m2 m3 O he3;obtain⟨b,z3⟩:=m;dsimp only at m1 m2 m3 O he3;refine aA (sk 1 rfl (kc hm ?_));refine az (aB rfl (fun hb=>?_) (fun hb=>?_))
 ·have hb:b=true:=hb;have:=m3 hb;exact aD (aE (aD ⟨z3,⟨O,he3,e2.trans m1.symm,by omega⟩,m3 hb,sl⟩))
 have hb:b=false:=hb;obtain⟨g1,g2⟩:=m2 hb;subst g1;have e3:cO z=z3:=e2.trans g2;clear m1 m2 m3 O e2 hm;have hf0:∃g,f=g+1:=⟨f-1,by omega⟩
 obtain⟨f,rfl⟩:=hf0;rw[lpZ] at u;unfold bJ at u;rw[hA,e3] at u;have hs3:=o6 h2;have hn3:=dU h2;refine aG (aA (sk 1 rfl (kv (args:=[]) hs3 ?_)));refine az (aB rfl (fun hb=>?_) (fun hb=>?_))
 ·have hb:dJ bB z3=true:=hb;rw[θ (show ¬z3.e=0∨dJ bB z3=true from .inr hb)] at u;rw[ξ ω] at u;rw[u,bA B];exact aF rtN
 have hb:dJ bB z3=false:=hb;have hnb:¬(¬z3.e=0∨dJ bB z3=true):=fun k=>k.elim (fun k=>k B) fun k=>by rw[hb] at k;cases k
 rw[ξ hnb] at u;refine aD ?_;by_cases hn60:n<60
 case neg=>
  have d:decide (((n:Nat):Int)<60)=false:=ψ (by omega);rw[fN (by omega) B] at u;dsimp only at u;rw[ψ cH,ξ ω] at u;rw[u,aJ cH];have hmn:=bM 2 (b4 z3).pl;refine sk 5 rfl (kc hn3 ?_);refine ak 1 [] rfl ?_;rw[d];exact kp hmn
 have d:decide (((n:Nat):Int)<60)=true:=φ (by omega);rw[fM (by omega),φ B,θ rfl] at u;have hmo:=bL 2 (b4 z3).pl;refine sk 5 rfl (kc hn3 ?_);refine ak 1 [] rfl ?_;rw[d];refine kc hmo ?_;refine az ?_;have ho:=hone n s z3 hI hn60 h2 B (by omega);obtain⟨E,k2,k3,_⟩:=hst n s z3 hI hn60 h2 B;generalize step s z3=y at ho E k2 k3 u;obtain⟨s4,z4⟩:=y;dsimp only at ho E k2 k3 u;by_cases A:z4.e=0
 case neg=>
  have hp:=bF.err ho A;rw[fV A] at u;rw[u,aJ A];exact sk 1 rfl (kpv (args:=[]) hp)
 have ho:=bF.ok ho A;have k3:=k3 A;refine sk 1 rfl (kv (args:=[]) ho ?_);refine az (aA (agN [] rfl ?_));have hlp:=E.lp;have J:=lG E cC;have hn4:=dU E;have U:=o6 E;have hmo4:=bL 12 (b4 z4).pl;cases Y:isZ cC z4 with
 | true=>
  rw[Y] at J;have M:moreA bB (n+1) z4=z4:=ξ fun k=>by rw[Y] at k;cases k.2.2.1
  refine aC mixed (ak 1 [] rfl (kc J ?_));refine ak 7 [(2,.bv true),(5,.bv true)] rfl (kc hn4 ?_);refine ak 1 [(2,.bv true),(5,.bv true)] rfl (kc hmo4 ?_);exact az ⟨(n+1,s4,z4,f),⟨k2,by omega,E,A,by dsimp only;omega,by dsimp only;omega,M,u⟩,by dsimp only;omega,sl⟩
 | false=>
  rw[Y] at J;cases aa:dJ bB z4 with
  | true=>
   rw[aa] at U;have M:moreA bB (n+1) z4=z4:=ξ fun k=>by rw[aa] at k;cases k.2.2.2
   refine aC mixed (ak 1 [] rfl (kc J ?_));refine ak 2 [(2,.bv false)] rfl (kvG (args:=[]) U ?_);refine ak 4 [(2,.bv false),(5,.bv false)] rfl (kc hn4 ?_);refine ak 1 [(2,.bv false),(5,.bv false)] rfl (kc hmo4 ?_);exact az ⟨(n+1,s4,z4,f),⟨k2,by omega,E,A,by dsimp only;omega,by dsimp only;omega,M,u⟩,by dsimp only;omega,sl⟩
  | false=>
   rw[aa] at U;have hmn4:=bM 12 (b4 z4).pl;have M:moreA bB (n+1) z4=⟨z4.R,12,(b4 z4).pl⟩:=(θ ⟨succ_pos n,A,Y,aa⟩).trans (θ A);have h12:¬(12:Int)=0:=by decide
   have hWb:W.2=⟨z4.R,12,(b4 z4).pl⟩:=by
    obtain⟨f,rfl⟩:∃g,f=g+1:=⟨f-1,by omega⟩
    rw[lpZ] at u;unfold bJ at u;rw[M,kX h12,θ (show ¬(Z.mk z4.R 12 (b4 z4).pl).e=0∨_ from .inl h12),ξ ω] at u;rw[u]
   rw[hWb,aJ h12];refine aC mixed (ak 1 [] rfl (kc J ?_));refine ak 2 [(2,.bv false)] rfl (kvG (args:=[]) U ?_);refine ak 4 [(2,.bv false),(5,.bv false)] rfl (kc hn4 ?_);refine ak 1 [(2,.bv false),(5,.bv false)] rfl (kpD (.tup []) [] hmn4 ?_);exact az trivial
theorem aLb (a:Int) (deep:Nat) {step:(List Pt×List Ex)→Z→(List Pt×List Ex)×Z}{Inv:Nat→(List Pt×List Ex)→Prop}{L:List Tk}{N:Nat}
  (I:∀n s z,Inv n s→n<60→ZA L z→z.e=0→z.R.length≤N→bF Tryz.prog 226 ([]++[R.vp 7 0,R.vp 3 0,R.vp 5 0].map V.one) ((600,rO L z)::(3,pR)::(5,dO deep)::aCy a s.1 s.2) (fZ L (.tup []) (step s z).2 ((3,pR)::(5,dO deep)::aCy a (step s z).1.1 (step s z).1.2)))
  (E:∀n s z,Inv n s→n<60→ZA L z→z.e=0→ZA L (step s z).2∧Inv (n+1) (step s z).1∧((step s z).2.e=0→(step s z).2.R.length<z.R.length)∧Ze z (step s z).2)
  {z:Z} (h:ZA L z) (he:z.e=0) (hN:z.R.length≤N) {s:(List Pt×List Ex)} (J:Inv 0 s):
  bF Tryz.prog 143 [rP,.one (.clo 226 [R.vp 7 0,R.vp 3 0,R.vp 5 0])] ((600,rO L z)::(3,pR)::(5,dO deep)::aCy a s.1 s.2) (fZ L (.tup []) (u6 step s z).2 ((3,pR)::(5,dO deep)::aCy a (u6 step s z).1.1 (u6 step s z).1.2)):=by
 have g:=cY h he dS;have h1:=h.need dS;have M:=Ze.need dS z;unfold u6;generalize aQ dS z=B at g h1 M ⊢;have U:B.R.length≤z.R.length:=M;refine mE (n:=12) tok Tryz.func143 rfl rfl rfl rfl ?_;refine sg rfl ?_;by_cases q:B.e=0
 case neg=>
  have hp:=bF.err g q;rw[fV q];dsimp only;rw[bH q,aJ q];exact sk 1 rfl (kp hp)
 have g:=bF.ok g q;refine sk 1 rfl (kc g ?_);refine az ?_;have u:=aPy a deep (step:=step) (Inv:=Inv) (L:=L) (N:=N) I E h1 q (by omega) J;have hok:=(sO (sh:=bB) E (B.R.length+1) 0 s B (Ac _) J h1).1
 generalize lpZ bB step (B.R.length+1) 0 s B=W at u hok ⊢;obtain⟨s2,O⟩:=W;dsimp only at u hok ⊢;by_cases y:O.e=0
 case neg=>
  have hp:=bF.err u y;rw[bH y,aJ y];exact sk 3 rfl (kp hp)
 have u:=bF.ok u y;refine sk 3 rfl (kc u ?_);refine az ?_;have g:=cY hok y bB;generalize aQ bB O=z3 at g ⊢;by_cases A:z3.e=0
 case neg=>
  have hp:=bF.err g A;rw[aJ A];exact aC mixed (ak 1 [] rfl (kp hp))
 have g:=bF.ok g A;rw[bA A];refine aC mixed (ak 1 [] rfl (kc g ?_));exact az rtN
section
variable {L:List Tk}{ex:Nat→Z→Ex×Z}{N:Nat}(hB:tZ ex) (hS:aNr L ex N) (hNm:aL7 L)
include hB hS hNm
theorem aQa (a:Int) (ps:List Pt) (ks:List Ex) (deep:Nat) {z:Z}(h:ZA L z) (he:z.e=0) (hN:z.R.length≤N) (hd:deep≤40) (h1:ps.length≤4001) (h2:ks.length≤4001):
  bF Tryz.prog 226 ([]++[R.vp 7 0,R.vp 3 0,R.vp 5 0].map V.one) ((600,rO L z)::(3,pR)::(5,dO deep)::aCy a ps ks) (fZ L (.tup []) (xD ex deep (ps,ks) z).2 ((3,pR)::(5,dO deep)::aCy a (xD ex deep (ps,ks) z).1.1 (xD ex deep (ps,ks) z).1.2)):=by
 have J:(ps.map bK).length=ps.length:=κ _;have M:(ks.map bD).length=ks.length:=κ _;have hz1:(ps.map bK++[(bK zPt)])[ps.length]?=some (bK zPt):=by rw[A7 (by omega),J,B8];rfl
 have hz2:(ks.map bD++[(bD zEx)])[ks.length]?=some (bD zEx):=by rw[A7 (by omega),M,B8];rfl
 have hp:=(aVw L hNm (3*z.R.length+1)).2 _ (le_refl _) 0 z h he (le_refl _) (by omega);obtain⟨O,_,_,U⟩:=(eV L (3*z.R.length+1)).2.1 0 z h;unfold xD;dsimp only;generalize fS (3*z.R.length+1) 0 z=y at hp O U ⊢;obtain⟨q,E⟩:=y;dsimp only at hp O U ⊢;have U:E.R.length≤z.R.length:=U;refine mE (n:=25) tok Tryz.func226 rfl rfl rfl rfl ?_;by_cases u:E.e=0
 case neg=>
  have hp:=bF.err hp u;rw[bH u,hB _ _ u,aJ u];refine sk 3 rfl (kpD (.pa (bK zPt)) [(600,rO L z)] hp ?_);exact ak 7 [(5,.all),(8,.row ps.length (bK zPt))] rfl (az trivial)
 have hp:=bF.ok hp u;have g:(ps.map bK++[(bK zPt)]).set ps.length (bK q)=(ps++[q]).map bK:=by
  rw[set_append_right _ _ (by omega),J,B8,Ai];rfl
 have hle:(ps++[q]).length=ps.length+1:=by rw[ζ];rfl
 refine sk 3 rfl (kc hp ?_);refine ak 7 [(5,.all),(8,.row ps.length (bK zPt))] rfl (az ?_);generalize ps++[q]=P at g hle ⊢;refine AWp.sub (st2:=mk [(0,.one (.vp 7 0)),(1,.one (.vp 3 0)),(2,.one (.vp 5 0))] ((600,rO L E)::(3,pR)::(5,dO deep)::aCy a P ks)) (sl (hh:=⟨⟨_,rfl,.var rfl⟩,⟨_,rfl,.var rfl⟩,⟨_,rfl,.var rfl⟩,⟨_,rfl,.var (by rw[hle,←J];rfl)⟩,⟨_,rfl,Go.AM.Ole.arr⟩,⟨_,rfl,.arrS g⟩,trivial⟩)) ?_;have A:=cY O u arrow;have g2:=O.need arrow;have l2:(aQ arrow E).R.length≤E.R.length:=Ze.need arrow E;generalize aQ arrow E=Y at A g2 l2 ⊢;by_cases B:Y.e=0
 case neg=>
  have hp:=bF.err A B;rw[hB _ _ B,aJ B];exact sk 1 rfl (kp hp)
 have A:=bF.ok A B;refine sk 1 rfl (kc A ?_);refine az ?_;have hx:=hS (deep+1) Y g2 B (by omega) (by omega);generalize ex (deep+1) Y=y at hx ⊢;obtain⟨e,z3⟩:=y;dsimp only at hx ⊢;by_cases I:z3.e=0
 case neg=>
  have hp:=bF.err hx I;rw[aJ I];refine aC mixed (akN 5 [] rfl (kpD (.pa (bD zEx)) [(600,rO L Y)] hp ?_));exact ak 7 [(7,.all),(10,.row ks.length (bD zEx))] rfl (az trivial)
 have hx:=bF.ok hx I;rw[bA I];have g:(ks.map bD++[(bD zEx)]).set ks.length (bD e)=(ks++[e]).map bD:=by
  rw[set_append_right _ _ (by omega),M,B8,Ai];rfl
 have hle:(ks++[e]).length=ks.length+1:=by rw[ζ];rfl
 refine aC mixed (akN 5 [] rfl (kc hx ?_));refine ak 7 [(7,.all),(10,.row ks.length (bD zEx))] rfl (az ?_);generalize ks++[e]=K at g hle ⊢;exact rtN (ho:=⟨⟨_,rfl,.var rfl⟩,⟨_,rfl,.var rfl⟩,⟨_,rfl,.var rfl⟩,⟨_,rfl,.var (by rw[hle,←M];rfl)⟩,⟨_,rfl,.arrS g⟩,⟨_,rfl,Go.AM.Ole.arr⟩,trivial⟩)
theorem aP9 (hO:ExO L ex) (a:Int) (deep:Nat) {z:Z}(h:ZA L z) (he:z.e=0) (hN:z.R.length≤N) (hd:deep≤40):bF Tryz.prog 217 [rP,I .i64 a,I .i64 (deep:Nat)] [(600,rO L z)] (fZ L (.pa (bD (gQ ex a deep z).1)) (gQ ex a deep z).2 []):=by
 have hx:=hS (deep+1) z h he hN (by omega);obtain⟨Y,o0,_,m0⟩:=hO (deep+1) z h;unfold gQ fQ cT;rw[aIh];dsimp only;generalize ex (deep+1) z=y at hx Y o0 m0 ⊢;obtain⟨e0,z0⟩:=y;dsimp only at hx Y o0 m0 ⊢;have m0:z0.R.length≤z.R.length:=m0;refine mE (n:=40) tok Tryz.func217 rfl rfl rfl rfl ?_;refine sg rfl ?_;by_cases g:z0.e=0
 case neg=>
  have hp:=bF.err hx g;rw[bH g,bH g,fV g];dsimp only;rw[bH g,fF g];have hb:(if([]:List Pt)=[] then z0 else z0)=z0:=θ rfl;rw[hb,aJ g];exact aA (aC mixed (akN 4 [] rfl (kp hp)))
 have hx:=bF.ok hx g;refine aA (aC mixed (akN 4 [] rfl (kc hx ?_)));refine ak 4 [(5,.id 520)] rfl (az (AWp.sub (Sub.ownCell (x:=7) (k:=5) (id:=521) 43 10 rfl rfl rfl) ?_));have B:=cY Y g ofS;have h1:=Y.need ofS;have l1:(aQ ofS z0).R.length≤z0.R.length:=Ze.need ofS z0;generalize aQ ofS z0=J at B h1 l1 ⊢;by_cases u:J.e=0
 case neg=>
  have hp:=bF.err B u;rw[bH u,fV u];dsimp only;rw[bH u,fF u];have hb:(if([]:List Pt)=[] then J else J)=J:=θ rfl;rw[hb,aJ u];exact sk 1 rfl (kp hp)
 have B:=bF.ok B u;refine sk 1 rfl (kc B ?_);refine az ?_;have hst:∀(n:Nat) (s:List Pt×List Ex) (z:Z),(x8 s.1∧oD s.2∧s.1.length=n∧s.2.length=n+1)→n<60→ZA L z→z.e=0→ZA L (xD ex deep s z).2∧(x8 (xD ex deep s z).1.1∧oD (xD ex deep s z).1.2∧(xD ex deep s z).1.1.length=n+1∧(xD ex deep s z).1.2.length=n+1+1)∧((xD ex deep s z).2.e=0→(xD ex deep s z).2.R.length<z.R.length)∧Ze z (xD ex deep s z).2:=fun n s z M hn h he=>by
  obtain⟨q1,q2,q3,q4⟩:=(eV L (3*z.R.length+1)).2.1 0 z h;obtain⟨m1,m2,m3,m4⟩:=hO (deep+1) _ (q1.need arrow);have l1:(aQ arrow (fS (3*z.R.length+1) 0 z).2).R.length≤(fS (3*z.R.length+1) 0 z).2.R.length:=Ze.need _ _;have q4':(fS (3*z.R.length+1) 0 z).2.R.length≤z.R.length:=q4;unfold xD;exact⟨m1,⟨oI M.1 q2,pV M.2.1 m2,by dsimp only;rw[ζ,M.2.2.1];rfl,by dsimp only;rw[ζ,M.2.2.2];rfl⟩,fun h0=>by have:=m3 h0;dsimp only;omega,(q4.trans (Ze.need _ _)).trans m4⟩
 have hI0:x8 ([]:List Pt)∧oD [e0]∧([]:List Pt).length=0∧[e0].length=0+1:=⟨trivial,⟨o0,trivial⟩,rfl,rfl⟩
 have q:=aLb a deep (step:=xD ex deep) (Inv:=fun n s=>x8 s.1∧oD s.2∧s.1.length=n∧s.2.length=n+1) (L:=L) (N:=N) (fun n s z M hn h he hN=>aQa hB hS hNm a s.1 s.2 deep h he hN hd (by have:=M.2.2.1;omega) (by have:=M.2.2.2;omega)) hst h1 u (by omega) (s:=([],[e0])) hI0;have hok:=sO (sh:=bB) (Inv:=fun n (s:List Pt×List Ex)=>x8 s.1∧oD s.2∧s.1.length=n∧s.2.length=n+1) hst ((aQ dS J).R.length+1) 0 ([],[e0]) (aQ dS J) (Ac _) hI0 (h1.need dS);unfold u6 at q;generalize aQ dS J=z2 at q hok ⊢;generalize lpZ bB (xD ex deep) (z2.R.length+1) 0 ([],[e0]) z2=W at q hok ⊢;obtain⟨⟨ps,ks⟩,E⟩:=W;dsimp only at q hok ⊢;obtain⟨gB,⟨m,hm60,hp,hk,hpl,hkl⟩,_⟩:=hok

 have hpe:(ps.map bK).length=ps.length:=κ _;have hke:(ks.map bD).length=ks.length:=κ _;have hne:= @aOs bB E;generalize aQ bB E=z3 at q hne ⊢;by_cases A:z3.e=0
 case neg=>
  have hp:=bF.err q A;rw[fF A];have hb:(if ps=[] then z3 else z3)=z3:=by split<;>rfl
  rw[hb,aJ A];exact sk 2 rfl (kp hp)
 have q:=bF.ok q A;refine sk 2 rfl (kc q ?_);refine az ?_;obtain⟨e3,hk6,heB⟩:=hne A;subst e3;have U:=aJu gB hk6;have hLl:=gB.l;have hlt:=gB.lt;have hrow:=b9 aI gB.now;unfold rO at U;unfold rO;rw[U];have hLk:(L.map aI).length=L.length:=κ _;by_cases O:ps=[]
 ·have hmn:=bM 12 (b4 E).pl;have d:decide ((0:Int)<((ps.length:Nat):Int))=false:=by subst O;rfl
  rw[θ O];unfold bS;rw[θ A,aJ (show ¬(12:Int)=0 by decide)];refine aA (aC mixed (akN 15 [] rfl ?_));rw[Nat.add_sub_cancel];refine ak 3 [(15,.row (L.length-E.R.length) (aI (b4 E)))] rfl ?_;rw[d];refine kpD (.tup []) [] hmn ?_;exact az trivial
 have hmo:=bL 12 (b4 E).pl;have d:decide ((0:Int)<((ps.length:Nat):Int))=true:=φ (by have:=length_pos_iff.2 O;omega);rw[ξ O,bA A];unfold rO;rw[U];refine aA (aC mixed (akN 15 [] rfl ?_));rw[Nat.add_sub_cancel];refine ak 3 [(15,.row (L.length-E.R.length) (aI (b4 E)))] rfl ?_;rw[d];refine kc hmo ?_;refine az (AWp.sub (Sub.freeze (id:=520) rfl) ?_);refine AWp.sub (Sub.freeze (id:=521) rfl) ?_;refine sg rfl ?_;unfold bD;rw[i6 (aKn _ _ _)];exact aF (rtC trw (hc:=.agg (.c .refl (.c .refl (.c .refl (.c .refl (.hs rfl hke.symm (Go.AM.take_all hke.symm) (.hs rfl hpe.symm (Go.AM.take_all hpe.symm) (.c .nl (.c .nl (.c .nl (.c .nl (.c .refl (.c .refl (.c .refl (.c .nl (.c .nl .nil)))))))))))))))))
end
theorem tS {ex:Nat→Z→Ex×Z}{deep:Nat}{a:Int}{f:Nat}{e:Ex}{z:Z}(h:¬z.e=0):fB ex deep a f e z=(e,z):=by
 cases f with
 | zero=>rfl
 | succ f=>rw[fB,ξ h]
theorem yP {a:Int}{e:Ex}{z:Z}(h:¬z.e=0):qG a (e,z)=(e,z):=by
 unfold qG;dsimp only;rw[kL h,ξ ω]
section
variable {L:List Tk}{ex:Nat→Z→Ex×Z}{N:Nat}(hO:ExO L ex) (hB:tZ ex) (hS:aNr L ex N) (hZ:o7 L) (hNm:aL7 L) (hwt:wt L≤30000)
include hO hB hS hZ hNm hwt
theorem aT1 (deep:Nat) {z:Z}(h:ZA L z) (he:z.e=0) (hN:z.R.length≤N+1) (hd:deep≤41):bF Tryz.prog 192 [rP,I .i64 (deep:Nat)] [(600,rO L z)] (fZ L (.pa (bD (vR ex deep z).1)) (vR ex deep z).2 []):=by
 have hn:=dU h;unfold vR;rw[ξ (fun k=>k he)];refine mE (n:=77) tok Tryz.func192 rfl rfl rfl rfl ?_;refine sg rfl (sk 3 rfl (kc hn ?_));refine kz 2 rfl ?_;by_cases hd40:40<deep
 ·have d:decide (((deep:Nat):Int)≤40)=false:=ψ (by omega);have hmn:=bM 13 (b4 z).pl;rw[θ hd40];unfold bS;rw[θ he,aJ (show ¬(13:Int)=0 by decide)];refine sk 4 rfl ?_;rw[d];exact kp hmn
 have d:decide (((deep:Nat):Int)≤40)=true:=φ (by omega);have hmo:=bL 13 (b4 z).pl;rw[ξ hd40];refine sk 4 rfl ?_;rw[d];refine kc hmo ?_;refine az ?_;have A:=eT h he vH;have B:=eS (s:=vH) h;have E:=h.may vH;have J:= @kB vH z;have M:=(gX vH z).trans he;have u:=fun e=>aTt hB hS (b4 z).pl deep E M (by have:=B e;omega) (by omega)
 generalize bQ vH z=m at A B E J M u ⊢;obtain⟨b,z1⟩:=m;dsimp only at A B E J M u ⊢;refine aA (aE (sk 1 rfl (kc A ?_)));refine kz 1 rfl ?_;cases b with
 | true=>
  rw[θ rfl];have u:=u rfl;generalize rB ex (b4 z).pl deep z1=y at u ⊢;obtain⟨e,z2⟩:=y;dsimp only at u ⊢;refine aB rfl (fun _=>?_) (fun hb=>Bool.noConfusion hb);by_cases O:z2.e=0
  case neg=>
   have hp:=bF.err u O;rw[aJ O];exact sk 4 rfl (kp hp)
  have u:=bF.ok u O;rw[bA O];refine sk 4 rfl (kc u ?_);exact kz 1 rfl (aF (rtC trw))
 | false=>
 obtain rfl:=J rfl;rw[ξ ω];clear A B E u J M;refine aB rfl (fun hb=>Bool.noConfusion hb) (fun _=>?_);have A:=eT h he vG;have B:=eS (s:=vG) h;have E:=h.may vG;have J:= @kB vG z1;have M:=(gX vG z1).trans he;have u:=fun e=>aTq hB hS hZ hwt hO (b4 z1).pl deep E M (by have:=B e;omega) (by omega)
 generalize bQ vG z1=m at A B E J M u ⊢;obtain⟨b,z2⟩:=m;dsimp only at A B E J M u ⊢;refine sk 1 rfl (kc A ?_);refine kz 1 rfl ?_;cases b with
 | true=>
  rw[θ rfl];have u:=u rfl;generalize rA ex (b4 z1).pl deep z2=y at u ⊢;obtain⟨e,z3⟩:=y;dsimp only at u ⊢;refine aB rfl (fun _=>?_) (fun hb=>Bool.noConfusion hb);by_cases O:z3.e=0
  case neg=>
   have hp:=bF.err u O;rw[aJ O];exact sk 4 rfl (kp hp)
  have u:=bF.ok u O;rw[bA O];refine sk 4 rfl (kc u ?_);exact kz 1 rfl (aF (rtC trw))
 | false=>
 obtain rfl:=J rfl;rw[ξ ω];clear A B E u J M;refine aB rfl (fun hb=>Bool.noConfusion hb) (fun _=>?_);have A:=eT h he kI;have B:=eS (s:=kI) h;have E:=h.may kI;have J:= @kB kI z2;have M:=(gX kI z2).trans he;have u:=fun e=>aP9 hB hS hNm hO (b4 z2).pl deep E M (by have:=B e;omega) (by omega)
 generalize bQ kI z2=m at A B E J M u ⊢;obtain⟨b,z3⟩:=m;dsimp only at A B E J M u ⊢;refine sk 1 rfl (kc A ?_);refine kz 1 rfl ?_;cases b with
 | true=>
  rw[θ rfl];have u:=u rfl;generalize gQ ex (b4 z2).pl deep z3=y at u ⊢;obtain⟨e,z4⟩:=y;dsimp only at u ⊢;refine aB rfl (fun _=>?_) (fun hb=>Bool.noConfusion hb);by_cases O:z4.e=0
  case neg=>
   have hp:=bF.err u O;rw[aJ O];exact sk 4 rfl (kp hp)
  have u:=bF.ok u O;rw[bA O];refine sk 4 rfl (kc u ?_);exact kz 1 rfl (aF (rtC trw))
 | false=>
 obtain rfl:=J rfl;rw[ξ ω];clear A B E u J M;refine aB rfl (fun hb=>Bool.noConfusion hb) (fun _=>aD ?_);have U:=aG9 hO hS deep h he hN (by omega);obtain⟨o1,_,o3,o4⟩:=iT hO deep h;have hlz:=h.lp;generalize hT:b4 z3=t at hn ⊢;unfold fG;rw[hT];generalize gU ex deep z3=y at U o1 o3 o4 ⊢;obtain⟨⟨e0,b0⟩,z4⟩:=y;dsimp only at U o1 o3 o4 ⊢;have o4:z4.R.length≤z3.R.length:=o4;by_cases Y:z4.e=0
 case neg=>
  have hp:=bF.err U Y;rw[fF Y];have hb:(if b0=false then z4 else z4)=z4:=by split<;>rfl
  rw[hb,tS Y,yP Y,aJ Y];exact sk 2 rfl (kp hp)
 have U:=bF.ok U Y;refine sk 2 rfl (kc U ?_);refine kz 6 rfl ?_;cases b0 with
 | false=>
  have hmn:=bM 12 t.pl;have h12:¬(12:Int)=0:=by decide
  rw[θ rfl];unfold bS;rw[θ Y,tS (show ¬(Z.mk z4.R 12 t.pl).e=0 from h12),yP (show ¬(Z.mk z4.R 12 t.pl).e=0 from h12),aJ (show ¬(Z.mk z4.R 12 t.pl).e=0 from h12)];exact sk 3 rfl (kp hmn)
 | true=>
 have hmo:=bL 12 t.pl;have o3:=o3 rfl Y;rw[ξ (show ¬(true=false) from fun k=>Bool.noConfusion k)];refine sk 3 rfl (kc hmo ?_);refine az ?_;have hWx:∃W,W=fB ex deep t.pl (z3.R.length+1) e0 z4:=⟨_,rfl⟩
 obtain⟨W,hW⟩:=hWx;rw[←hW];refine aA (aE (aL (fun q:Ex×Z×Nat=>mk [(0,rP),(1,I .i64 (deep:Nat)),(4,.one (.vp 4 0)),(5,.one (.vp 5 0)),(6,.one (.vp 6 0))] [(600,rO L q.2.1),(4,.var 35 (aIv.map .c)),(5,.var 167 ((aI t).map .c)),(6,.var 35 ((bD q.1).map .c))]) (fun q=>ZA L q.2.1∧q.2.1.e=0∧q.2.1.R.length≤z3.R.length∧q.2.1.R.length<q.2.2∧W=fB ex deep t.pl q.2.2 q.1 q.2.1) (fun q=>q.2.1.R.length+1) (e0,z4,z3.R.length+1) ⟨o1,Y,o4,by dsimp only;omega,hW⟩ sl ?_));clear hW U o1 o3 o4 Y;rintro⟨e,z6,f⟩ ⟨h6,he6,l6,hf,hW⟩;dsimp only at h6 he6 l6 hf hW ⊢;obtain⟨f,rfl⟩:∃g,f=g+1:=⟨f-1,by omega⟩
 rw[fB,θ he6] at hW;have U:=aG9 hO hS deep h6 he6 (by omega) (by omega);obtain⟨o1,_,o3,o4⟩:=iT hO deep h6;generalize gU ex deep z6=y at U o1 o3 o4 hW;obtain⟨⟨a,b⟩,z7⟩:=y;dsimp only at U o1 o3 o4 hW;have o4:z7.R.length≤z6.R.length:=o4;by_cases he7:z7.e=0
 case neg=>
  have hp:=bF.err U he7;have hw:∃e,W=(e,z7):=by
   rw[tS he7] at hW;rw[hW];split<;>exact⟨_,rfl⟩
  obtain⟨e,hw⟩:=hw;rw[hw,yP he7,aJ he7];exact aE (sk 2 rfl (kp hp))
 have U:=bF.ok U he7;refine aE (sk 2 rfl (kc U ?_));refine kz 6 rfl (aA (sg rfl ?_));cases b with
 | false=>
  rw[θ rfl] at hW;refine aB rfl (fun _=>aG ?_) (fun hb=>Bool.noConfusion hb);subst hW;have hm:=eT o1 he7 eQ;have g2:=o1.may eQ;have he8:=(gX eQ z7).trans he7;unfold qG;dsimp only;generalize bQ eQ z7=m at hm g2 he8 ⊢;obtain⟨b,z8⟩:=m;dsimp only at hm g2 he8 ⊢;refine aA (sk 1 rfl (kc hm ?_));refine az ?_;cases b with
  | true=>
   rw[θ rfl];have hsc:=kV g2 he8 hZ hwt;generalize bO z8=y at hsc ⊢;obtain⟨s,z9⟩:=y;dsimp only at hsc ⊢;refine aB rfl (fun _=>?_) (fun hb=>Bool.noConfusion hb);by_cases he9:z9.e=0
   case neg=>
    have hp:=bF.err hsc he9;rw[aJ he9];refine skh 5 [(3,.all)] rfl (kpD (.pa (mH jP)) [(600,rO L z8)] hp ?_);exact kz 2 rfl trivial
   have hsc:=bF.ok hsc he9;rw[bA he9];refine skh 5 [(3,.all)] rfl (kc hsc ?_);exact kz 2 rfl (aF (rtC trw))
  | false=>
   rw[ξ ω];dsimp only;rw[bA he8];exact aB rfl (fun hb=>Bool.noConfusion hb) (fun _=>aD (sg rfl (aF (rtC trw))))
 | true=>
  rw[ξ (show ¬(true=false) from fun k=>Bool.noConfusion k)] at hW;have o3:=o3 rfl he7;refine aB rfl (fun hb=>Bool.noConfusion hb) (fun _=>aD (ag [(4,.all)] rfl ⟨(aL2 t.pl e a,z7,f),⟨o1,he7,by dsimp only;omega,by dsimp only;omega,hW⟩,by dsimp only;omega,Sub.trans ?_ (vp 6 (bD (aL2 t.pl e a)))⟩));exact sl
end
theorem aPd {L:List Tk}(hwt:wt L≤30000) (hZ:o7 L) (hNm:aL7 L):∀f,aNr L (aC2 f) f
 | 0=>fun deep z h _ hN _=>by have:=h.lp;omega
 | f+1=>fun deep z h he hN g=>aT1 (kE hwt f) (tA f) (aPd hwt hZ hNm f) hZ hNm hwt deep h he hN g
def aCw (x:In) (bs:List Bd):List (Nat×AObj):=[(1,pR),(5,.var 176 [.c (.str x.cls),.c (.int .i64 x.pl),.c (.str x.con),.c (.sl 1 (x.vars.map aR)),.c (.sl 5 (x.preds.map aS)),.hs 511 0 bs.length bs.length]),(511,bdA bs 0)]
def ibS (ex:Nat→Z→Ex×Z) (s:List Bd) (z:Z):List Bd×Z:=(s++[(dR ex (b5 1 z).1 0 (b5 1 z).2).1],(dR ex (b5 1 z).1 0 (b5 1 z).2).2)
theorem pS (ex:Nat→Z→Ex×Z):∀(f n:Nat) (s:List Bd) (z:Z),fP ex f n s z=lpZ bB (ibS ex) f n s z
 | 0,_,_,_=>rfl
 | f+1,n,s,z=>by
  rw[fP,lpZ];split
  ·exact pS ex f _ _ _
  ·rfl
theorem mV {a:Int}:∀{l:List Prd}{z:Z},¬z.e=0→i5 a l z=z
 | [],z,_=>rfl
 | p::l,z,h=>by rw[i5,ξ (fun k=>h k.1)];exact mV h
theorem iK {b:Bool}{z:Z}(h:¬z.e=0):(instV b z).2=z:=by
 unfold instV;split
 ·rw[kK h];exact bH h
 ·rfl
theorem mU {ex:Nat→Z→Ex×Z}{y:List Prd×Tk×Bool×Tk×Z}{w:List Str×Z}(h:¬w.2.e=0):aQ bB (aFy ex (vI y w)).2=w.2:=by
 unfold vI aFy;rw[ξ h,mV h,bH h,pS,fV h];exact bH h
theorem aLr {ex:Nat→Z→Ex×Z}(hB:tZ ex) {g:Tk}{deep:Nat}{z:Z}(h:¬z.e=0):(dR ex g deep z).2=z:=by
 unfold dR fJ;dsimp only;rw[kK h,dX h,bH h];exact hB _ _ h
def x6:Prop:=∃(L:List Tk) (z z2:Z) (t:Tk) (b:Bd),aU Tryz.prog 150 [rP,tkV t,I .i64 0] [(600,rO L z)] (.pa (b6 b)) [(600,rO L z2)]
theorem aPw (x:In) {step:(List Bd)→Z→(List Bd)×Z}{Inv:Nat→(List Bd)→Prop}{L:List Tk}{N:Nat}
  (hone:∀n s z,Inv n s→n<60→ZA L z→z.e=0→z.R.length≤N→bF Tryz.prog 149 ([]++[R.vp 5 0,R.vp 1 0].map V.one) ((600,rO L z)::aCw x s) (fZ L (.tup []) (step s z).2 (aCw x (step s z).1)))
  (hst:∀n s z,Inv n s→n<60→ZA L z→z.e=0→ZA L (step s z).2∧Inv (n+1) (step s z).1∧((step s z).2.e=0→(step s z).2.R.length<z.R.length)∧Ze z (step s z).2)
  {z:Z} (h:ZA L z) (he:z.e=0) (hN:z.R.length≤N) {s:(List Bd)} (hI:Inv 0 s):
  bF Tryz.prog 90 [rP,.one (.clo 189 [R.vp 2 0]),.one (.clo 149 [R.vp 5 0,R.vp 1 0])] ((600,rO L z)::(2,pR)::aCw x s) (fZ L (.tup []) (lpZ bB step (z.R.length+1) 0 s z).2 ((2,pR)::aCw x (lpZ bB step (z.R.length+1) 0 s z).1)):=by
 have u:∃W,W=lpZ bB step (z.R.length+1) 0 s z:=⟨_,rfl⟩
 obtain⟨W,u⟩:=u;rw[←u];refine mE (n:=35) tok Tryz.func90 rfl rfl rfl rfl ?_;refine sg rfl (aE (aL (fun q:Nat×(List Bd)×Z×Nat=>mk [(0,rP),(1,.one (.clo 189 [R.vp 2 0])),(2,.one (.clo 149 [R.vp 5 0,R.vp 1 0])),(6,I .i64 (q.1:Nat))] ((600,rO L q.2.2.1)::(2,pR)::aCw x q.2.1)) (fun q=>Inv q.1 q.2.1∧q.1≤60∧ZA L q.2.2.1∧q.2.2.1.e=0∧q.2.2.1.R.length≤N∧q.2.2.1.R.length<q.2.2.2∧moreA bB q.1 q.2.2.1=q.2.2.1∧W=lpZ bB step q.2.2.2 q.1 q.2.1 q.2.2.1) (fun q=>q.2.2.1.R.length) (0,s,z,z.R.length+1) ⟨hI,Ac _,h,he,hN,B2 _,pJ _ _,u⟩ sl ?_));clear u h he hN hI;rintro⟨n,s,z,f⟩ ⟨hI,hn,h,he,hN,hf,hA,u⟩;dsimp only at hI hn h he hN hf hA u;refine aE (aA (aE (aL (fun y:Z=>mk [(0,rP),(1,.one (.clo 189 [R.vp 2 0])),(2,.one (.clo 149 [R.vp 5 0,R.vp 1 0])),(6,I .i64 (n:Nat))] ((600,rO L y)::(2,pR)::aCw x s)) (fun y=>ZA L y∧y.e=0∧cO z=cO y∧y.R.length≤z.R.length) (fun y=>y.R.length) z ⟨h,he,rfl,le_refl _⟩ sl ?_)));rintro y ⟨h2,B,e2,hle2⟩

 have hm:=eT h2 B cC;obtain⟨m1,m2,m3⟩:=kU h2;have O:=h2.may cC;have he3:=(gX cC y).trans B;generalize bQ cC y=m at hm m1 m2 m3 O he3;obtain⟨b,z3⟩:=m;dsimp only at m1 m2 m3 O he3;refine aA (sk 1 rfl (kc hm ?_));refine az (aB rfl (fun hb=>?_) (fun hb=>?_))
 ·have hb:b=true:=hb;have:=m3 hb;exact aD (aE (aD ⟨z3,⟨O,he3,e2.trans m1.symm,by omega⟩,m3 hb,sl⟩))
 have hb:b=false:=hb;obtain⟨g1,g2⟩:=m2 hb;subst g1;have e3:cO z=z3:=e2.trans g2;clear m1 m2 m3 O e2 hm;have hf0:∃g,f=g+1:=⟨f-1,by omega⟩
 obtain⟨f,rfl⟩:=hf0;rw[lpZ] at u;unfold bJ at u;rw[hA,e3] at u;have hs3:=o6 h2;have hn3:=dU h2;refine aG (aA (sk 1 rfl (kv (args:=[]) hs3 ?_)));refine az (aB rfl (fun hb=>?_) (fun hb=>?_))
 ·have hb:dJ bB z3=true:=hb;rw[θ (show ¬z3.e=0∨dJ bB z3=true from .inr hb)] at u;rw[ξ ω] at u;rw[u,bA B];exact aF rtN
 have hb:dJ bB z3=false:=hb;have hnb:¬(¬z3.e=0∨dJ bB z3=true):=fun k=>k.elim (fun k=>k B) fun k=>by rw[hb] at k;cases k
 rw[ξ hnb] at u;refine aD ?_;by_cases hn60:n<60
 case neg=>
  have d:decide (((n:Nat):Int)<60)=false:=ψ (by omega);rw[fN (by omega) B] at u;dsimp only at u;rw[ψ cH,ξ ω] at u;rw[u,aJ cH];have hmn:=bM 2 (b4 z3).pl;refine sk 5 rfl (kc hn3 ?_);refine ak 1 [] rfl ?_;rw[d];exact kp hmn
 have d:decide (((n:Nat):Int)<60)=true:=φ (by omega);rw[fM (by omega),φ B,θ rfl] at u;have hmo:=bL 2 (b4 z3).pl;refine sk 5 rfl (kc hn3 ?_);refine ak 1 [] rfl ?_;rw[d];refine kc hmo ?_;refine az ?_;have ho:=hone n s z3 hI hn60 h2 B (by omega);obtain⟨E,k2,k3,_⟩:=hst n s z3 hI hn60 h2 B;generalize step s z3=y at ho E k2 k3 u;obtain⟨s4,z4⟩:=y;dsimp only at ho E k2 k3 u;by_cases A:z4.e=0
 case neg=>
  have hp:=bF.err ho A;rw[fV A] at u;rw[u,aJ A];exact sk 1 rfl (kpv (args:=[]) hp)
 have ho:=bF.ok ho A;have k3:=k3 A;refine sk 1 rfl (kv (args:=[]) ho ?_);refine az (aA (agN [] rfl ?_));have hlp:=E.lp;have J:=lG E cC;have hn4:=dU E;have U:=o6 E;have hmo4:=bL 12 (b4 z4).pl;cases Y:isZ cC z4 with
 | true=>
  rw[Y] at J;have M:moreA bB (n+1) z4=z4:=ξ fun k=>by rw[Y] at k;cases k.2.2.1
  refine aC mixed (ak 1 [] rfl (kc J ?_));refine ak 7 [(2,.bv true),(5,.bv true)] rfl (kc hn4 ?_);refine ak 1 [(2,.bv true),(5,.bv true)] rfl (kc hmo4 ?_);exact az ⟨(n+1,s4,z4,f),⟨k2,by omega,E,A,by dsimp only;omega,by dsimp only;omega,M,u⟩,by dsimp only;omega,sl⟩
 | false=>
  rw[Y] at J;cases aa:dJ bB z4 with
  | true=>
   rw[aa] at U;have M:moreA bB (n+1) z4=z4:=ξ fun k=>by rw[aa] at k;cases k.2.2.2
   refine aC mixed (ak 1 [] rfl (kc J ?_));refine ak 2 [(2,.bv false)] rfl (kvG (args:=[]) U ?_);refine ak 4 [(2,.bv false),(5,.bv false)] rfl (kc hn4 ?_);refine ak 1 [(2,.bv false),(5,.bv false)] rfl (kc hmo4 ?_);exact az ⟨(n+1,s4,z4,f),⟨k2,by omega,E,A,by dsimp only;omega,by dsimp only;omega,M,u⟩,by dsimp only;omega,sl⟩
  | false=>
   rw[aa] at U;have hmn4:=bM 12 (b4 z4).pl;have M:moreA bB (n+1) z4=⟨z4.R,12,(b4 z4).pl⟩:=(θ ⟨succ_pos n,A,Y,aa⟩).trans (θ A);have h12:¬(12:Int)=0:=by decide
   have hWb:W.2=⟨z4.R,12,(b4 z4).pl⟩:=by
    obtain⟨f,rfl⟩:∃g,f=g+1:=⟨f-1,by omega⟩
    rw[lpZ] at u;unfold bJ at u;rw[M,kX h12,θ (show ¬(Z.mk z4.R 12 (b4 z4).pl).e=0∨_ from .inl h12),ξ ω] at u;rw[u]
   rw[hWb,aJ h12];refine aC mixed (ak 1 [] rfl (kc J ?_));refine ak 2 [(2,.bv false)] rfl (kvG (args:=[]) U ?_);refine ak 4 [(2,.bv false),(5,.bv false)] rfl (kc hn4 ?_);refine ak 1 [(2,.bv false),(5,.bv false)] rfl (kpD (.tup []) [] hmn4 ?_);exact az trivial
theorem aLa (x:In) {step:(List Bd)→Z→(List Bd)×Z}{Inv:Nat→(List Bd)→Prop}{L:List Tk}{N:Nat}
  (I:∀n s z,Inv n s→n<60→ZA L z→z.e=0→z.R.length≤N→bF Tryz.prog 149 ([]++[R.vp 5 0,R.vp 1 0].map V.one) ((600,rO L z)::aCw x s) (fZ L (.tup []) (step s z).2 (aCw x (step s z).1)))
  (E:∀n s z,Inv n s→n<60→ZA L z→z.e=0→ZA L (step s z).2∧Inv (n+1) (step s z).1∧((step s z).2.e=0→(step s z).2.R.length<z.R.length)∧Ze z (step s z).2)
  {z:Z} (h:ZA L z) (he:z.e=0) (hN:z.R.length≤N) {s:(List Bd)} (J:Inv 0 s):
  bF Tryz.prog 143 [rP,.one (.clo 149 [R.vp 5 0,R.vp 1 0])] ((600,rO L z)::aCw x s) (fZ L (.tup []) (u6 step s z).2 (aCw x (u6 step s z).1)):=by
 have g:=cY h he dS;have h1:=h.need dS;have M:=Ze.need dS z;unfold u6;generalize aQ dS z=B at g h1 M ⊢;have U:B.R.length≤z.R.length:=M;refine mE (n:=12) tok Tryz.func143 rfl rfl rfl rfl ?_;refine sg rfl ?_;by_cases q:B.e=0
 case neg=>
  have hp:=bF.err g q;rw[fV q];dsimp only;rw[bH q,aJ q];exact sk 1 rfl (kp hp)
 have g:=bF.ok g q;refine sk 1 rfl (kc g ?_);refine az ?_;have u:=aPw x (step:=step) (Inv:=Inv) (L:=L) (N:=N) I E h1 q (by omega) J;have hok:=(sO (sh:=bB) E (B.R.length+1) 0 s B (Ac _) J h1).1
 generalize lpZ bB step (B.R.length+1) 0 s B=W at u hok ⊢;obtain⟨s2,O⟩:=W;dsimp only at u hok ⊢;by_cases y:O.e=0
 case neg=>
  have hp:=bF.err u y;rw[bH y,aJ y];exact sk 3 rfl (kp hp)
 have u:=bF.ok u y;refine sk 3 rfl (kc u ?_);refine az ?_;have g:=cY hok y bB;generalize aQ bB O=z3 at g ⊢;by_cases A:z3.e=0
 case neg=>
  have hp:=bF.err g A;rw[aJ A];exact aC mixed (ak 1 [] rfl (kp hp))
 have g:=bF.ok g A;rw[bA A];refine aC mixed (ak 1 [] rfl (kc g ?_));exact az rtN
section
variable {L:List Tk}{ex:Nat→Z→Ex×Z}{N:Nat}(hB:tZ ex) (hS:aNr L ex N) (hX:x6)
include hB hS hX
theorem aP1 (x:In) (g:List Bd) {z:Z}(h:ZA L z) (he:z.e=0) (hN:z.R.length≤N) (h2:g.length≤4001):
  bF Tryz.prog 149 ([]++[R.vp 5 0,R.vp 1 0].map V.one) ((600,rO L z)::aCw x g) (fZ L (.tup []) (ibS ex g z).2 (aCw x (ibS ex g z).1)):=by
 have E:(g.map b6).length=g.length:=κ _;have hz0:(g.map b6++[b6 zBd])[g.length]?=some (b6 zBd):=by rw[A7 (by omega),E,B8];rfl
 have hw:=gR h he 1 (by decide);have J:=h.word (k:=1) (by decide);have O:(b5 1 z).2.R.length≤z.R.length:=Ze.word 1 z;unfold ibS;generalize b5 1 z=w at hw J O ⊢;obtain⟨U,M⟩:=w;dsimp only at hw J O ⊢;refine mE (n:=13) tok Tryz.func149 rfl rfl rfl rfl ?_;by_cases u:M.e=0
 case neg=>
  have hp:=bF.err hw u;obtain⟨L',z',z2',t',b',Y⟩:=hX;rw[aLr hB u,aJ u];refine aC mixed (ak 4 [] rfl (kpD (tkV t') [(600,rO L' z')] hp ?_));refine kc Y ?_;exact ak 7 [(7,.all),(10,.row g.length (b6 zBd))] rfl (az trivial)
 have hw:=bF.ok hw u;have q:=tO hB hS U 0 J u (by omega) (by omega);generalize dR ex U 0 M=y at q ⊢;obtain⟨I,z3⟩:=y;dsimp only at q ⊢;by_cases A:z3.e=0
 case neg=>
  have hp:=bF.err q A;rw[aJ A];refine aC mixed (ak 4 [] rfl (kc hw ?_));refine kpD (.pa (b6 zBd)) [(600,rO L M)] hp ?_;exact ak 7 [(7,.all),(10,.row g.length (b6 zBd))] rfl (az trivial)
 have q:=bF.ok q A;rw[bA A];have B:(g.map b6++[b6 zBd]).set g.length (b6 I)=(g++[I]).map b6:=by
  rw[set_append_right _ _ (by omega),E,B8,Ai];rfl
 have hle:(g++[I]).length=g.length+1:=by rw[ζ];rfl
 refine aC mixed (ak 4 [] rfl (kc hw ?_));refine kc q ?_;refine ak 7 [(7,.all),(10,.row g.length (b6 zBd))] rfl (az ?_);generalize hSe:g++[I]=S at B hle ⊢;exact rtN (ho:=⟨⟨_,rfl,.var rfl⟩,⟨_,rfl,.var rfl⟩,⟨_,rfl,.var (by rw[hle,←E];rfl)⟩,⟨_,rfl,.arrS B⟩,trivial⟩)
theorem aP0 (hO:ExO L ex) (hZ:o7 L) (hwt:wt L≤30000) {z:Z}(h:ZA L z) (he:z.e=0) (hN:z.R.length≤N):bF Tryz.prog 96 [rP] [(600,rO L z)] (fZ L (.pa (tC (pQ ex z).1)) (pQ ex z).2 []):=by
 unfold pQ;have hV:∀b y,instV b y=if b=true then((aZ y).1.map (·.text),aQ lZ (aZ y).2) else([],y):=fun _ _=>rfl
 have hBy:∀y w,vI y w=aQ dS (i5 y.2.1.pl y.1 (if w.2.e=0 then cK w.1.length 8 y.2.1.pl w.2 else w.2)):=fun _ _=>rfl
 have hA:gY z=((bT z).1,(b5 2 (bT z).2).1,(bQ cE (b5 2 (bT z).2).2).1,(b5 2 (bQ cE (b5 2 (bT z).2).2).2).1,(b5 2 (bQ cE (b5 2 (bT z).2).2).2).2):=rfl;rw[hA];have hp:=wE h he hZ;obtain⟨h1,hpl,l1⟩:=mB h hwt;generalize bT z=y at hp h1 hpl l1 ⊢;obtain⟨ps,z1⟩:=y;dsimp only at hp h1 hpl l1 ⊢;refine mE (n:=59) tok Tryz.func96 rfl rfl rfl rfl ?_;refine sg rfl ?_;by_cases A:z1.e=0
 case neg=>
  have hp:=bF.err hp A;rw[kW A,kL A];dsimp only;rw[kW A,mU (by rw[iK A];exact A),iK A,aJ A];exact sk 1 rfl (kp hp)
 have hp:=bF.ok hp A;refine sk 1 rfl (kc hp ?_);refine kz 1 rfl ?_;have hw:=gR h1 A 2 (by decide);have h2:=h1.word (k:=2) (by decide);have l2:=l1.trans (Ze.word 2 z1);generalize b5 2 z1=y at hw h2 l2 ⊢;obtain⟨u,z2⟩:=y;dsimp only at hw h2 l2 ⊢;by_cases B:z2.e=0
 case neg=>
  have hp:=bF.err hw B;rw[kL B];dsimp only;rw[kW B,mU (by rw[iK B];exact B),iK B,aJ B];exact sk 1 rfl (kp hp)
 have hw:=bF.ok hw B;refine sk 1 rfl (kc hw ?_);refine kz 2 rfl (sg rfl ?_);have hm:=eT h2 B cE;have h3:=h2.may cE;have l3:=l2.trans (Ze.may cE z2);have he3:=(gX cE z2).trans B;generalize bQ cE z2=y at hm h3 l3 he3 ⊢;obtain⟨br,z3⟩:=y;dsimp only at hm h3 l3 he3 ⊢;have O:=gR h3 he3 2 (by decide);have h4:=h3.word (k:=2) (by decide);have l4:=l3.trans (Ze.word 2 z3);generalize b5 2 z3=y at O h4 l4 ⊢;obtain⟨cn,z4⟩:=y;dsimp only at O h4 l4 ⊢;by_cases q:z4.e=0
 case neg=>
  have hp:=bF.err O q;rw[mU (by rw[iK q];exact q),iK q,aJ q];refine aA (sk 1 rfl (kc hm ?_));refine az ?_;cases br with
  | true=>
   exact aB rfl (fun _=>sk 1 rfl (kp hp)) (fun hb=>Bool.noConfusion hb)
  | false=>
   exact aB rfl (fun hb=>Bool.noConfusion hb) (fun _=>aC mixed (ak 1 [] rfl (kp hp)))
 have O:=bF.ok O q;obtain⟨h5,hvl,l5⟩:=aAo br h4;have g:=hV br z4;generalize instV br z4=y at h5 hvl l5 g ⊢;obtain⟨vs,z5⟩:=y;dsimp only at h5 hvl l5 ⊢;by_cases E:z5.e=0
 case neg=>
  rw[mU E];dsimp only;rw[aJ E];refine aA (sk 1 rfl (kc hm ?_));refine az ?_;cases br with
  | false=>
   rw[ξ ω] at g;obtain⟨rfl,rfl⟩:=Prod.mk.inj g;exact absurd q E
  | true=>
   rw[θ rfl] at g;have U:=mM h4 q;have g1:=h4.words;have Y:=eU h4;have aa:(aZ z4).2.e=0:=by unfold aZ;rw[θ q];exact q
   generalize aZ z4=y at U g1 Y g aa;obtain⟨l,z45⟩:=y;dsimp only at U g1 Y g aa;have htx:=tI l Y;have hnd:=cY g1 aa lZ;obtain⟨rfl,rfl⟩:=Prod.mk.inj g;have hp:=bF.err hnd E;refine aB rfl (fun _=>sk 1 rfl (kc O ?_)) (fun hb=>Bool.noConfusion hb);refine kz 3 rfl (sk 1 rfl (kc U ?_));refine kc htx ?_;exact kz 2 rfl (aC mixed (ak 1 [] rfl (kp hp)))
 have hvk:(vs.map aR).length=vs.length:=κ _;have hpk:(ps.map aS).length=ps.length:=κ _;refine aA (AWp.cut (mk [(1,.one (.vp 1 0)),(2,.one (.vp 2 0)),(3,.one (.c (.sl 5 (ps.map aS)))),(4,.one (.vp 4 0)),(5,.one (.vp 5 0))] [(600,rO L z5),(1,pR),(2,.var 176 (aWv.map .c)),(4,.var 167 ((aI u).map .c)),(5,.var 176 [.c (.str u.text),.c (.int .i64 u.pl),.c (.str cn.text),.c (.sl 1 (vs.map aR)),.c (.sl 5 (ps.map aS)),.c .nl])]) ?_ ?_)
 ·refine sk 1 rfl (kc hm ?_);refine az ?_;cases br with
  | true=>
   rw[θ rfl] at g;have U:=mM h4 q;have g1:=h4.words;have Y:=eU h4;have aa:(aZ z4).2.e=0:=by unfold aZ;rw[θ q];exact q
   generalize aZ z4=y at U g1 Y g aa;obtain⟨l,z45⟩:=y;dsimp only at U g1 Y g aa;have htx:=tI l Y;have hnd:=cY g1 aa lZ;obtain⟨rfl,rfl⟩:=Prod.mk.inj g;have hnd:=bF.ok hnd E;refine aB rfl (fun _=>sk 1 rfl (kc O ?_)) (fun hb=>Bool.noConfusion hb);refine kz 3 rfl (sk 1 rfl (kc U ?_));refine kc htx ?_;refine kz 2 rfl (aC mixed (ak 1 [] rfl (kc hnd ?_)));exact az sl
  | false=>
   rw[ξ ω] at g;obtain⟨rfl,rfl⟩:=Prod.mk.inj g;refine aB rfl (fun hb=>Bool.noConfusion hb) (fun _=>aC mixed (ak 1 [] rfl (kc O ?_)));refine kz 3 rfl (Sub.trans ?_ (vp 5 [.str u.text,.int .i64 u.pl,.str cn.text,.sl 1 [],.sl 5 (ps.map aS),.nl]));exact sl
 have hBz:=hBy (ps,u,br,cn,z4) (vs,z5);dsimp only at hBz;rw[θ E] at hBz;rw[hBz];have hC:∀y,aFy ex y=lpZ bB (ibS ex) (y.R.length+1) 0 [] y:=fun y=>pS ex _ _ _ _
 rw[hC];clear hBz hC hV hBy hA hm hw O hp g;by_cases hv8:vs.length≤8
 case neg=>
  have d:decide (((vs.length:Nat):Int)≤8)=false:=ψ (by omega);have hm:=bM 2 u.pl;rw[fN hv8 E,mV cH,bH cH,fV cH];dsimp only;rw[bH cH,aJ cH];refine sk 6 rfl ?_;rw[hvk,d];exact kp hm
 have d:decide (((vs.length:Nat):Int)≤8)=true:=φ (by omega);have hm:=bL 2 u.pl;rw[fM hv8];refine sk 6 rfl ?_;rw[hvk,d];refine kc hm ?_;refine az ?_;have M:∃F,F=i5 u.pl ps z5:=⟨_,rfl⟩
 obtain⟨F,M⟩:=M;rw[←M];refine aA (sg rfl (aE (aL (fun i:Nat=>mk [(1,.one (.vp 1 0)),(2,.one (.vp 2 0)),(4,.one (.vp 4 0)),(5,.one (.vp 5 0)),(41,.one (.c (.sl 5 (ps.map aS)))),(42,I .i64 ((ps.map aS).length:Nat)),(43,I .i64 (i:Nat))] [(600,rO L z5),(1,pR),(2,.var 176 (aWv.map .c)),(4,.var 167 ((aI u).map .c)),(5,.var 176 [.c (.str u.text),.c (.int .i64 u.pl),.c (.str cn.text),.c (.sl 1 (vs.map aR)),.c (.sl 5 (ps.map aS)),.c .nl])]) (fun i=>i≤ps.length∧F=i5 u.pl (ps.drop i) z5) (fun i=>ps.length-i) 0 ⟨Ac _,M⟩ sl ?_)));clear M;rintro i ⟨hi,M⟩;refine sg rfl (aA (aB rfl (fun hb=>?_) (fun hb=>?_)))
 ·have hlt:=ltD hb hpk;obtain⟨p,hpi⟩:=aM hlt;have hpi':=b9 aS hpi;have hds:ps.drop i=p::ps.drop (i+1):=by
   obtain⟨k1,k2⟩:=Ag.1 hpi;rw[←k2];exact A5 k1
  rw[hds,i5] at M;refine aD (aA (aE (sgh [(0,.row i (aS p))] rfl ?_)));by_cases hf2:p.ty.form=2
  case neg=>
   have d:decide (p.ty.form=2)=false:=ψ hf2;have hmn:=bM 12 u.pl;have h12:¬(12:Int)=0:=by decide
   rw[θ ⟨E,hf2⟩] at M;unfold bS at M;rw[θ E,mV h12] at M;subst M;rw[bH h12,fV h12];dsimp only;rw[bH h12,aJ h12];refine aC mixed (ak 6 [] rfl ?_);rw[d];exact kp hmn
  have d:decide (p.ty.form=2)=true:=φ hf2;have hmo:=bL 12 u.pl;rw[ξ (fun k=>k.2 hf2)] at M;refine aC mixed (ak 6 [] rfl ?_);rw[d];refine kc hmo ?_;exact az (agN [] rfl ⟨i+1,⟨hlt,M⟩,by dsimp only;omega,sl⟩)
 have hge:=geD hb hpk hi;subst hge;rw[Cp,i5] at M;subst M;refine aG (AWp.sub (Sub.ownCell (x:=5) (k:=5) (id:=511) 103 33 rfl rfl rfl) ?_);have hst:∀(n:Nat) (s:List Bd) (z:Z),(fA s∧s.length=n)→n<60→ZA L z→z.e=0→ZA L (ibS ex s z).2∧(fA (ibS ex s z).1∧(ibS ex s z).1.length=n+1)∧((ibS ex s z).2.e=0→(ibS ex s z).2.R.length<z.R.length)∧Ze z (ibS ex s z).2:=fun n s z hI hn h he=>by
  have g1:=h.word (k:=1) (by decide);obtain⟨k1,k2,k3,k4⟩:=tQ hO (b5 1 z).1 0 g1;have l1:(b5 1 z).2.R.length≤z.R.length:=Ze.word 1 z;unfold ibS;exact⟨k1,⟨mR hI.1 k2,by dsimp only;rw[ζ,hI.2];rfl⟩,fun h0=>by have:=k3 h0;dsimp only;omega,(Ze.word 1 z).trans k4⟩
 have hI0:fA ([]:List Bd)∧([]:List Bd).length=0:=⟨trivial,rfl⟩
 have l5N:F.R.length≤N:=le_trans (l4.trans l5) hN;have J:=aLa ⟨u.text,u.pl,cn.text,vs,ps,[]⟩ (step:=ibS ex) (Inv:=fun n s=>fA s∧s.length=n) (L:=L) (N:=N) (fun n s z hI hn h he hN=>aP1 hB hS hX _ s h he hN (by have:=hI.2;omega)) hst h5 E l5N (s:=[]) hI0;have hok:=sO (sh:=bB) (Inv:=fun n (s:List Bd)=>fA s∧s.length=n) hst ((aQ dS F).R.length+1) 0 [] (aQ dS F) (Ac _) hI0 (h5.need dS);unfold u6 aCw at J;dsimp only at J;generalize aQ dS F=z7 at J hok ⊢;generalize lpZ bB (ibS ex) (z7.R.length+1) 0 [] z7=W at J hok ⊢;obtain⟨bs,zB⟩:=W;dsimp only at J hok ⊢;have hbk:(bs.map b6).length=bs.length:=κ _;generalize aQ bB zB=z8 at J ⊢;by_cases he8:z8.e=0
 case neg=>
  have hp:=bF.err J he8;rw[aJ he8];exact sk 2 rfl (kp hp)
 have J:=bF.ok J he8;rw[bA he8];refine sk 2 rfl (kc J ?_);refine az (AWp.sub (Sub.freeze (id:=511) rfl) ?_);exact sg rfl (aF (rtC trw (hc:=.agg (.c .refl (.c .refl (.c .refl (.c .refl (.c .refl (.hs rfl hbk.symm (Go.AM.take_all hbk.symm) .nil)))))))))
end
def qQ (ex:Nat→Z→Ex×Z) (s:Pg×List Sg) (z:Z):(Pg×List Sg)×Z:=jM ex s.1 s.2 z
theorem aFc (ex:Nat→Z→Ex×Z):∀(f n:Nat) (p:Pg) (sigs:List Sg) (z:Z),m9 ex f n p sigs z=lpZ [] (qQ ex) f n (p,sigs) z
 | 0,_,_,_,_=>rfl
 | f+1,n,p,sigs,z=>by
  rw[m9,lpZ];split
  ·exact aFc ex f _ _ _ _
  ·rfl
theorem aM6 {L:List Tk}{z:Z}(h:ZA L z):aU Tryz.prog 91 ([]++[R.vp 1 0].map V.one) [(600,rO L z),(1,pR)] (B (dJ [] z)) [(600,rO L z),(1,pR)]:=by
 have hn:=dU h;have e:dJ [] z=decide ((b4 z).kind=6):=θ rfl;rw[e];refine bC (n:=8) tok Tryz.func91 rfl rfl rfl ?_;refine sg rfl (sk 3 rfl (kc hn ?_));exact kz 3 rfl (aF rtT)
def aQ2 (L:List Tk) (N:Nat):Prop:=∀z,ZA L z→z.e=0→z.R.length≤N→bF Tryz.prog 95 [rP] [(600,rO L z)] (fZ L (.pa (qP (iH z).1)) (iH z).2 [])
theorem aPx {step:(Pg×List Sg)→Z→(Pg×List Sg)×Z}{Inv:Nat→(Pg×List Sg)→Prop}{L:List Tk}{N:Nat}
  (hone:∀n s z,Inv n s→n<60→ZA L z→z.e=0→z.R.length≤N→bF Tryz.prog 92 ([]++[R.vp 1 0,R.vp 3 0,R.vp 4 0].map V.one) ((600,rO L z)::(1,pR)::aF1 s.1 s.2) (fZ L (.tup []) (step s z).2 ((1,pR)::aF1 (step s z).1.1 (step s z).1.2)))
  (hst:∀n s z,Inv n s→n<60→ZA L z→z.e=0→ZA L (step s z).2∧Inv (n+1) (step s z).1∧((step s z).2.e=0→(step s z).2.R.length<z.R.length)∧Ze z (step s z).2)
  {z:Z} (h:ZA L z) (he:z.e=0) (hN:z.R.length≤N) {s:(Pg×List Sg)} (hI:Inv 0 s):
  bF Tryz.prog 90 [rP,.one (.clo 91 [R.vp 1 0]),.one (.clo 92 [R.vp 1 0,R.vp 3 0,R.vp 4 0])] ((600,rO L z)::(1,pR)::aF1 s.1 s.2) (fZ L (.tup []) (lpZ [] step (z.R.length+1) 0 s z).2 ((1,pR)::aF1 (lpZ [] step (z.R.length+1) 0 s z).1.1 (lpZ [] step (z.R.length+1) 0 s z).1.2)):=by
 have u:∃W,W=lpZ [] step (z.R.length+1) 0 s z:=⟨_,rfl⟩
 obtain⟨W,u⟩:=u;rw[←u];refine mE (n:=35) tok Tryz.func90 rfl rfl rfl rfl ?_;refine sg rfl (aE (aL (fun q:Nat×(Pg×List Sg)×Z×Nat=>mk [(0,rP),(1,.one (.clo 91 [R.vp 1 0])),(2,.one (.clo 92 [R.vp 1 0,R.vp 3 0,R.vp 4 0])),(6,I .i64 (q.1:Nat))] ((600,rO L q.2.2.1)::(1,pR)::aF1 q.2.1.1 q.2.1.2)) (fun q=>Inv q.1 q.2.1∧q.1≤60∧ZA L q.2.2.1∧q.2.2.1.e=0∧q.2.2.1.R.length≤N∧q.2.2.1.R.length<q.2.2.2∧moreA [] q.1 q.2.2.1=q.2.2.1∧W=lpZ [] step q.2.2.2 q.1 q.2.1 q.2.2.1) (fun q=>q.2.2.1.R.length) (0,s,z,z.R.length+1) ⟨hI,Ac _,h,he,hN,B2 _,pJ _ _,u⟩ sl ?_));clear u h he hN hI;rintro⟨n,s,z,f⟩ ⟨hI,hn,h,he,hN,hf,hA,u⟩;dsimp only at hI hn h he hN hf hA u;refine aE (aA (aE (aL (fun y:Z=>mk [(0,rP),(1,.one (.clo 91 [R.vp 1 0])),(2,.one (.clo 92 [R.vp 1 0,R.vp 3 0,R.vp 4 0])),(6,I .i64 (n:Nat))] ((600,rO L y)::(1,pR)::aF1 s.1 s.2)) (fun y=>ZA L y∧y.e=0∧cO z=cO y∧y.R.length≤z.R.length) (fun y=>y.R.length) z ⟨h,he,rfl,le_refl _⟩ sl ?_)));rintro y ⟨h2,B,e2,hle2⟩

 have hm:=eT h2 B cC;obtain⟨m1,m2,m3⟩:=kU h2;have O:=h2.may cC;have he3:=(gX cC y).trans B;generalize bQ cC y=m at hm m1 m2 m3 O he3;obtain⟨b,z3⟩:=m;dsimp only at m1 m2 m3 O he3;refine aA (sk 1 rfl (kc hm ?_));refine az (aB rfl (fun hb=>?_) (fun hb=>?_))
 ·have hb:b=true:=hb;have:=m3 hb;exact aD (aE (aD ⟨z3,⟨O,he3,e2.trans m1.symm,by omega⟩,m3 hb,sl⟩))
 have hb:b=false:=hb;obtain⟨g1,g2⟩:=m2 hb;subst g1;have e3:cO z=z3:=e2.trans g2;clear m1 m2 m3 O e2 hm;have hf0:∃g,f=g+1:=⟨f-1,by omega⟩
 obtain⟨f,rfl⟩:=hf0;rw[lpZ] at u;unfold bJ at u;rw[hA,e3] at u;have hs3:=aM6 h2;have hn3:=dU h2;refine aG (aA (sk 1 rfl (kv (args:=[]) hs3 ?_)));refine az (aB rfl (fun hb=>?_) (fun hb=>?_))
 ·have hb:dJ [] z3=true:=hb;rw[θ (show ¬z3.e=0∨dJ [] z3=true from .inr hb)] at u;rw[ξ ω] at u;rw[u,bA B];exact aF rtN
 have hb:dJ [] z3=false:=hb;have hnb:¬(¬z3.e=0∨dJ [] z3=true):=fun k=>k.elim (fun k=>k B) fun k=>by rw[hb] at k;cases k
 rw[ξ hnb] at u;refine aD ?_;by_cases hn60:n<60
 case neg=>
  have d:decide (((n:Nat):Int)<60)=false:=ψ (by omega);rw[fN (by omega) B] at u;dsimp only at u;rw[ψ cH,ξ ω] at u;rw[u,aJ cH];have hmn:=bM 2 (b4 z3).pl;refine sk 5 rfl (kc hn3 ?_);refine ak 1 [] rfl ?_;rw[d];exact kp hmn
 have d:decide (((n:Nat):Int)<60)=true:=φ (by omega);rw[fM (by omega),φ B,θ rfl] at u;have hmo:=bL 2 (b4 z3).pl;refine sk 5 rfl (kc hn3 ?_);refine ak 1 [] rfl ?_;rw[d];refine kc hmo ?_;refine az ?_;have ho:=hone n s z3 hI hn60 h2 B (by omega);obtain⟨E,k2,k3,_⟩:=hst n s z3 hI hn60 h2 B;generalize step s z3=y at ho E k2 k3 u;obtain⟨s4,z4⟩:=y;dsimp only at ho E k2 k3 u;by_cases A:z4.e=0
 case neg=>
  have hp:=bF.err ho A;rw[fV A] at u;rw[u,aJ A];exact sk 1 rfl (kpv (args:=[]) hp)
 have ho:=bF.ok ho A;have k3:=k3 A;refine sk 1 rfl (kv (args:=[]) ho ?_);refine az (aA (agN [] rfl ?_));have hlp:=E.lp;have J:=lG E cC;have hn4:=dU E;have U:=aM6 E;have hmo4:=bL 12 (b4 z4).pl;cases Y:isZ cC z4 with
 | true=>
  rw[Y] at J;have M:moreA [] (n+1) z4=z4:=ξ fun k=>by rw[Y] at k;cases k.2.2.1
  refine aC mixed (ak 1 [] rfl (kc J ?_));refine ak 7 [(2,.bv true),(5,.bv true)] rfl (kc hn4 ?_);refine ak 1 [(2,.bv true),(5,.bv true)] rfl (kc hmo4 ?_);exact az ⟨(n+1,s4,z4,f),⟨k2,by omega,E,A,by dsimp only;omega,by dsimp only;omega,M,u⟩,by dsimp only;omega,sl⟩
 | false=>
  rw[Y] at J;cases aa:dJ [] z4 with
  | true=>
   rw[aa] at U;have M:moreA [] (n+1) z4=z4:=ξ fun k=>by rw[aa] at k;cases k.2.2.2
   refine aC mixed (ak 1 [] rfl (kc J ?_));refine ak 2 [(2,.bv false)] rfl (kvG (args:=[]) U ?_);refine ak 4 [(2,.bv false),(5,.bv false)] rfl (kc hn4 ?_);refine ak 1 [(2,.bv false),(5,.bv false)] rfl (kc hmo4 ?_);exact az ⟨(n+1,s4,z4,f),⟨k2,by omega,E,A,by dsimp only;omega,by dsimp only;omega,M,u⟩,by dsimp only;omega,sl⟩
  | false=>
   rw[aa] at U;have hmn4:=bM 12 (b4 z4).pl;have M:moreA [] (n+1) z4=⟨z4.R,12,(b4 z4).pl⟩:=(θ ⟨succ_pos n,A,Y,aa⟩).trans (θ A);have h12:¬(12:Int)=0:=by decide
   have hWb:W.2=⟨z4.R,12,(b4 z4).pl⟩:=by
    obtain⟨f,rfl⟩:∃g,f=g+1:=⟨f-1,by omega⟩
    rw[lpZ] at u;unfold bJ at u;rw[M,kX h12,θ (show ¬(Z.mk z4.R 12 (b4 z4).pl).e=0∨_ from .inl h12),ξ ω] at u;rw[u]
   rw[hWb,aJ h12];refine aC mixed (ak 1 [] rfl (kc J ?_));refine ak 2 [(2,.bv false)] rfl (kvG (args:=[]) U ?_);refine ak 4 [(2,.bv false),(5,.bv false)] rfl (kc hn4 ?_);refine ak 1 [(2,.bv false),(5,.bv false)] rfl (kpD (.tup []) [] hmn4 ?_);exact az trivial
section
variable {L:List Tk}{ex:Nat→Z→Ex×Z}{N:Nat}(hB:tZ ex) (hS:aNr L ex N) (hX:x6) (hO:ExO L ex) (hZ:o7 L) (hwt:wt L≤30000) (hC:aQ2 L N)
include hB hS hX hO hZ hwt hC
theorem aTj (n:Nat) (p:Pg) (sigs:List Sg) {z:Z}(h:ZA L z) (he:z.e=0) (hN:z.R.length≤N) (hn:n<60) (hp:PgOk n p) (hs:fX sigs∧sigs.length≤n):
  bF Tryz.prog 92 ([]++[R.vp 1 0,R.vp 3 0,R.vp 4 0].map V.one) ((600,rO L z)::(1,pR)::aF1 p sigs) (fZ L (.tup []) (jM ex p sigs z).2 ((1,pR)::aF1 (jM ex p sigs z).1.1 (jM ex p sigs z).1.2)):=by
 obtain⟨Y,aa,ab,J⟩:=hp;have M:(p.datas.map tD).length=p.datas.length:=κ _;have O:(p.classes.map qP).length=p.classes.length:=κ _;have U:(p.insts.map tC).length=p.insts.length:=κ _;refine mE (n:=36) tok Tryz.func92 rfl rfl rfl rfl ?_;unfold jM;have hm:=eT h he nL;have hl:=eS (s:=nL) h;have ha:=h.may nL;have u:= @kB nL z;have hx:=(gX nL z).trans he;have g:=fun(_:(bQ nL z).2.R.length≤N)=>aP7 ha hx hZ
 generalize bQ nL z=m at hm hl ha u hx g ⊢;obtain⟨b,I⟩:=m;dsimp only at hm hl ha u hx g ⊢;refine aE (sk 1 rfl (kc hm ?_));refine kz 1 rfl ?_;cases b with
 | true=>
  rw[θ rfl];have g:=g (by have:=hl rfl;omega);generalize oE I=y at g ⊢;obtain⟨e,E⟩:=y;dsimp only at g ⊢;refine aB rfl (fun _=>?_) (fun hb=>Bool.noConfusion hb);by_cases q:E.e=0
  case neg=>
   have hp:=bF.err g q;rw[aJ q];refine aC mixed (ak 3 [] rfl (kpD (.pa (tD ⟨[],0,[],[]⟩)) [(600,rO L I)] hp ?_));exact ak 4 [(4,.all)] rfl (az trivial)
  have g:=bF.ok g q;rw[bA q];have A:p.datas.map tD++[tD e]=(p.datas++[e]).map tD:=by rw[Ai];rfl
  have hle:(p.datas++[e]).length=p.datas.length+1:=by rw[ζ];rfl
  refine aC mixed (ak 3 [] rfl (kc g ?_));refine ak 4 [(4,.all)] rfl (az ?_);generalize p.datas++[e]=S at A hle ⊢;exact rtN (ho:=⟨⟨_,rfl,.var rfl⟩,⟨_,rfl,.var rfl⟩,⟨_,rfl,.var rfl⟩,⟨_,rfl,.var (by rw[hle,←M];rfl)⟩,⟨_,rfl,Go.AM.Ole.arr⟩,⟨_,rfl,Go.AM.Ole.arr⟩,⟨_,rfl,.arrS A⟩,⟨_,rfl,Go.AM.Ole.arr⟩,⟨_,rfl,Go.AM.Ole.arr⟩,trivial⟩)
 | false=>
 obtain rfl:=u rfl;rw[ξ ω];clear hm hl ha u hx g;refine aB rfl (fun hb=>Bool.noConfusion hb) (fun _=>?_);have hm:=eT h he iI;have hl:=eS (s:=iI) h;have ha:=h.may iI;have u:= @kB iI I;have hx:=(gX iI I).trans he;have g:=fun(k:(bQ iI I).2.R.length≤N)=>hC _ ha hx k
 generalize bQ iI I=m at hm hl ha u hx g ⊢;obtain⟨b,E⟩:=m;dsimp only at hm hl ha u hx g ⊢;refine sk 1 rfl (kc hm ?_);refine kz 1 rfl ?_;cases b with
 | true=>
  rw[θ rfl];have g:=g (by have:=hl rfl;omega);generalize iH E=y at g ⊢;obtain⟨e,z3⟩:=y;dsimp only at g ⊢;refine aB rfl (fun _=>?_) (fun hb=>Bool.noConfusion hb);by_cases q:z3.e=0
  case neg=>
   have hp:=bF.err g q;rw[aJ q];refine aC mixed (ak 3 [] rfl (kpD (.pa (qP ⟨[],0,[],[],[]⟩)) [(600,rO L E)] hp ?_));exact ak 4 [(4,.all)] rfl (az trivial)
  have g:=bF.ok g q;rw[bA q];have A:p.classes.map qP++[qP e]=(p.classes++[e]).map qP:=by rw[Ai];rfl
  have hle:(p.classes++[e]).length=p.classes.length+1:=by rw[ζ];rfl
  refine aC mixed (ak 3 [] rfl (kc g ?_));refine ak 4 [(4,.all)] rfl (az ?_);generalize p.classes++[e]=S at A hle ⊢;exact rtN (ho:=⟨⟨_,rfl,.var rfl⟩,⟨_,rfl,.var rfl⟩,⟨_,rfl,.var rfl⟩,⟨_,rfl,.var (by rw[hle,←O];rfl)⟩,⟨_,rfl,Go.AM.Ole.arr⟩,⟨_,rfl,Go.AM.Ole.arr⟩,⟨_,rfl,Go.AM.Ole.arr⟩,⟨_,rfl,.arrS A⟩,⟨_,rfl,Go.AM.Ole.arr⟩,trivial⟩)
 | false=>
 obtain rfl:=u rfl;rw[ξ ω];clear hm hl ha u hx g;refine aB rfl (fun hb=>Bool.noConfusion hb) (fun _=>?_);have hm:=eT h he nG;have hl:=eS (s:=nG) h;have ha:=h.may nG;have u:= @kB nG E;have hx:=(gX nG E).trans he;have g:=fun(k:(bQ nG E).2.R.length≤N)=>aP0 hB hS hX hO hZ hwt ha hx k
 generalize bQ nG E=m at hm hl ha u hx g ⊢;obtain⟨b,z3⟩:=m;dsimp only at hm hl ha u hx g ⊢;refine sk 1 rfl (kc hm ?_);refine kz 1 rfl ?_;cases b with
 | true=>
  rw[θ rfl];have g:=g (by have:=hl rfl;omega);generalize pQ ex z3=y at g ⊢;obtain⟨e,z4⟩:=y;dsimp only at g ⊢;refine aB rfl (fun _=>?_) (fun hb=>Bool.noConfusion hb);by_cases q:z4.e=0
  case neg=>
   have hp:=bF.err g q;rw[aJ q];refine aC mixed (ak 3 [] rfl (kpD (.pa (tC ⟨[],0,[],[],[],[]⟩)) [(600,rO L z3)] hp ?_));exact ak 4 [(4,.all)] rfl (az trivial)
  have g:=bF.ok g q;rw[bA q];have A:p.insts.map tC++[tC e]=(p.insts++[e]).map tC:=by rw[Ai];rfl
  have hle:(p.insts++[e]).length=p.insts.length+1:=by rw[ζ];rfl
  refine aC mixed (ak 3 [] rfl (kc g ?_));refine ak 4 [(4,.all)] rfl (az ?_);generalize p.insts++[e]=S at A hle ⊢;exact rtN (ho:=⟨⟨_,rfl,.var rfl⟩,⟨_,rfl,.var rfl⟩,⟨_,rfl,.var rfl⟩,⟨_,rfl,.var (by rw[hle,←U];rfl)⟩,⟨_,rfl,Go.AM.Ole.arr⟩,⟨_,rfl,Go.AM.Ole.arr⟩,⟨_,rfl,Go.AM.Ole.arr⟩,⟨_,rfl,Go.AM.Ole.arr⟩,⟨_,rfl,.arrS A⟩,trivial⟩)
 | false=>
 obtain rfl:=u rfl;rw[ξ ω];clear hm hl ha u hx g;refine aB rfl (fun hb=>Bool.noConfusion hb) (fun _=>?_);have B:=aTg hB hS hZ hwt p sigs 0 h he hN (by omega) (by have:=hs.2;omega) (by have:=J.1;omega);generalize aT ex sigs p.binds 0 z3=y at B ⊢;obtain⟨⟨S,Bs⟩,z4⟩:=y;dsimp only at B ⊢;by_cases q:z4.e=0
 case neg=>
  have hp:=bF.err B q;rw[aJ q];exact aC mixed (ak 2 [] rfl (kp hp))
 have B:=bF.ok B q;rw[bA q];refine aC mixed (ak 2 [] rfl (kc B ?_));exact az rtN
theorem aDb {z:Z}(h:ZA L z) (he:z.e=0) (hN:z.R.length≤N):bF Tryz.prog 54 [rP] [(600,rO L z)] (fZ L (.pa (mI (kO ex z).1)) (kO ex z).2 []):=by
 have M:∀(n:Nat) (s:Pg×List Sg) (z:Z),(PgOk n s.1∧fX s.2∧s.2.length≤n)→n<60→ZA L z→z.e=0→ZA L (qQ ex s z).2∧(PgOk (n+1) (qQ ex s z).1.1∧fX (qQ ex s z).1.2∧(qQ ex s z).1.2.length≤n+1)∧((qQ ex s z).2.e=0→(qQ ex s z).2.R.length<z.R.length)∧Ze z (qQ ex s z).2:=fun n s z E hn h he=>by
  obtain⟨a,b,c,d,e⟩:=aA6 hO hwt h E.1 E.2;exact⟨a,⟨b,c⟩,d,e⟩
 have O:PgOk 0 zPg∧fX ([]:List Sg)∧([]:List Sg).length≤0:=⟨⟨⟨le_refl _,fun d B=>(by cases B)⟩,⟨le_refl _,fun d B=>(by cases B)⟩,⟨le_refl _,fun d B=>(by cases B)⟩,⟨le_refl _,trivial⟩⟩,fun d B=>(by cases B),le_refl _⟩
 have q:=aPx (step:=qQ ex) (Inv:=fun n s=>PgOk n s.1∧fX s.2∧s.2.length≤n) (L:=L) (N:=N) (fun n s z E hn h he hN=>aTj hB hS hX hO hZ hwt hC n s.1 s.2 h he hN hn E.1 E.2) M h he hN (s:=(zPg,[])) O;have hok:=sO (sh:=[]) (Inv:=fun n (s:Pg×List Sg)=>PgOk n s.1∧fX s.2∧s.2.length≤n) M (z.R.length+1) 0 (zPg,[]) z (Ac _) O h;unfold kO;rw[aFc];unfold zY;generalize lpZ [] (qQ ex) (z.R.length+1) 0 (zPg,[]) z=W at q hok ⊢;obtain⟨⟨p,sigs⟩,J⟩:=W;dsimp only at q hok ⊢;obtain⟨g1,⟨m,hm60,hp,hs,hsl⟩,_⟩:=hok;refine mE (n:=15) tok Tryz.func54 rfl rfl rfl rfl ?_;refine sg rfl (sg rfl (sg rfl (AWp.sub (Sub.ownCell (x:=3) (k:=0) (id:=512) 172 5 rfl rfl rfl) ?_)));refine AWp.sub (Sub.ownCell (x:=3) (k:=1) (id:=513) 118 6 rfl rfl rfl) ?_;refine AWp.sub (Sub.ownCell (x:=3) (k:=2) (id:=514) 176 6 rfl rfl rfl) ?_;refine AWp.sub (Sub.ownCell (x:=3) (k:=3) (id:=511) 103 33 rfl rfl rfl) ?_;refine AWp.sub (Sub.ownCell (x:=4) (k:=0) (id:=510) 121 9 rfl rfl rfl) ?_;by_cases u:J.e=0
 case neg=>
  have hp:=bF.err q u;rw[mT u,aJ u];exact sk 3 rfl (kp hp)
 have q:=bF.ok q u;refine sk 3 rfl (kc q ?_);refine az ?_;have hsk:sigs.length≤m:=hsl;have g:=aG8 sigs p.binds u (by omega) (by have:p.binds.length≤m:=hp.b.1;omega);obtain⟨p1,p2,p3,p4⟩:=fY sigs p.binds J g1 hs hp.b.2;have I:= @k9 sigs p.binds J;generalize cS sigs p.binds J=y at g p1 p2 p3 p4 I ⊢;obtain⟨Bs,z6⟩:=y;dsimp only at g p1 p2 p3 p4 I ⊢;unfold aRd at g;dsimp only at g;refine AWp.sub (Sub.freeze (id:=510) rfl) ?_;by_cases A:z6.e=0
 case neg=>
  rw[ξ A] at g;have hpx:aB2 _ _ _ _ _:=g;rw[aJ A];exact sk 3 rfl (kp hpx)
 rw[θ A] at g;have g:aU _ _ _ _ _ _:=g;obtain rfl:=I A;rw[bA A];have U:p.datas.length=(p.datas.map tD).length:=(κ _).symm;have Y:p.classes.length=(p.classes.map qP).length:=(κ _).symm;have aa:p.insts.length=(p.insts.map tC).length:=(κ _).symm;have ab:p.binds.length=(Bs.map b6).length:=by rw[κ,p3]
 refine sk 3 rfl (kc g ?_);refine kz 2 rfl (AWp.sub (Sub.freeze (id:=511) rfl) ?_);refine AWp.sub (Sub.freeze (id:=512) rfl) ?_;refine AWp.sub (Sub.freeze (id:=513) rfl) ?_;refine AWp.sub (Sub.freeze (id:=514) rfl) ?_;exact sg rfl (aF (rtC trw (hc:=.agg (.hs rfl U (Go.AM.take_all U) (.hs rfl Y (Go.AM.take_all Y) (.hs rfl aa (Go.AM.take_all aa) (.hs rfl ab (Go.AM.take_all ab) .nil)))))))
end
end Go.Proofs.YtkhgpgihmphfdaaGreat
namespace Go.AM
open Go
def pU (a:Act) (D:List Deferred):Act:=⟨a.tmps,a.defers++D⟩
theorem yC (a:Act) (D:List Deferred) (d:Option Nat) (v:Value):(pU a D).put d v=pU (a.put d v) D:=by cases d<;>rfl
theorem aAx (a:Act) (D:List Deferred):(pU a D).eval=a.eval:=by funext x;cases x<;>rfl
section
variable {F:Fence}{m:Nat}{P:Program}{o:Oper}{a:Act}{w:World}{K K':Act→World→Prop}{Q Q':Exit→Act→World→Prop}{D:List Deferred}
theorem aIz (g:∀a w,K a w→K' (pU a D) w) (hq:∀e a w,Q e a w→Q' e (pU a D) w) {r:Result Next}(h:o.uponIn F m P a K Q r):o.uponIn F m P (pU a D) K' Q' r:=by
 have hl:LetsOut Q→LetsOut Q':=fun⟨a,w,h⟩=>⟨_,w,hq _ a w h⟩
 have hp:∀d v w,K (a.put d v) w→K' ((pU a D).put d v) w:=fun d v w h=>by rw[yC];exact g _ _ h
 cases r with
 | ok x w'=>
  cases x<;>simp only[Oper.uponIn] at h ⊢<;>
   first
    | exact hp _ _ _ h
    | exact⟨h.1,CallsIn.mono h.2 (fun e q he=>by cases e<;>first | exact hp _ _ _ he | exact hq _ _ _ he | exact hl he)⟩
    | exact⟨h.1,RowsIn.mono h.2 (fun _ _ he=>hp _ _ _ he)⟩
    | exact⟨h.1,RoundIn.mono h.2 (fun e q he=>by cases e<;>first | exact hp _ _ _ he | exact hq _ _ _ he | exact hl he)⟩
    | (have:=g _ _ h;rw[←yC] at this;exact this)
    | exact h
 | halt x w'=>cases x<;>simp only[Oper.uponIn] at h ⊢<;>first | exact hq _ _ _ h | exact h
theorem aIx (g:∀a w,K a w→K' (pU a D) w) (hq:∀e a w,Q e a w→Q' e (pU a D) w) (h:o.wpIn F m P a w K Q):o.wpIn F m P (pU a D) w K' Q':=by
 unfold Oper.wpIn at h ⊢;rw[aAx];exact⟨h.1,aIz g hq h.2⟩
theorem yZ {ops:Array Oper}{i:Nat}(g:∀a w,K a w→K' (pU a D) w) (hq:∀e a w,Q e a w→Q' e (pU a D) w) (h:wpOpIn F m P ops Q i K a w):wpOpIn F m P ops Q' i K' (pU a D) w:=by
 unfold wpOpIn at h ⊢;cases ho:ops[i]? with
 | none=>rw[ho] at h;exact g _ _ h
 | some o=>
  rw[ho] at h;dsimp only at h ⊢;rw[show(pU a D).tmps=a.tmps from rfl,aAx];split
  ·rename_i hw;rw[θ hw] at h;exact aIx g hq h
  ·rename_i hw;rw[ξ hw] at h;exact⟨h.1,by rw[yC];exact g _ _ h.2⟩
end
section
variable {P:Program}{n:Nat}{ops:Array Oper}{D:List Deferred}{Q':Exit→Act→World→Prop}
end
theorem aEh {n:Nat}{args:List V}{hin:List (Nat×AObj)}{S:Sto}{μ:Mu}{w:World}{vals:List Value}{k:Nat}(hk:k=n) (hle:Nat.ble args.length n=true) (I:Inv ⟨w,S,i9 μ (look hin),μ,look hin⟩ S μ (look hin) w) (g:aV S μ (look hin) args vals):
  Sim ⟨w,S,i9 μ (look hin),μ,look hin⟩ n S μ (mk (xC 0 args) hin) ⟨(⟨vals⟩:Array Value)++Array.replicate (k-(⟨vals⟩:Array Value).size) undef,[]⟩ w:=by
 have E:=aV.length g;have J:=An hle;refine⟨I,by simp;omega,rfl,fun t v M=>?_⟩;have key:∀(l:List V) (us:List Value) (k:Nat),aV S μ (look hin) l us→look (xC k l) t=some v→∃j,t=k+j∧∃u,us[j]?=some u∧aN S μ (look hin) v u:=by
  intro l
  induction l with
  | nil=>intro us k _ h;simp[xC,look] at h
  | cons x l O=>
   intro us k q hl;simp only[aV] at q;obtain⟨u,y,rfl,h1,h2⟩:=q;simp only[xC,look] at hl;split at hl
   ·rename_i A;cases hl;exact⟨0,by rw[δ A];rfl,u,rfl,h1⟩
   ·obtain⟨j,B,U,Y,h5⟩:=O y (k+1) h2 hl;exact⟨j+1,by omega,U,by simpa using Y,h5⟩
 obtain⟨j,h1,u,h2,B⟩:=key args vals 0 g M;rw[A4] at h1;subst h1;have hj:t<vals.length:=(Ag.1 h2).1
 have:((⟨vals⟩:Array Value)++Array.replicate (k-(⟨vals⟩:Array Value).size) undef).getD t undef=u:=by
  rw[Ae,B9 (by simpa using hj)];simp[h2]
 show aN S μ (look hin) v (((⟨vals⟩:Array Value)++Array.replicate (k-(⟨vals⟩:Array Value).size) undef).getD t undef);rw[this];exact B
theorem aGa {P:Program}{T:TT}{fn:Func}{n:Nat}{S S':Sto}{μ μ':Mu}{w w':World}{hin hout:List (Nat×AObj)}{res:V}{st:St}{a:Act}(M:Tok P T) (hs:Sim ⟨w,S,i9 μ (look hin),μ,look hin⟩ n S' μ' st a w') (O:Fin T fn st hin res hout):
  ∃v,(results fn a.tmps).run P w'=.ok v w'∧Inv ⟨w,S,i9 μ (look hin),μ,look hin⟩ S' μ' (look hout) w'∧aN S' μ' (look hout) res v:=by
 obtain⟨⟨vs,vs',U,hc,E⟩,q,hok⟩:=O;simp only[π] at hok;obtain⟨⟨⟨⟨⟨Y,k2⟩,k3⟩,k4⟩,k5⟩,k6⟩:=hok;obtain⟨us,h1,h2⟩:=pA M hs U;refine⟨_,h1,?_⟩;have g:=hc.rel hs.inv.obj h2;have y:∀i∈keys hout,Good st.h (look hout) (fun i=>i) i:=by
  intro i hi;obtain⟨o',A⟩:=c6 hi;obtain⟨o,g1,g2⟩:=q.mem _ (b7 A);exact⟨o,o',g1,A,g2⟩
 have I:aN S' μ' st.h res (aD7 us):=by
  rw[←E]
  match vs',us,g with
  | [],us,g=>simp only[aV] at g;subst g;simp[aI1,aD7,aN,aV]
  | [v],us,g=>
   simp only[aV] at g;obtain⟨u,J,rfl,h5,rfl⟩:=g;exact h5
  | v::v'::l,us,g=>
   have B:=g;simp only[aV] at B;obtain⟨u,J,rfl,_,u',us'',rfl,_,_⟩:=B;simp only[aI1,aD7,aN];exact⟨_,rfl,g⟩
 refine⟨hs.inv.keep q k2 fun id o ho=>bN k4 id (mem_map.2 ⟨_,b7 (show look hin id=some o from ho),rfl⟩),?_⟩;have:=aN.ren (H:=st.h) (H':=look hout) (σ:=fun i=>i) res _ (fun i hi=>y i (bN Y i hi)) (by rw[V.ren_id];exact I);exact this
def oR (draw:Bool) (P:Program) (ops:Array Oper) (Q:Exit→Act→World→Prop) (a:Act) (w:World):Prop:=
 match draw with
 | true=>wpAnyIn (Wd none) 0 P .any ops Q ops.size (Array.replicate ops.size false) a { w with drawn:=w.drawn+1 }
 | false=>wpOpsIn (Wd none) 0 P ops Q (List.range ops.size) a w
theorem oR.wp {draw:Bool}{P:Program}{ops:Array Oper}{Q:Exit→Act→World→Prop}{a:Act}{w:World}{id:Nat}(hm:P.follows .mixedOrders=true) (h:oR draw P ops Q a w):(Code.region id ops draw).wpIn (Wd none) 0 P Q a w:=by
 cases draw with
 | true=>exact wpIn_region_any hm h
 | false=>exact wpIn_region h
section
variable {P:Program}{ops:Array Oper}{Q Q':Exit→Act→World→Prop}{D:List Deferred}(hq:∀e a w,Q e a w→Q' e (pU a D) w)
include hq
theorem aIg {md:Region.Mode}:∀(fuel:Nat) (g:Array Bool) (a:Act) (w:World),wpAnyIn (Wd none) 0 P md ops Q fuel g a w→wpAnyIn (Wd none) 0 P md ops Q' fuel g (pU a D) w
 | 0,_,_,_,h=>⟨h.1,hq _ _ _ h.2⟩
 | fuel+1,_,_,_,h=>⟨fun k=>hq _ _ _ (h.1 k),fun i hi=>yZ (fun a w=>aIg fuel _ a w) hq (h.2 i hi)⟩
theorem aFh:∀(l:List Nat) (a:Act) (w:World),wpOpsIn (Wd none) 0 P ops Q l a w→wpOpsIn (Wd none) 0 P ops Q' l (pU a D) w
 | [],a,w,h=>hq _ _ _ h
 | i::l,a,w,h=>by
  rw[Bo] at h ⊢;exact yZ (fun a w=>aFh l a w) hq h
theorem oR.ext {draw:Bool}{a:Act}{w:World}(h:oR draw P ops Q a w):oR draw P ops Q' (pU a D) w:=by
 cases draw with
 | true=>exact aIg hq _ _ _ _ h
 | false=>exact aFh hq _ _ _ h
end
section
variable {P:Program}{n:Nat}{ops:Array Oper}{Q':Exit→Act→World→Prop}{G:Ctx}{S:Sto}{μ:Mu}{st st':St}{a:Act}{w:World}{xs:REs}{draw:Bool}
theorem aAd (A:Run P n ops 0 st xs st') (hlen:Nat.beq xs.length ops.size=true) (q:(!draw || (cM (preds ops) xs []&&dQ ops))=true)
  (I:∀S' μ' u w',Sim G n S' μ' st' u w'→Q' .normal u w') (hs:Sim G n S μ st a w):oR draw P ops Q' a w:=by
 have g:=δ hlen;cases draw with
 | true=>
  simp only[Bool.not_true,B0,π] at q;refine aEo (G:=G) A g q.1 q.2 I ops.size _ (by simp) ?_ ?_ S μ a _ ?_ none
  ·have:((List.range ops.size).filter fun i=>!(Array.replicate ops.size false).getD i false)=List.range ops.size:=by
    apply filter_eq_self.2;intro i hi;simp at hi;simp[hi]
   rw[this,length_range]
  ·intro i o ho hl;simp[Ay] at hl;split at hl<;>simp at hl
  ·have J:∀(B:REs) (k:Nat) (s:St),c8 (fun j=>(Array.replicate ops.size false).getD j false) k B s=s:=by
    intro B
    induction B with
    | nil=>intro k s;rfl
    | cons y B E=>
     intro k s;have M:(Array.replicate ops.size false).getD k false=false:=by
      simp[Ay];split<;>rfl
     simp only[c8,M,Bf];exact E _ _
   rw[J];exact⟨hs.inv.same rfl rfl rfl rfl,hs.size,hs.defers,hs.env⟩
 | false=>
  have key:∀(k:Nat) (st st':St) (xs:REs),Run P n ops k st xs st'→k+xs.length=ops.size→(∀S' μ' u w',Sim G n S' μ' st' u w'→Q' .normal u w')→∀S μ a w,Sim G n S μ st a w→wpOpsIn (Wd none) 0 P ops Q' (List.range' k xs.length) a w:=by
   intro k st st' xs A
   induction A with
   | nil=>intro _ hq S μ a w hs;exact hq S μ a w hs
   | @cons k st rd f xs st' O _ E=>
    intro hl hq S μ a w hs;simp only[Aa,range'_succ,Bo];exact O st (fC.refl _ _) G S μ a w _ Q' hs (fun S1 U Y w1 s1=>E (by simp at hl;omega) hq S1 U Y w1 s1) none
  have:=key 0 st st' xs A (by omega) I S μ a w hs;show wpOpsIn _ _ _ _ _ (List.range ops.size) _ _;rwa [range_eq_range',←g]
theorem aFi {v:Value}{p:Nat}(q:RunP v p P n ops 0 st xs st') (hp:p<xs.length) (hle:xs.length≤ops.size) (g:draw=true→xs.length=ops.size∧(cM (preds ops) xs []&&dQ ops)=true)
  (hQ:∀S' μ' e h a' w',Sim G n S' μ' ⟨e,h,st.d⟩ a' w'→Q' (pan v) a' w') (hs:Sim G n S μ st a w):oR draw P ops Q' a w:=by
 cases draw with
 | true=>
  obtain⟨u,g⟩:=g rfl;rw[π] at g;refine zP (G:=G) q u g.1 g.2 (by omega) hQ ops.size _ (by simp) ?_ ?_ ?_ S μ a _ ?_ none
  ·have:((List.range ops.size).filter fun i=>!(Array.replicate ops.size false).getD i false)=List.range ops.size:=by
    apply filter_eq_self.2;intro i hi;simp at hi;simp[hi]
   rw[this,length_range]
  ·intro i o ho hl;simp[Ay] at hl;split at hl<;>simp at hl
  ·simp[Ay];split<;>rfl
  ·have hz:∀(A:REs) (k:Nat) (s:St),c8 (fun j=>(Array.replicate ops.size false).getD j false) k A s=s:=by
    intro A
    induction A with
    | nil=>intro k s;rfl
    | cons y A E=>
     intro k s;have hf:(Array.replicate ops.size false).getD k false=false:=by
      simp[Ay];split<;>rfl
     simp only[c8,hf,Bf];exact E _ _
   rw[hz];exact⟨hs.inv.same rfl rfl rfl rfl,hs.size,hs.defers,hs.env⟩
 | false=>
  have key:∀(k:Nat) (s B:St) (xs:REs) (m:Nat),RunP v p P n ops k s xs B→k≤p→p<k+xs.length→k+xs.length≤m→s.d=st.d→∀S μ a w,Sim G n S μ s a w→wpOpsIn (Wd none) 0 P ops Q' (List.range' k (m-k)) a w:=by
   intro k s B xs m q
   induction q with
   | nil=>intro h1 h2;simp at h2;omega
   | @cons k s rd f xs B hne I _ E=>
    intro h1 h2 J M S μ a w hs;simp only[Aa] at h2 J;rw[show m-k=(m-(k+1))+1 by omega];simp only[range'_succ,Bo];exact I s (fC.refl _ _) G S μ a w _ Q' hs (fun S1 O U Y s1=>E (by omega) (by omega) (by omega) M S1 O U Y s1) none
   | @pan s rd f xs B I _ _=>
    intro h1 h2 J M S μ a w hs;simp only[Aa] at h2 J;rw[show m-p=(m-(p+1))+1 by omega];simp only[range'_succ,Bo];exact I s (fC.refl _ _) G S μ a w _ Q' hs (fun S1 O e1 h1 U Y s1=>hQ S1 O e1 h1 U Y (by rw[←M];exact s1)) none
  have:=key 0 st st' xs ops.size q (by omega) (by omega) (by omega) rfl S μ a w hs;show wpOpsIn _ _ _ _ _ (List.range ops.size) _ _;rwa [range_eq_range',←sub_zero ops.size]
end
def yY (P:Program) (o:Oper):Prop:=∀ρ w x w',(execOp ρ o).run P w=.ok x w'→(∃v,x=.value v)∨x=.skip
section
variable {P:Program}{w:World}
theorem aVc {s:Sem Value}{x:Next}{w':World}(h:(do pure (Next.value (←s)):Sem Next).run P w=.ok x w'):∃v,x=.value v:=by
 simp only[ε] at h;cases hs:s.run P w with
 | ok v g=>
  rw[hs] at h;simp only[η,τ] at h;cases h;exact⟨v,rfl⟩
 | halt y g=>rw[hs] at h;simp[Result.andThen] at h
theorem aVd {s:Sem Unit}{x:Next}{w':World}(h:(do s;pure Next.skip:Sem Next).run P w=.ok x w'):x=.skip:=by
 simp only[ε] at h;cases hs:s.run P w with
 | ok v g=>
  rw[hs] at h;simp only[η,τ] at h;cases h;rfl
 | halt y g=>rw[hs] at h;simp[Result.andThen] at h
end
def isVal:Op→Bool
 | .move _ | .assign _ | .alloc _ | .load .. | .store .. | .fieldAddr .. | .extract ..=>true
 | _=>false
theorem aJ6 {P:Program}{o:Oper}(h:isVal o.op=true):yY P o:=by
 intro ρ w x w' g;cases ho:o.op<;>rw[ho] at h<;>first | cases h | skip
 all_goals simp only[execOp,ho] at g
 all_goals first | exact .inl (aVc g) | exact .inr (aVd g) | (simp only[τ] at g;cases g;exact .inl ⟨_,rfl⟩) | skip
section
variable {m:Nat}{P:Program}{ops:Array Oper}{Q:Exit→Act→List Frame→World→Prop}{i:Nat}{rest:List Nat}{a:Act}{cs cs':List Frame}{w w':World}{o:Oper}
theorem aEm (ho:ops[i]?=some o) (g:o.guard=none) (q:(execOp a.eval o).run P w=.ok .recover w) (hc:recoverD cs=none) (h:wpOpsSIn (Wd none) m P ops Q rest (a.put o.dst .nilIface) cs w):wpOpsSIn (Wd none) m P ops Q (i::rest) a cs w:=by
 unfold wpOpsSIn;simp only[ho];refine⟨fun _ _=>trivial,?_⟩;rw[θ (by simp[Region.wanted,g]),q];dsimp only;rw[hc];exact h
theorem aB9 {v:Value}(ho:ops[i]?=some o) (g:o.guard=none) (q:(execOp a.eval o).run P w=.ok .recover w) (hc:recoverD cs=some (v,cs')) (h:wpOpsSIn (Wd none) m P ops Q rest (a.put o.dst v) cs' w):wpOpsSIn (Wd none) m P ops Q (i::rest) a cs w:=by
 unfold wpOpsSIn;simp only[ho];refine⟨fun _ _=>trivial,?_⟩;rw[θ (by simp[Region.wanted,g]),q];dsimp only;rw[hc];exact h
theorem aEl {v:Value}(ho:ops[i]?=some o) (g:o.guard=none) (q:(execOp a.eval o).run P w=.ok (.value v) w') (h:wpOpsSIn (Wd none) m P ops Q rest (a.put o.dst v) cs w'):wpOpsSIn (Wd none) m P ops Q (i::rest) a cs w:=by
 unfold wpOpsSIn;simp only[ho];refine⟨fun _ _=>trivial,?_⟩;rw[θ (by simp[Region.wanted,g]),q];exact h
theorem aRr {d:Nat}{v:Value}(h:d<a.tmps.size):(a.put (some d) v).eval (.tmp d)=v:=by
 show((a.put (some d) v).tmps).getD d undef=v;show(a.tmps.setIfInBounds d v).getD d undef=v;rw[aAr _ _ _ _ h,θ rfl]
theorem aSh (q:∀o,ops[i]?=some o→yY P o) (h:wpOpIn (Wd none) 0 P ops (fun e a w=>Q e a cs w) i (fun a w=>wpOpsSIn (Wd none) m P ops Q rest a cs w) a w):wpOpsSIn (Wd none) m P ops Q (i::rest) a cs w:=by
 unfold wpOpIn at h;unfold wpOpsSIn;cases ho:ops[i]? with
 | none=>rw[ho] at h;exact h
 | some o=>
  rw[ho] at h;dsimp only at h ⊢;split
  ·rename_i hw;rw[θ hw] at h;refine⟨h.1,?_⟩;have h2:=h.2;rw[show(Wd none).round=none from rfl,Oper.semAt_none] at h2;cases g:(execOp a.eval o).run P w with
   | ok x w'=>
    rw[g] at h2;rcases q o ho _ _ _ _ g with⟨v,rfl⟩ | rfl
    ·exact h2
    ·exact h2
   | halt y w'=>
    rw[g] at h2;cases y<;>first | exact h2 | exact h2.elim
  ·rename_i hw;rw[ξ hw] at h;exact h
theorem aAe {n:Nat}{G:Ctx}(q:∀(i:Nat) (o:Oper),ops[i]?=some o→yY P o∨i=0∨i=1) {k:Nat}{st st':St}{xs:REs}(y:Run P n ops k st xs st') (g:2≤k∨∀(i:Nat) (o:Oper),ops[i]?=some o→yY P o):
  (∀S' μ' u w',Sim G n S' μ' st' u w'→Q .normal u cs w')→∀S μ a w,Sim G n S μ st a w→wpOpsSIn (Wd none) m P ops Q (List.range' k xs.length) a cs w:=by
 induction y with
 | nil=>intro hq S μ a w hs;exact hq S μ a w hs
 | @cons k st rd f xs st' A _ B=>
  intro hq S μ a w hs;rw[Aa,range'_succ];refine aSh (fun o ho=>?_) (A st (fC.refl _ _) G S μ a w _ _ hs (fun S1 E I J s1=>B (g.imp (fun h=>by omega) id) hq S1 E I J s1) none);rcases g with g | g
  ·rcases q k o ho with h | h | h
   ·exact h
   ·omega
   ·omega
  ·exact g k o ho
theorem aVf {n:Nat}{G:Ctx}{S:Sto}{μ:Mu}{st:St}{id:Nat}(hs:Sim G n S μ st a w) (g:∀(i:Nat) (o:Oper),ops[i]?=some o→yY P o) (h:iC (fun _=>False) P n ops false 0 st [] (fun st'=>∀S' μ' q w',Sim G n S' μ' st' q w'→Q .normal q cs w')):(Code.region id ops false).wpSIn (Wd none) m P Q a cs w:=by
 rcases h with⟨xs,st',h1,h2,y,u⟩ | ⟨v,p,xs,st',h0,_⟩
 case inr=>exact h0.elim
 have hl:=δ h2;rw[A4] at hl;refine wpSIn_region ?_;rw[range_eq_range',←hl];exact aAe (fun i o ho=>.inl (g i o ho)) h1 (.inr g) u S μ a w hs
theorem aRt {n:Nat}{G:Ctx}{S:Sto}{μ:Mu}{st:St}(hs:Sim G n S μ st a w) (q:∀(i:Nat) (o:Oper),ops[i]?=some o→yY P o∨i=0∨i=1) (h:iC (fun _=>False) P n ops false 2 st [] (fun st'=>∀S' μ' g w',Sim G n S' μ' st' g w'→Q .normal g cs w')):wpOpsSIn (Wd none) m P ops Q (List.range' 2 (ops.size-2)) a cs w:=by
 rcases h with⟨xs,st',h1,h2,y,u⟩ | ⟨v,p,xs,st',h0,_⟩
 case inr=>exact h0.elim
 have hl:=δ h2;rw[←hl,Nat.add_sub_cancel_left];exact aAe q h1 (.inl (le_refl 2)) u S μ a w hs
def aNv (k:Nat) (ops:Array Oper):Bool:=(ops.toList.drop k).all fun o=>isVal o.op
theorem iD {k:Nat}(h:aNv k ops=true) (i:Nat) (o:Oper) (ho:ops[i]?=some o) (hi:k≤i):yY P o:=by
 refine aJ6 ((A8.1 h) o ?_);refine Af (i:=i-k) ?_;rw[Al,show k+(i-k)=i by omega];simpa using ho
end
end Go.AM
namespace Go.Proofs.YtkhgpgihmphfdaaGreat
open Go Go.AM
set_option maxRecDepth 20000
set_option maxHeartbeats 4000000
def atO (e p:Int):AObj:=.var 38 [.c (.int .i64 e),.c (.int .i64 p)]
theorem aDp (e p:Int) (w:World):(Instr.typeAssert (rN e p) 20 161 true).run Tryz.prog w=.ok (.tuple #[.agg #[.int .i64 e,.int .i64 p],.bool true]) w:=by kernel_rfl
theorem aIb (w:World):(Instr.typeAssert .nilIface 20 161 true).run Tryz.prog w=.ok (.tuple #[.agg #[.int .i64 0,.int .i64 0],.bool false]) w:=by kernel_rfl
theorem aTf (b:Bool) (e p:Int) (m:Nat) {S:Sto}{μ:Mu}{w:World}{vals:List Value}(hI:Go.AM.Inv ⟨w,S,i9 μ (Go.AM.look [(4,atO 0 0)]),μ,Go.AM.look [(4,atO 0 0)]⟩ S μ (Go.AM.look [(4,atO 0 0)]) w) (hv:aV S μ (Go.AM.look [(4,atO 0 0)]) [.one (.vp 4 0)] vals) (u I:FrameMode)
  (hu:∀(q:Frame) (cs:List Frame),q.mode=u→(b=true∧recoverD (q::cs)=some (rN e p,{ q with mode:=I }::cs))∨(b=false∧recoverD (q::cs)=none∧I=u∧e=0∧p=0)):
  CallsDIn (Wd none) m Tryz.prog 87 ⟨vals⟩ u w (fun Y u' w'=>(∃v,Y=.returned v)∧u'=I∧∃S' μ',Go.AM.Inv ⟨w,S,i9 μ (Go.AM.look [(4,atO 0 0)]),μ,Go.AM.look [(4,atO 0 0)]⟩ S' μ' (Go.AM.look [(4,atO e p)]) w'):=by
 refine callsDIn_of_wpSIn Tryz.func87 rfl trivial (fun q cs hc=>?_);have g:=aEh (n:=11) (k:=(Tryz.f87).ntmps) rfl rfl hI hv;generalize hG:(⟨w,S,i9 μ (Go.AM.look [(4,atO 0 0)]),μ,Go.AM.look [(4,atO 0 0)]⟩:Ctx)=G at g ⊢;generalize ha:(⟨(⟨vals⟩:Array Value)++Array.replicate ((Tryz.f87).ntmps-(⟨vals⟩:Array Value).size) undef,[]⟩:Act)=a at g;have J:∀(x y:Int) (S':Sto) (μ':Mu) (U:Act) (w':World) (st:St) (cs':List Frame),Sim G 11 S' μ' st U w'→st.d=[]→st.h 4=some (atO x y)→cs'={ q with mode:=I }::cs→x=e→y=p→bodyPostS Tryz.prog Tryz.f87 q cs (fun Y u' w'=>(∃v,Y=.returned v)∧u'=I∧∃S' μ',Go.AM.Inv G S' μ' (Go.AM.look [(4,atO e p)]) w') .normal U cs' w':=by
  intro x y S' μ' U w' st cs' hs hd h4 hcs hx hy;subst hx hy;have hd':U.defers=[]:=by have:=hs.defers;rw[hd] at this;exact this
  subst hG;obtain⟨v,g1,g2,g3⟩:=aGa (fn:=Tryz.f87) (res:=.tup []) (hout:=[(4,atO x y)]) tok hs ⟨⟨[],[],.nil,.nil,rfl⟩,⟨⟨_,h4,.var rfl⟩,trivial⟩,rfl⟩;exact⟨hd',I,hcs,v,g1,⟨_,rfl⟩,rfl,_,_,g2⟩
 refine wpSIn_seq (wpSIn_region ?_);show wpOpsSIn _ _ _ _ _ (0::1::List.range' 2 6) _ _ _;rcases hu q cs hc with⟨rfl,hr⟩ | ⟨rfl,hr,rfl,rfl,rfl⟩
 ·refine aB9 rfl rfl rfl hr ?_;have A:=g.put g.inv (Evolve.refl _ _ _) (d:=4) (by decide) (v:=rN e p) (x:=none) (fun y hy=>by cases hy);refine aEl (w':=w) rfl rfl (v:=.tuple #[.agg #[.int .i64 e,.int .i64 p],.bool true]) ?_ ?_
  ·show(do pure (Next.value (←Instr.typeAssert ((a.put (some 4) (rN e p)).eval (.tmp 4)) 20 161 true)):Sem Next).run Tryz.prog w=_;rw[aRr (by rw[g.size];decide),ε,aDp];rfl
  have M:=A.put A.inv (Evolve.refl _ _ _) (d:=5) (by decide) (v:=.tuple #[.agg #[.int .i64 e,.int .i64 p],.bool true]) (x:=some (.tup [.pa [.int .i64 e,.int .i64 p],B true])) (fun y hy=>by
   cases hy;simp only[aN,aV,bU,Rep,aX]
   exact⟨_,rfl,_,_,rfl,⟨_,rfl,_,_,rfl,rfl,_,_,rfl,rfl,rfl⟩,_,_,rfl,rfl,rfl⟩)
  refine aRt M (fun i o ho=>?_) ?_
  ·by_cases hi:2≤i
   ·exact .inl (iD (k:=2) (by rfl) i o ho hi)
   ·exact .inr (by omega)
  refine kz 6 rfl ?_;intro S3 μ3 a3 w3 O;refine wpSIn_seq (aVf O (fun i o ho=>iD (k:=0) (by rfl) i o ho (Ac _)) ?_);refine kz 1 rfl ?_;intro S4 μ4 a4 w4 E;have hb:=E.env 8 _ rfl;simp only[aN,aX,Rep] at hb;refine wpSIn_cond (t:=true) hb ?_;refine aVf E (fun i o ho=>iD (k:=0) (by rfl) i o ho (Ac _)) ?_;refine kz 3 rfl ?_;intro S5 μ5 a5 w5 hs5;exact J e p S5 μ5 a5 w5 _ _ hs5 rfl rfl rfl rfl rfl
 ·refine aEm rfl rfl rfl hr ?_;have A:=g.put g.inv (Evolve.refl _ _ _) (d:=4) (by decide) (v:=.nilIface) (x:=none) (fun y hy=>by cases hy);refine aEl (w':=w) rfl rfl (v:=.tuple #[.agg #[.int .i64 0,.int .i64 0],.bool false]) ?_ ?_
  ·show(do pure (Next.value (←Instr.typeAssert ((a.put (some 4) .nilIface).eval (.tmp 4)) 20 161 true)):Sem Next).run Tryz.prog w=_;rw[aRr (by rw[g.size];decide),ε,aIb];rfl
  have M:=A.put A.inv (Evolve.refl _ _ _) (d:=5) (by decide) (v:=.tuple #[.agg #[.int .i64 0,.int .i64 0],.bool false]) (x:=some (.tup [.pa [.int .i64 0,.int .i64 0],B false])) (fun y hy=>by
   cases hy;simp only[aN,aV,bU,Rep,aX]
   exact⟨_,rfl,_,_,rfl,⟨_,rfl,_,_,rfl,rfl,_,_,rfl,rfl,rfl⟩,_,_,rfl,rfl,rfl⟩)
  refine aRt M (fun i o ho=>?_) ?_
  ·by_cases hi:2≤i
   ·exact .inl (iD (k:=2) (by rfl) i o ho hi)
   ·exact .inr (by omega)
  refine kz 6 rfl ?_;intro S3 μ3 a3 w3 O;refine wpSIn_seq (aVf O (fun i o ho=>iD (k:=0) (by rfl) i o ho (Ac _)) ?_);refine kz 1 rfl ?_;intro S4 μ4 a4 w4 E;have hb:=E.env 8 _ rfl;simp only[aN,aX,Rep] at hb;refine wpSIn_cond (t:=false) hb ?_;refine wpSIn_of_wpIn rfl (wpIn_skip ?_);exact J 0 0 S4 μ4 a4 w4 _ _ E rfl rfl (by rw[←hc]) rfl rfl
end Go.Proofs.YtkhgpgihmphfdaaGreat
namespace Go.AM
open Go
section
variable {P:Program}{ops:Array Oper}{Q:Exit→Act→World→Prop}{d:Nat}{x:Value}
def Kp (d:Nat) (x:Value) (a:Act):Prop:=a.tmps.getD d undef=x
theorem Kp.put {a:Act}(h:Kp d x a) {t:Option Nat}(g:t≠some d) (v:Value):Kp d x (a.put t v):=by
 cases t with
 | none=>exact h
 | some t=>
  show(a.tmps.setIfInBounds t v).getD d undef=x;rw[Ae,A0,ξ (fun e=>g (by rw[e])),←Ae];exact h
theorem aNx {o:Oper}{a:Act}(h0:Kp d x a) (g:o.dst≠some d) {K K':Act→World→Prop}(q:∀a w,Kp d x a→K a w→K' a w) {r:Result Next}(h:o.uponIn (Wd none) 0 P a K Q r) (u:¬LetsOut Q):
  o.uponIn (Wd none) 0 P a K' (fun e a w=>Q e a w∧Kp d x a) r:=by
 cases r with
 | ok y w'=>
  cases y<;>simp only[Oper.uponIn] at h ⊢<;>
   first
    | exact q _ _ (h0.put g _) h
    | exact⟨h.1,CallsIn.mono h.2 (fun e A he=>by cases e<;>first | exact q _ _ (h0.put g _) he | exact⟨he,h0⟩ | exact(u he).elim)⟩
    | exact⟨h.1,RowsIn.mono h.2 (fun _ _ he=>q _ _ (h0.put g _) he)⟩
    | exact⟨h.1,RoundIn.mono h.2 (fun e A he=>by cases e<;>first | exact q _ _ (h0.put g _) he | exact⟨he,h0⟩ | exact(u he).elim)⟩
    | (refine q _ _ (Kp.put ?_ g _) h;unfold Kp at h0 ⊢;exact h0)
    | exact h
 | halt y w'=>cases y<;>simp only[Oper.uponIn] at h ⊢<;>first | exact⟨h,h0⟩ | exact h
theorem aD1 {i:Nat}{a:Act}{w:World}(h0:Kp d x a) (q:∀o∈ops.toList,o.dst≠some d) {K K':Act→World→Prop}(g:∀a w,Kp d x a→K a w→K' a w) (u:¬LetsOut Q) (h:wpOpIn (Wd none) 0 P ops Q i K a w):
  wpOpIn (Wd none) 0 P ops (fun e a w=>Q e a w∧Kp d x a) i K' a w:=by
 unfold wpOpIn at h ⊢;cases ho:ops[i]? with
 | none=>rw[ho] at h;exact g _ _ h0 h
 | some o=>
  have hm:=q o (by
   obtain⟨h1,h2⟩:=Bq.1 ho;rw[←h2]
   exact Array.getElem_mem_toList h1)
  rw[ho] at h;dsimp only at h ⊢;split
  ·rename_i hw;rw[θ hw] at h;unfold Oper.wpIn at h ⊢;exact⟨h.1,aNx h0 hm g h.2 u⟩
  ·rename_i hw;rw[ξ hw] at h;exact⟨h.1,g _ _ (h0.put hm _) h.2⟩
theorem aNm (q:∀o∈ops.toList,o.dst≠some d) (u:¬LetsOut Q) {md:Region.Mode}:∀(fuel:Nat) (g:Array Bool) (a:Act) (w:World),Kp d x a→wpAnyIn (Wd none) 0 P md ops Q fuel g a w→wpAnyIn (Wd none) 0 P md ops (fun e a w=>Q e a w∧Kp d x a) fuel g a w
 | 0,_,_,_,h0,h=>⟨h.1,h.2,h0⟩
 | fuel+1,_,_,_,h0,h=>⟨fun k=>⟨h.1 k,h0⟩,fun i hi=>aD1 h0 q (fun a w h0 h=>aNm q u fuel _ a w h0 h) u (h.2 i hi)⟩
theorem aMq (g:∀o∈ops.toList,o.dst≠some d) (q:¬LetsOut Q):∀(l:List Nat) (a:Act) (w:World),Kp d x a→wpOpsIn (Wd none) 0 P ops Q l a w→wpOpsIn (Wd none) 0 P ops (fun e a w=>Q e a w∧Kp d x a) l a w
 | [],a,w,h0,h=>⟨h,h0⟩
 | i::l,a,w,h0,h=>by
  rw[Bo] at h ⊢;exact aD1 h0 g (fun a w h0 h=>aMq g q l a w h0 h) q h
theorem oR.kp {draw:Bool}{a:Act}{w:World}(u:(ops.toList.all fun o=>o.dst !=some d)=true) (q:¬LetsOut Q) (h0:Kp d x a) (h:oR draw P ops Q a w):oR draw P ops (fun e a w=>Q e a w∧Kp d x a) a w:=by
 have g:∀o∈ops.toList,o.dst≠some d:=fun o ho e=>by
  have:=(A8.1 u) o ho;rw[e] at this;simp at this
 cases draw with
 | true=>exact aNm g q _ _ _ _ h0 h
 | false=>exact aMq g q _ _ _ h0 h
end
section
variable {P:Program}{n:Nat}{ops:Array Oper}{G:Ctx}{S:Sto}{μ:Mu}{st:St}{a:Act}{w:World}{draw:Bool}{v:Value}
theorem aWx (g:List (Nat×AObj)) (M:List (Nat×V)) (hs:Sim G n S μ st a w) (Y:st.d=[]) (aa:eG (fun p=>st.e p.1=some p.2) M) (ab:(M.all fun p=>subset p.2.refs (keys g))=true)
  (ac:eG (fun p=>st.h p.1=some p.2) g) (hc:subset (eH g) (g.map (·.1))=true) (O:(g.all fun p=>p.2.live)=true) (hok:(g.all fun p=>lI p.2)=true)
  (h:iC (fun v'=>v'=v) P n ops draw 0 (mk M g) [] (fun _=>False)):
  oR draw P ops (fun e u w'=>e=pan v∧u.defers=[]∧u.tmps.size=n∧∃S' A hout,(∀id o,look hout id=some o→∃o',look g id=some o')∧Inv G S' A (fE st.h (outs hout)) w'∧Evolve S μ st.h S' A (fE st.h (outs hout))) a w:=by
 have hh:∀id o,look g id=some o→st.h id=some o∧o≠ .dead:=by
  intro id o ho;have hm:=b7 ho;refine⟨ac.mem _ hm,?_⟩;have:=(A8.1 O) _ hm;rintro rfl;simp[AObj.live] at this
 have hI:=hs.inv.hand hh hc;have U:∀i∈keys g,Good st.h (look g) (fun i=>i) i:=by
  intro i hi;obtain⟨o,ho⟩:=c6 hi;obtain⟨h1,h2⟩:=hh i o ho;exact⟨o,o,h1,ho,.refl_id h2⟩
 have hs2:Sim ⟨w,S,i9 μ (look g),μ,look g⟩ n S μ (mk M g) a w:=by
  refine⟨hI,hs.size,by have:=hs.defers;rw[Y] at this;exact this,fun t v ht=>?_⟩;have hm:=b7 (show look M t=some v from ht);have h1:=hs.env t v (aa.mem _ hm);have hr:=(A8.1 ab) _ hm;have:=aN.ren (H:=st.h) (H':=look g) (σ:=fun i=>i) v _ (fun i hi=>U i (bN hr i hi)) (by rw[V.ren_id];exact h1);exact this
 have hout:∀S' μ' e E u w',Sim ⟨w,S,i9 μ (look g),μ,look g⟩ n S' μ' ⟨e,E,[]⟩ u w'→u.defers=[]∧u.tmps.size=n∧∃S' A hout,(∀id o,look hout id=some o→∃o',look g id=some o')∧Inv G S' A (fE st.h (outs hout)) w'∧Evolve S μ st.h S' A (fE st.h (outs hout)):=by
  intro S' μ' e E u w' q;have B:=q.inv.evo;have hbl:∀id x,(∃o',look g id=some o')→E id=some x→lI x=true:=fun id x ⟨o',ho⟩ hx=>by
   obtain⟨o2,I,g2⟩:=B.obj id o' ho;have I:E id=some o2:=I;rw[hx] at I;cases I;exact aEf g2 ((A8.1 hok) _ (b7 ho))
  have hI':Inv ⟨w,S,i9 μ (look g),μ,look g⟩ S' μ' (look (uL g E)) w':=by
   refine⟨q.inv.holds,fun id o ho=>?_,fun i j o o' b c c' hi hj hm hm'=>?_,fun i o b c hi hm=>?_,q.inv.frame,q.inv.sle,q.inv.sto,⟨B.le,fun id o ho=>?_⟩,q.inv.fre⟩
   ·obtain⟨h1,x,h2,rfl⟩:=cZ ho;exact(q.inv.obj id x h2).blur (hbl id x h1 h2)
   ·obtain⟨_,x,h2,_⟩:=cZ hi;obtain⟨_,y,J,_⟩:=cZ hj;exact q.inv.inj i j x y b c c' h2 J hm hm'
   ·obtain⟨_,x,h2,_⟩:=cZ hi;exact q.inv.own i x b c h2 hm
   ·obtain⟨o2,I,g2⟩:=B.obj id o ho;refine⟨blur o2,pB ho I,?_⟩;exact AObj.succ_trans g2 (wL (p:=True) trivial) fun e _=>e
  obtain⟨A,q1,q2,q3,q4⟩:=hs.inv.back (fun id o ho=>(hh id o ho).1) (fun id o ho=>.inl (cZ ho).1) hI';exact⟨q.defers,q.size,S',A,uL g E,fun id o ho=>(cZ ho).1,q2,q3⟩
 rcases h with⟨xs,st',h1,h2,h4,J⟩ | ⟨v',p,xs,st',h0,h1,h2,J,h4,h5⟩
 ·exact J.elim
 ·subst h0;rw[A4] at J h4 h5;exact aFi h1 J h4 (fun Y=>h5 Y) (fun S' μ' e h u w' s=>⟨rfl,hout S' μ' e h u w' s⟩) hs2
theorem aTe {o:Oper}{good:List (Nat×AObj)→Prop}{K:Act→World→Prop}{Q:Exit→Act→World→Prop}{f:FuncId}{x:Operand}{caps:List R}{xs:Array Operand}{ts:Array TypeId}{ids:List Nat}{args:List V}(hin:List (Nat×AObj)) (hb:fI P f) (ho:o.op=.call { callee:=.value x,args:=xs,argTypes:=ts })
  (hx:opv st x=some (.one (.clo f caps)))
  (Y:∀S μ w vals,Inv ⟨w,S,i9 μ (look hin),μ,look hin⟩ S μ (look hin) w→aV S μ (look hin) (args++caps.map V.one) vals→Calls P f ⟨vals⟩ w fun e w'=>∃S' μ' hout,e=.panicked [{ v:=v,recovered:=false }]∧(∀id o,look hout id=some o→∃o',look hin id=some o')∧good hout∧Inv ⟨w,S,i9 μ (look hin),μ,look hin⟩ S' μ' (look hout) w')
  (ha:ArgsV st ids xs.toList args) (A:eG (fun p=>st.h p.1=some p.2) hin) (hok:dW (args++caps.map V.one) hin=true) (hs:Sim G n S μ st a w)
  (hQ:∀S' u hout w',good hout→Inv G S' u (fE st.h (outs hout)) w'→Evolve S μ st.h S' u (fE st.h (outs hout))→Q (pan v) a w'):o.wpIn (Wd none) 0 P a w K Q:=by
 have I:=aK hs hx fun t ht=>rfl
 simp only[aN,aX] at I;obtain⟨vs,h1,h2⟩:=I;have hr:(execOp a.eval o).run P w=.ok (.enter f ⟨xs.toList.map a.eval++vs⟩) w:=by
  simp only[execOp,ho,resolve,h1,Deferred.ofValue,ε,τ,η,invoke,dK hb];congr 2;apply Array.ext';simp
 have J:∀(l:List V) (us:List Value) (rs:List R) (vs:List Value),aV S μ st.h l us→aP S μ st.h rs vs→aV S μ st.h (l++rs.map V.one) (us++vs):=by
  intro l
  induction l with
  | nil=>
   intro us rs vs h k;simp only[aV] at h;subst h;simp only[A9]
   induction rs generalizing vs with
   | nil=>simp only[aP] at k;subst k;simp[aV]
   | cons r rs B=>
    simp only[aP] at k;obtain⟨v,vs',rfl,g,q⟩:=k;simp only[Bh,aV];exact⟨v,vs',rfl,by simpa [aN] using g,B vs' q⟩
  | cons x l B=>
   intro us rs vs h k;simp only[aV] at h;obtain⟨v,vs',rfl,g,q⟩:=h;simp only[A1,aV];exact⟨v,_,rfl,g,B vs' rs vs q k⟩
 have M:=J _ _ _ _ (ha.rel hs (fun t ht=>rfl) fun i h=>rfl) h2;simp only[dW,π] at hok;obtain⟨⟨g,q⟩,k3⟩:=hok;have hh:∀id o,look hin id=some o→st.h id=some o∧o≠ .dead:=by
  intro id o ho;have hm:=b7 ho;refine⟨A.mem _ hm,?_⟩;have:=(A8.1 k3) _ hm;rintro rfl;simp[AObj.live] at this
 have hI:=hs.inv.hand hh q;have y:∀i∈keys hin,Good st.h (look hin) (fun i=>i) i:=by
  intro i hi;obtain⟨o,ho⟩:=c6 hi;obtain⟨h1,h2⟩:=hh i o ho;exact⟨o,o,h1,ho,.refl_id h2⟩
 have O:aV S μ (look hin) (args++caps.map V.one) (xs.toList.map a.eval++vs):=by
  have:=aV.ren (H:=st.h) (H':=look hin) (σ:=fun i=>i) (args++caps.map V.one) _ (fun i hi=>y i (bN g i hi)) (by rw[V.renL_id];exact M);exact this
 have hc:=Y S μ w _ hI O;refine iN hr ?_;refine hc.mono fun e w' ⟨S',μ',hout,he,E,hg,U⟩=>?_
 subst he;obtain⟨u,q1,q2,q3,q4⟩:=hs.inv.back (fun id o ho=>(hh id o ho).1) (fun id o ho=>.inl (E id o ho)) U;exact hQ S' u hout w' hg q2 q3
theorem aUv {id:Nat}{D:List Deferred}{d:Nat}{x:Value}{Q':Exit→Act→World→Prop}(hm:P.follows .mixedOrders=true) (hs:Sim G n S μ st a w) (h0:Kp d x a) (q:(ops.toList.all fun o=>o.dst !=some d)=true)
  (h:iC (fun _=>False) P n ops draw 0 st [] (fun st'=>∀S' μ' g w',Kp d x g→Sim G n S' μ' st' g w'→Q' .normal (pU g D) w')):(Code.region id ops draw).wpIn (Wd none) 0 P Q' (pU a D) w:=by
 rcases h with⟨xs,st',h1,h2,u,y⟩ | ⟨v,p,xs,st',h0,_⟩
 case inr=>exact h0.elim
 rw[A4] at h2;refine oR.wp hm (oR.ext (Q:=fun e a w=>(e=.normal∧∃S' μ',Sim G n S' μ' st' a w)∧Kp d x a) ?_ (oR.kp q ?_ h0 (aAd h1 h2 u (fun S' μ' g w' s=>⟨rfl,S',μ',s⟩) hs)))
 ·rintro e a w ⟨⟨rfl,S',μ',s⟩,A⟩;exact y S' μ' a w A s
 ·rintro⟨a,w,h,_⟩;cases h
theorem aVg {id:Nat}{Q':Exit→Act→World→Prop}(hm:P.follows .mixedOrders=true) (hs:Sim G n S μ st a w)
  (h:iC (fun _=>False) P n ops draw 0 st [] (fun st'=>∀S' μ' g w',Sim G n S' μ' st' g w'→Q' .normal g w')):(Code.region id ops draw).wpIn (Wd none) 0 P Q' a w:=by
 rcases h with⟨xs,st',h1,h2,q,u⟩ | ⟨v,p,xs,st',h0,_⟩
 case inr=>exact h0.elim
 rw[A4] at h2;exact oR.wp hm (aAd h1 h2 q u hs)
end
end Go.AM
