/-
  Texts Lf2 to Lx3 in one.
-/
import Derived.Test.YtglfogjcijokpaaGreatDoorM13
open List (append_nil drop_left flatMap_cons flatMap_nil foldl_append foldl_cons length_append length_cons length_eq_zero_iff length_map length_pos_of_mem length_range length_set length_take length_zip map_append map_congr_left map_cons map_map map_nil mem_append mem_cons mem_cons_of_mem mem_cons_self mem_flatMap mem_map mem_of_mem_drop mem_of_mem_take mem_or_eq_of_mem_set mem_range mem_singleton nil_append nodup_cons nodup_range of_mem_zip set_cons_succ set_cons_zero sum_nil take_add_one take_left take_left' take_length take_of_length_le zip_cons_cons)
open Nat (add_assoc add_mul add_zero le_add_left le_add_right le_max_left le_max_right le_refl le_trans lt_of_le_of_lt max_le mul_add mul_le_mul mul_le_mul_left mul_le_mul_right not_lt succ_mul zero_le)
namespace Go.Proofs.YtglfogjcijokpaaGreatDoor
open Go Go.AM
set_option maxRecDepth 20000
set_option maxHeartbeats 4000000
structure SF (X F1 F2:Nat) (c:Core) (s:Str) (b r:Core):Prop where
 tb:TB X c s b r
 pl:PL c s b r
 w:∀ρ,wS ρ r≤wS (rL ρ s (wS ρ b)) c
 z:bE ZL r
 fl:FLn (F1+F2) r
 fz:∀z,b=vC z→FLn F1 r
theorem a5u {X:Nat}{s:Str}{q:List (Str×Ty)}{I:List (Str×List Str)}(h:lw s q I≤X):31*q.length≤X∧∀p∈I,31*p.2.length≤X:=by
 unfold lw at h;have h1:=aRk q;refine⟨by omega,fun p hp=>?_⟩;have g1:=kR (g:=fun p:Str×List Str=>1+w30 p.1+(p.2.map fun v=>1+w30 v).sum) hp;have g2:=pU p.2;omega
theorem aG3 {sb:Core→Str→Core→Core}{P Q:Core→Prop}{s:Str}{b:Core}{ns:List Str}{ps:List Core}(Y:∀p∈ps,P p) (Z:∀p n z,P p→z.length≤30→P (sb p n (vC z))) (h1:∀p,P p→Q p) (h2:∀p,P p→Q (sb p s b))
  (hl:(ps.flatMap pfR).length+2*ns.length+(pfR b).length≤540000000000):∀q∈(cO sb s b ns ps).2,Q q:=by
 obtain⟨⟨qs,g1,g2⟩,_⟩:=xZ (sb:=sb) (Rel:=fun p q=>P p→P q) (fun p h=>h) (fun p q r I O h=>O (I h)) (s:=s) (b:=b) (ns:=ns) (ps:=ps) (fun p n z W h=>Z p n z h W) hl;have J:∀q∈qs,P q:=fun q J=>by
  obtain⟨p,hp,I⟩:=g1.mem q J;exact I (Y p hp)
 rcases g2 with g2 | g2
 ·rw[g2];exact fun q h=>h1 q (J q h)
 ·rw[g2];intro q h;obtain⟨p,hp,rfl⟩:=Ad.1 h;exact h2 p (J p hp)
theorem aPb (hI:cE 540000000000) {X F1:Nat}(hX:31≤X) (hX2:X≤403):∀(k:Nat) (c:Core),m30 c≤k→CF X F1 c→∀(s:Str) (b:Core) (F2:Nat),CF X F2 b→F1+F2≤20000000000→1≤F2→SF X F1 F2 c s b (bW k c s b):=by
 intro k
 induction k with
 | zero=>intro c h;have:=dB c;omega
 | succ k ih=>
 intro c h hc s b F2 hb hF hF2;have hTG:=hc.tyG hI;have hTGb:=hb.tyG hI;have hfreeb:=hb.free (by omega) (by omega);have hlcb:=aDi (X:=X) (by omega) _ b (le_refl _) hb.q;have hlcc:=aDi (X:=X) (by omega) _ c (le_refl _) hc.q;have hm31:=dB c;have hc0:=hc;have hid:=fun(h:¬s∈pfR c)=>aRo k c s b hc.q h
 obtain⟨f,n,nm,t,ks,bs,al⟩:=c;have Z:=hc.q;obtain⟨⟨h7,ht0,hbt0⟩,zk,zb,za⟩:=aJ.1 hc.z;have hZ:=a00 (k+1) (.mk f n nm t ks bs al) s b hc.z hb.z;have hnode:∀r:Core,PL (.mk f n nm t ks bs al) s b r→(pfR r).length≤F1+F2:=fun r hr=>by
  have:=eO (pfR r) (pfR (.mk f n nm t ks bs al)++pfR b) (y5 r) fun x hx=>χ.2 ((hr.pf x hx).imp And.left id)
  rw[Ab] at this;have:=hc.fl.len;have:=hb.fl.len;omega
 have hnodez:∀r:Core,PL (.mk f n nm t ks bs al) s b r→s∈pfR (.mk f n nm t ks bs al)→∀z,b=vC z→(pfR r).length≤F1:=fun r hr hs z aa=>by
  have:=eO (pfR r) (z::(pfR (.mk f n nm t ks bs al)).erase s) (y5 r) fun x hx=>by
   rcases hr.pf x hx with⟨h1,h2⟩ | h1
   ·exact η _ ((List.mem_erase_of_ne h2).2 h1)
   ·rw[aa] at h1;have:x=z:=κ.1 h1;rw[this];exact φ
  rw[Am,List.length_erase_of_mem hs] at this;have:=length_pos_of_mem hs;have:=hc.fl.len;omega
 rw[bW] at hZ hid ⊢;by_cases hv:f=1∧nm=s
 ·rw[ξ (show(Core.mk f n nm t ks bs al).form=1∧(Core.mk f n nm t ks bs al).name=s from hv)];have hPL:PL (.mk f n nm t ks bs al) s b b:=by
   obtain⟨rfl,rfl⟩:=hv;refine⟨fun x hx=>.inr hx,fun σ hσ hb'=>le_trans hb' ?_⟩;rw[mS,ξ rfl];omega
  have hW:∀ρ,wS ρ b≤wS (rL ρ s (wS ρ b)) (.mk f n nm t ks bs al):=fun ρ=>by
   obtain⟨rfl,rfl⟩:=hv;have e:rL ρ nm (wS ρ b) nm=wS ρ b:=by unfold rL;rw[ξ rfl]
   rw[wS.eq_1 (rL ρ nm (wS ρ b)),ξ rfl,e];omega
  refine⟨⟨wU f n nm t ks bs al s b hv hlcb hTGb,⟨hb.q,fun A E ρ=>Cf ..,fun x hx=>.inr hx,le_add_left _ _⟩,fun B _ hb'=>le_trans hb' (Ar _ hm31)⟩,hPL,hW,hb.z,hb.fl.up (by omega),fun z aa=>?_⟩;have h1:1≤F1:=by
   have:=hc.fl.len;obtain⟨rfl,rfl⟩:=hv;rw[pfR,ξ rfl] at this;exact this
  rw[aa];exact .mk h1 (fun x hx=>by cases hx) (fun x hx=>by cases hx) (fun x hx=>by cases hx)
 rw[ψ (show ¬((Core.mk f n nm t ks bs al).form=1∧(Core.mk f n nm t ks bs al).name=s) from hv)] at hZ hid ⊢;rw[ψ (show ¬((Core.mk f n nm t ks bs al).form=7∧s∈pfR (Core.mk f n nm t ks bs al)) from fun h=>h7 h.1)] at hZ hid ⊢
 let P:Core→Prop:=fun x=>m30 x<m30 (.mk f n nm t ks bs al)∧CF X F1 x
 have hsub:∀p,P p→∀n' b' F',CF X F' b'→F1+F'≤20000000000→1≤F'→SF X F1 F' p n' b' (bW k p n' b'):=fun p hp n' b' F' hb' hF' h1=>ih p (by have:=hp.1;omega) hp.2 n' b' F' hb' hF' h1
 have hzS:∀p m z,P p→z.length≤30→SF X F1 1 p m (vC z) (bW k p m (vC z)):=fun p m z hp I=>hsub p hp m (vC z) 1 (CF.vC I hX (le_refl _)) (by omega) (le_refl _)
 have J:∀p m z,P p→z.length≤30→P (bW k p m (vC z))∧R0 p (bW k p m (vC z)):=fun p m z hp I=>by
  have h1:=hzS p m z hp I;have h2:=h1.tb.r0 I;exact⟨⟨C1 h2.sz hp.1,h1.tb.rx.q,h1.z,h1.fz z rfl⟩,h2⟩
 have hz:∀p m z,P p→Fr z→z.length≤30→P (bW k p m (vC z))∧(∀x∈pfR (bW k p m (vC z)),x∈pfR p∨x=z)∧∀σ,Sg σ→mS σ (bW k p m (vC z))≤mS σ p:=fun p m z hp hFr I=>by
  have h3:=(hzS p m z hp I).pl;refine⟨(J p m z hp I).1,fun x hx=>(h3.pf x hx).imp And.left fun h=>κ.1 h,fun σ hσ=>h3.ms σ hσ ?_⟩;rw[a2d];obtain⟨l,rfl⟩:=hFr;have:=hσ.fr l I;have:=hσ.ge m;have:=fR m;omega
 have O:∀p,P p→SF X F1 F2 p s b (bW k p s b):=fun p hp=>hsub p hp s b F2 hb hF hF2
 have hfree:∀p,P p→aU Tryz.prog 133 [.pa (aB p)] [] (bK (pfR p)) []:=fun p hp=>hp.2.free (by omega) (by omega)
 have hok:∀ps,(∀p∈ps,P p)→PutOk (bW k) P s b ps:=fun ps hps=>⟨hps,fun p hp=>hfree p (hps p hp),hfreeb,fun p m z hp I=>(J p m z hp I).1,fun p m z hp I=>(hzS p m z hp I).tb.imp,fun p hp=>(O p hp).tb.imp,hI⟩
 have hPq:∀p,P p→bE (QL X) p:=fun p hp=>hp.2.q
 have hS:∀p,P p→RX X b p (bW k p s b):=fun p hp=>(O p hp).tb.rx
 have hSB:∀B,1≤B→m30 b≤31*B→∀p,P p→wfC (bW k p s b)=true∧allT (fun _=>True) (bW k p s b)∧m30 (bW k p s b)≤m30 p*B:=fun B hB hbB p hp=>by
  have h1:=(O p hp).tb;exact⟨lR _ h1.rx.q,jK _,h1.sz B hB hbB⟩
 have hPQ:∀p,P p→wfC p=true∧allT (fun _=>True) p:=fun p hp=>⟨lR _ hp.2.q,jK _⟩
 have hzs:∀p m z,P p→z.length≤30→P (bW k p m (vC z))∧m30 (bW k p m (vC z))≤m30 p:=fun p m z hp I=>⟨(J p m z hp I).1,(J p m z hp I).2.sz⟩
 have hs:∀p,P p→(∀x∈pfR (bW k p s b),(x∈pfR p∧¬x=s)∨x∈pfR b)∧∀σ,Sg σ→mS σ b≤σ s→mS σ (bW k p s b)≤mS σ p:=fun p hp=>⟨(O p hp).pl.pf,(O p hp).pl.ms⟩
 have hP1:∀x∈ks,P x:=fun x hx=>⟨by have:=dQ hx;rw[m30];omega,hc.kid hx⟩
 have hP2:∀x∈bs,P x.body:=fun x hx=>⟨by have:=gY hx;rw[m30];omega,hc.bind hx⟩
 have hP3:∀x∈al,P x.body:=fun x hx=>⟨by have:=eS hx;rw[m30];omega,hc.alt hx⟩
 have W:∀p∈ks++bs.map Bind.body,P p:=fun p hp=>by
  rcases χ.1 hp with hp | hp
  ·exact hP1 p hp
  ·obtain⟨x,hx,rfl⟩:=Ad.1 hp;exact hP2 x hx
 obtain⟨⟨q1,_,_,_,q5,_⟩,_⟩:=aJ.1 Z;obtain⟨w1,w2⟩:=a5u q5;rw[ζ] at w1;have hk2:ks.length≤2:=by
  unfold okF at q1
  repeat' split at q1
  all_goals
   have:=θ q1;omega
 have hgv:=aEo (f:=f) (nm:=nm) (bs:=bs);have hbl:=hb.fl.len;have hfl:=aEt (F:=F1) (l:=ks++bs.map Bind.body) fun x hx=>(W x hx).2.fl.len
 rw[Ab,ζ] at hfl;have hmu:(ks.length+bs.length)*F1≤15*20000000000:=Ce (by omega) (by omega);have hla:∀a∈al,(pfR a.body).length+2*a.vars.length+(pfR b).length+1≤540000000000:=fun a ha=>by
  have h3:=(hP3 a ha).2.fl.len;have h4:=w2 (ahd a) (Ad.2 ⟨a,ha,rfl⟩);have h5:(ahd a).2=a.vars:=rfl;rw[h5] at h4;omega
 have hM:((ks++bs.map Bind.body).flatMap pfR).length+2*(1+bs.length)+(pfR b).length+(ks.length+bs.length)≤540000000000:=by omega
 have himpS:=uG (bW k) P f n nm nm t ks ks bs al s b hlcc hTG hv rfl (fun hf=>dG Z (.inl hf)) (fun e=>absurd e h7) (fun _=>⟨rfl,rfl⟩) (hok _ W) (fun a ha=>hok _ fun p hp=>by rw[κ.1 hp];exact hP3 a ha) hM hla;have hgl:((ks++bs.map Bind.body).flatMap pfR).length+2*(gvN f nm bs).length+(pfR b).length≤540000000000:=by omega
 have Y:∀a∈al,(([a.body]:List Core).flatMap pfR).length+2*a.vars.length+(pfR b).length≤540000000000:=fun a ha=>by
  have:=hla a ha;simp only[Cg,C3,A8];omega
 have hPa:∀a∈al,∀p∈[a.body],P p:=fun a ha p hp=>by rw[κ.1 hp];exact hP3 a ha
 obtain⟨hA,hN⟩:=o5 (sb:=bW k) (P:=P) (X:=X) (s:=s) (b:=b) (ns:=gvN f nm bs) W hPq J hS hgl;have hAa:∀a∈al,A2 (RX X b) [a.body] (cO (bW k) s b a.vars [a.body]).2∧A2 NR a.vars (cO (bW k) s b a.vars [a.body]).1:=fun a ha=>
  o5 (sb:=bW k) (P:=P) (X:=X) (s:=s) (b:=b) (hPa a ha) hPq J hS (Y a ha)
 have hTB:TB X (.mk f n nm t ks bs al) s b (nE (bW k) s b (.mk f n nm t ks bs al)):=by
  refine⟨himpS,aP5 h7 Z hA hN hAa,fun B hB hbB=>?_⟩;have hg:=tE (sb:=bW k) (P:=P) (T:=fun _=>True) (s:=s) (b:=b) (ns:=gvN f nm bs) hB W hzs hPQ (hSB B hB hbB) hgl;have hga:∀a∈al,PK B (fun _=>True) a.vars [a.body] (cO (bW k) s b a.vars [a.body]):=fun a ha=>tE hB (hPa a ha) hzs hPQ (hSB B hB hbB) (Y a ha)
  exact(aC3 (n:=n) (nm:=nm) hB hg hga trivial (fun x hx=>trivial) (fun hf=>dG Z hf) (fun hf=>lS Z hf)).2.2
 have hPL:PL (.mk f n nm t ks bs al) s b (nE (bW k) s b (.mk f n nm t ks bs al)):=by
  by_cases hf1:f=1
  ·subst hf1;obtain⟨rfl,rfl,rfl⟩:=lS Z rfl;have hne:¬nm=s:=fun e=>hv ⟨rfl,e⟩
   have e0:pfR (.mk 1 n nm t [] [] [])=[nm]:=rfl;rw[hid (by rw[e0];intro e;exact hne (κ.1 e).symm)];exact⟨fun x hx=>.inl ⟨hx,fun e=>hne (by rw[e0] at hx;rw[←κ.1 hx,e])⟩,fun _ _ _=>le_refl _⟩
  ·have hRB:=y1 (sb:=bW k) (P:=P) (s:=s) (b:=b) (ns:=gvN f nm bs) W hz hs hgl;exact aP6 hf1 Z hN hRB fun a ha=>⟨(hAa a ha).2,y1 (sb:=bW k) (P:=P) (s:=s) (b:=b) (hPa a ha) hz hs (Y a ha)⟩
 have hzW:∀p m z,P p→z.length≤30→P (bW k p m (vC z))∧(∀x∈pfR (bW k p m (vC z)),x∈pfR p∨x=z)∧∀ρ,wS ρ (bW k p m (vC z))≤wS (rL ρ m (ρ z)) p:=fun p m z hp I=>by
  have h3:=hzS p m z hp I;refine⟨(J p m z hp I).1,fun x hx=>(h3.pl.pf x hx).imp And.left fun h=>κ.1 h,fun ρ=>?_⟩;have:=h3.w ρ;rwa [a0j] at this
 have hW:∀ρ,wS ρ (nE (bW k) s b (.mk f n nm t ks bs al))≤wS (rL ρ s (wS ρ b)) (.mk f n nm t ks bs al):=fun ρ=>by
  by_cases hf1:f=1
  ·subst hf1;obtain⟨rfl,rfl,rfl⟩:=lS Z rfl;have hne:¬nm=s:=fun e=>hv ⟨rfl,e⟩
   have e0:pfR (.mk 1 n nm t [] [] [])=[nm]:=rfl;rw[hid (by rw[e0];intro e;exact hne (κ.1 e).symm)];refine aWp Z fun x hx=>?_
   rw[e0] at hx;unfold rL;rw[ψ fun e=>hne (by rw[←κ.1 hx,e])];exact le_refl _
  ·have hRB:=aUv (sb:=bW k) (P:=P) (s:=s) (b:=b) (ns:=gvN f nm bs) hb.q W hPq hzW (fun p hp=>(O p hp).w) hgl;exact a4d hf1 Z hN hRB (fun a ha=>⟨(hAa a ha).2,aUv (sb:=bW k) (P:=P) (s:=s) (b:=b) hb.q (hPa a ha) hPq hzW (fun p hp=>(O p hp).w) (Y a ha)⟩) ρ
 have hparts:∀F',F1≤F'→(∀p,P p→FLn F' (bW k p s b))→(pfR (nE (bW k) s b (.mk f n nm t ks bs al))).length≤F'→FLn F' (nE (bW k) s b (.mk f n nm t ks bs al)):=fun F' hF' hp' hn'=>by
  have g1:=aG3 (sb:=bW k) (P:=P) (Q:=FLn F') (s:=s) (b:=b) (ns:=gvN f nm bs) W (fun p m z hp I=>(J p m z hp I).1) (fun p hp=>hp.2.fl.up hF') hp' hgl;have g2:∀a∈al,∀q∈(cO (bW k) s b a.vars [a.body]).2,FLn F' q:=fun a ha=>aG3 (sb:=bW k) (P:=P) (Q:=FLn F') (s:=s) (b:=b) (hPa a ha) (fun p m z hp I=>(J p m z hp I).1) (fun p hp=>hp.2.fl.up hF') hp' (Y a ha)
  rw[nE] at hn' ⊢;unfold zNm zKs zBs at hn' ⊢;refine .mk hn' (fun x hx=>g1 x (Br hx)) (fun x hx=>g1 _ (Cl (kY hx).1)) (fun x hx=>?_);obtain⟨a,ha,rfl⟩:=Ad.1 hx;exact aOb (g2 a ha) ((hP3 a ha).2.fl.up hF')
 refine⟨hTB,hPL,hW,hZ,hparts _ (le_add_right _ _) (fun p hp=>(O p hp).fl) (hnode _ hPL),fun z aa=>?_⟩;by_cases hs':s∈pfR (.mk f n nm t ks bs al)
 ·exact hparts F1 (le_refl _) (fun p hp=>(O p hp).fz z aa) (hnodez _ hPL hs' z aa)
 ·rw[hid hs'];exact hc0.fl
section
variable {F B:Nat}{c:Core}{l:List Core}{names own tk:List Str}
theorem aQs (Y:cE 540000000000) (J:2≤B) (hF:F≤10000000000) (O:∀o∈own,¬o∈names) {r:Core}{s o:Str}(h:CF 403 F r) (hw:wS (aUo names own B) r≤m30 c*B)
  (hs:s∈names) (I:o∈own) (Z:o.length≤s.length+13) (W:1+w30 o≤403):
  aU Tryz.prog 99 [.pa (aB r),Go.AM.T s,.pa (aB (vC o))] [] (.pa (aB (bW (m30 r) r s (vC o)))) []∧CF 403 F (bW (m30 r) r s (vC o))∧wS (aUo names own B) (bW (m30 r) r s (vC o))≤m30 c*B:=by
 have h1:=aPb Y (X:=403) (F1:=F) (by decide) (by decide) (m30 r) r (le_refl _) h s (vC o) 1 (CF.vX W (le_refl _)) (by omega) (le_refl _);refine⟨h1.tb.imp,⟨h1.tb.rx.q,h1.z,h1.fz o rfl⟩,le_trans (h1.w _) (le_trans (lV (fun x=>?_) r) hw)⟩;rw[a0j];unfold rL;by_cases hx:x=s
 ·rw[ξ hx,hx];unfold aUo;rw[ψ (O o I),ξ hs];unfold aGw;rw[ξ I];have w1:=fR s;have w2:w30 o≤w30 s+13:=by unfold w30;omega
  have w3:(1+w30 s)*2≤(1+w30 s)*B:=B9 _ J;exact max_le.2 ⟨Ar _ (by omega),by omega⟩
 ·rw[ψ hx];exact le_refl _
theorem a4m (hI:cE 540000000000) (O:2≤B) (hF:F≤10000000000) (I:OtO tk names own 500000000000) (W:∀o∈own,¬o∈names) (Y:∀s∈names,s.length≤380) (hc:CF 403 F c):∀i,i≤names.length→CF 403 F (dL c ((names.zip own).take i))∧wS (aUo names own B) (dL c ((names.zip own).take i))≤m30 c*B:=by
 intro i
 induction i with
 | zero=>intro _;exact⟨hc,a4p (by omega) (aWy (by omega)) c⟩
 | succ i ih=>
  intro hi;obtain⟨s,hs⟩:=aL (show i<names.length by omega);obtain⟨o,q⟩:=aL (show i<own.length by have:=I.len;omega);obtain⟨n,hn,he⟩:=I.at_ i s o hs q;have J:=δ hs;have Z:o.length≤s.length+13:=by rw[he];exact aEj (by omega)
  have hsl:=Y s J;have hw:1+w30 o≤403:=by unfold w30;omega
  obtain⟨g1,g2⟩:=ih (by omega);have:=(aQs hI O hF W g1 g2 J (δ q) Z hw).2
  unfold dL at this ⊢;rw[jG _ _ hs q];exact this
theorem aQr (Y:cE 540000000000) (Z:F≤1000000000) (J:1≤F) (_:l.length≤12) (_:1≤B) {i:Nat}{r:Core}{s:Str}{b:Core}(I:CF 403 F b) (O:∀x∈pfR b,x∈tk) (hout:∀o∈own,¬o∈tk) (W:m30 b≤31*B) (hi:i<12) (h:CF 403 ((1+i)*F) r) (hw:wS (aGw own B) r≤m30 c*B) (hs:s∈own):
  aU Tryz.prog 99 [.pa (aB r),Go.AM.T s,.pa (aB b)] [] (.pa (aB (bW (m30 r) r s b))) []∧CF 403 ((1+(i+1))*F) (bW (m30 r) r s b)∧wS (aGw own B) (bW (m30 r) r s b)≤m30 c*B:=by
 have hm:(1+i)*F≤12*1000000000:=Ce (by omega) Z;have h1:=aPb Y (X:=403) (F1:=(1+i)*F) (by decide) (by decide) (m30 r) r (le_refl _) h s b F I (by omega) J;have e:(1+(i+1))*F=(1+i)*F+F:=by rw[←Ci,succ_mul]
 refine⟨h1.tb.imp,⟨h1.tb.rx.q,h1.z,by rw[e];exact h1.fl⟩,le_trans (h1.w _) (le_trans (lV (fun x=>?_) r) hw)⟩;have e:wS (aGw own B) b=m30 b:=by
  rw[←aAd (ρ:=fun x=>1+w30 x) (fun _=>rfl) b];refine pS b I.q _ _ fun x hx=>?_
  unfold aGw;rw[ψ fun h=>hout x h (O x hx)]
 rw[e];unfold rL;by_cases hx:x=s
 ·rw[ξ hx,hx];unfold aGw;rw[ξ hs];exact le_trans W (C7 _ _)
 ·rw[ψ hx];exact le_refl _
theorem a4l (hI:cE 540000000000) (hF:F≤1000000000) (I:1≤F) (J:l.length≤12) (O:1≤B) (W:∀b∈l,CF 403 F b) (Y:∀b∈l,∀x∈pfR b,x∈tk) (hout:∀o∈own,¬o∈tk) (Z:∀b∈l,m30 b≤31*B) (hol:own.length=l.length) {r:Core}(h:CF 403 F r) (hw:wS (aGw own B) r≤m30 c*B):
  ∀i,i≤l.length→CF 403 ((1+i)*F) (fY r ((own.zip l).take i))∧wS (aGw own B) (fY r ((own.zip l).take i))≤m30 c*B:=by
 intro i
 induction i with
 | zero=>intro _;exact⟨by rw[B0,Nat.one_mul];exact h,hw⟩
 | succ i ih=>
  intro hi;obtain⟨b,hb⟩:=aL (show i<l.length by omega);obtain⟨s,hs⟩:=aL (show i<own.length by omega);have q:=δ hb;obtain⟨g1,g2⟩:=ih (by omega);have:=(aQr (l:=l) hI hF I J O (W b q) (Y b q) hout (Z b q) (by omega) g1 g2 (δ hs)).2
  unfold fY at this ⊢;rw[jG _ _ hs hb];exact this
end
theorem aV4 (hI:cE 540000000000) {F B:Nat}(c:Core) (names:List Str) (l:List Core) (hl:names.length=l.length) (hl2:l.length≤12) (hnl:∀s∈names,s.length≤380) (hF:F≤500000000) (hF1:1≤F) (hB2:2≤B) (hc:CF 403 F c) (W:∀b∈l,CF 403 F b) (hbs:∀b∈l,m30 b≤31*B):
  aU Tryz.prog 135 [.pa (aB c),bK names,.one (.c (.sl 10 (l.map aB)))] [] (.pa (aB (aAb c names l))) []∧CF 403 (13*F) (aAb c names l)∧m30 (aAb c names l)≤m30 c*B:=by
 have hpc:=hc.fl.len;have hfl:∀i,((l.take i).flatMap pfR).length≤10000000000:=fun i=>by
  have h1:=aEt (F:=F) (l:=l.take i) fun x hx=>(W x (Br hx)).fl.len
  have h2:(l.take i).length*F≤12*500000000:=Ce (by rw[At];omega) hF;omega
 have hTK:pfR c++names++(l.take l.length).flatMap pfR=dA c names l:=by rw[As];rfl
 have htkl:(dA c names l).length≤20000000012:=by rw[←hTK,Ab,Ab];have:=hfl l.length;omega
 have hnt:∀x∈names,x∈dA c names l:=fun x hx=>χ.2 (.inl (χ.2 (.inr hx)))
 have htk:∀b∈l,∀x∈pfR b,x∈dA c names l:=fun b hb x hx=>χ.2 (.inr (Bw.2 ⟨b,hb,hx⟩))
 have I:=aEi (dA c names l) names;have hK:names.length*((dA c names l).length+1)≤12*20000000013:=Ce (by omega) (by omega);have Y:OtO (dA c names l) names (n6 (dA c names l) names 0) 500000000000:=⟨I.len,fun i s o h1 h2=>by obtain⟨n,hn,e⟩:=I.at_ i s o h1 h2;exact⟨n,by omega,e⟩,I.out⟩
 have hownL:=I.len;have hns:∀o∈n6 (dA c names l) names 0,¬o∈names:=fun o Z h=>I.out o Z (hnt o h)
 have hP1:=a4m (B:=B) hI hB2 (by omega) Y hns hnl hc;have hzn:(names.zip (n6 (dA c names l) names 0)).take names.length=names.zip (n6 (dA c names l) names 0):=by
  rw[Ax];rw[length_zip];omega
 have J:=hP1 names.length (le_refl _);rw[hzn] at J;have hP3:=a4l (c:=c) (B:=B) hI (by omega) hF1 hl2 (by omega) W htk Y.out hbs (by omega) J.1 (le_trans (lV (aW2 (names:=names) (by omega)) _) J.2);have hzl:((n6 (dA c names l) names 0).zip l).take l.length=(n6 (dA c names l) names 0).zip l:=by
  rw[Ax];rw[length_zip];omega
 have O:=hP3 l.length (le_refl _);rw[hzl] at O;have hlc:=aDi (X:=403) (by decide) _ c (le_refl _) hc.q;have hfc:=hc.fl.fl (by omega) _ c (le_refl _);refine⟨a3i hI c names l hl hl2 hnl (aCl c hlc hfc) (fun b hb=>(W b hb).free (by decide) (by omega)) (by omega) hfl (fun i s o hs Z=>?_) fun i s b hs hb=>?_,O.1.up (Ar _ (by omega)),le_trans (a2f aW3 _) O.2⟩
 ·have hlt:i<names.length:=(τ.1 hs).1
  obtain⟨N,hN,he⟩:=Y.at_ i s o hs Z;have hsm:=δ hs;have hsn:=hnl s hsm;have hol:o.length≤s.length+13:=by rw[he];exact aEj (by omega)
  obtain⟨g1,g2⟩:=hP1 i (by omega);exact(aQs hI hB2 (by omega) hns g1 g2 hsm (δ Z) hol (by unfold w30;omega)).1
 ·have hlt:i<l.length:=(τ.1 hb).1
  have hbm:=δ hb;obtain⟨g1,g2⟩:=hP3 i (by omega);exact(aQr (l:=l) hI (by omega) hF1 hl2 (by omega) (W b hbm) (htk b hbm) Y.out (hbs b hbm) (by omega) g1 g2 (δ hs)).1
structure CB (c:Core):Prop where
 q:bE (QL 403) c
 z:bE ZL c
 m:m30 c≤500000000
theorem CB.cf {c:Core}(h:CB c):CF 403 500000000 c:=⟨h.q,h.z,.of _ c (le_refl _) (le_trans (bU c) h.m)⟩
section
variable {f n:Int}{s:Str}{t:Ty}{ks:List Core}{bs:List Bind}{al:List Alt}
theorem CB.kid (h:CB (.mk f n s t ks bs al)) {x:Core}(hx:x∈ks):CB x:=⟨(aJ.1 h.q).2.1 x hx,(aJ.1 h.z).2.1 x hx,by have:=dQ hx;have:=h.m;rw[m30] at this;omega⟩
theorem CB.bind (h:CB (.mk f n s t ks bs al)) {x:Bind}(hx:x∈bs):CB x.body:=⟨(aJ.1 h.q).2.2.1 x hx,(aJ.1 h.z).2.2.1 x hx,by have:=gY hx;have:=h.m;rw[m30] at this;omega⟩
theorem CB.alt (h:CB (.mk f n s t ks bs al)) {x:Alt}(hx:x∈al):CB x.body:=⟨(aJ.1 h.q).2.2.2 x hx,(aJ.1 h.z).2.2.2 x hx,by have:=eS hx;have:=h.m;rw[m30] at this;omega⟩
end
structure SO (c r:Core):Prop where
 q:bE (QL 403) r
 z:bE ZL r
 m:m30 r≤m30 c*m30 c
theorem a01 {a b x:Nat}(h:a+b≤x):a*a+b≤x*x∨b=0:=by
 rcases Nat.eq_zero_or_pos b with h0 | h0
 ·exact .inr h0
 ·refine .inl ?_;have h1:(a+b)*(a+b)≤x*x:=Ce h h;have h2:(a+b)*(a+b)=a*a+a*b+(b*a+b*b):=by rw[Av,Cz,Cz]
  have h3:b≤b*b:=Nat.le_mul_of_pos_left _ h0;omega
theorem a5a:∀(k:Nat) (c:Core),m30 c≤k→CB c→∀x∈spA c,CB x∧m30 x≤m30 c:=by
 intro k
 induction k with
 | zero=>intro c h;have:=dB c;omega
 | succ k I=>
 intro c h hc x hx;obtain⟨f,i,nm,t,ks,bs,al⟩:=c;by_cases h4:f=4
 ·obtain⟨⟨a,b,rfl⟩,rfl,rfl⟩:=lT hc.q (.inl h4);have ha:=hc.kid (x:=a) φ;have hb:=hc.kid (x:=b) (η _ φ);have e:spA (.mk f i nm t [a,b] [] [])=spA a++[b]:=by rw[spA,ξ h4,a4r]
  rw[e] at hx;rw[m30,bV,bV,bV] at h ⊢;rcases χ.1 hx with hx | hx
  ·obtain⟨g1,g2⟩:=I a (by omega) ha x hx;exact⟨g1,by omega⟩
  ·rw[κ.1 hx];exact⟨hb,by omega⟩
 ·have e:spA (.mk f i nm t ks bs al)=[]:=by rw[spA,ψ h4]
  rw[e] at hx;cases hx
theorem a4j {f i:Int}{s:Str}{t:Ty}{ks:List Core}{bs:List Bind}{al:List Alt}(h:CB (.mk f i s t ks bs al)) {j:Nat}{x r:Core}(hx:ks[j]?=some x) (J:SO x r):SO (.mk f i s t ks bs al) (j4 (.mk f i s t ks bs al) j r):=by
 have hin:∀y∈ks.set j r,y=r∨y∈ks:=fun y I=>(Cv I).symm
 obtain⟨g1,g2,g3,g4⟩:=aJ.1 h.q;obtain⟨O,W,Y,Z⟩:=aJ.1 h.z;have hs:∀(l:List Core) (j:Nat),l[j]?=some x→bV (l.set j r)+m30 x=bV l+m30 r:=by
  intro l
  induction l with
  | nil=>intro j h;cases h
  | cons y l ih=>
   intro j h;cases j with
   | zero=>
    have e:y=x:=by simpa using h
    rw[set_cons_zero,bV,bV,e];omega
   | succ j=>
    have h':l[j]?=some x:=by simpa using h
    have:=ih j h';rw[Cp,bV,bV];omega
 have e:=hs ks j hx;unfold j4;refine⟨aJ.2 ⟨by rw[Cd];exact g1,fun y I=>?_,g3,g4⟩,aJ.2 ⟨O,fun y I=>?_,Y,Z⟩,?_⟩
 ·rcases hin y I with rfl | I
  ·exact J.q
  ·exact g2 y I
 ·rcases hin y I with rfl | I
  ·exact J.z
  ·exact W y I
 ·show m30 (.mk f i s t (ks.set j r) bs al)≤_;have hm:=J.m;have hmx:=dQ (δ hx);have e1:m30 (.mk f i s t (ks.set j r) bs al)=1+w30 s+bV (ks.set j r)+eU bs+fQ al:=by rw[m30]
  have e2:m30 (.mk f i s t ks bs al)=1+w30 s+bV ks+eU bs+fQ al:=by rw[m30]
  have hw:=fR s;rcases a01 (a:=m30 x) (b:=1+w30 s+(bV ks-m30 x)+eU bs+fQ al) (x:=m30 (.mk f i s t ks bs al)) (by omega) with h | h
  ·omega
  ·omega
theorem aSq (s:Str) (a b:Int):m30 (dM s a b).1≤31:=by
 have hi:∀m,m30 (iQ m)≤31:=fun m=>by unfold iQ;rw[m30,bV,eU,fQ];decide
 have ht:∀c,m30 (qR c)≤31:=fun c=>by cases c<;>(unfold qR aCc;rw[m30,bV,eU,fQ];decide)
 have q:m30 zC≤31:=by unfold zC;rw[m30,bV,eU,fQ];decide
 unfold dM
 repeat' split
 all_goals first | exact hi _ | exact ht _ | exact q
theorem aWm {c r:Core}(q:bE (QL 403) r) (I:bE ZL r) (h:m30 r≤m30 c):SO c r:=⟨q,I,by have:=dB c;exact le_trans h (Nat.le_mul_of_pos_left _ (by omega))⟩
theorem a3f (hI:cE 540000000000):∀(k:Nat) (c:Core),m30 c≤k→CB c→
  aU Tryz.prog 43 [.pa (mN []),.pa (aB c)] [] (dP (fX [] k c)) []∧((fX [] k c).2=0→SO c (fX [] k c).1):=by
 intro k
 induction k with
 | zero=>intro c h;have:=dB c;omega
 | succ k ih=>
 intro c h hc;obtain⟨f,i,s,t,ks,bs,al⟩:=c;have hsz:=hc.m;have aa:∀x,CB x→aU Tryz.prog 42 [.pa (aB x)] [] (B (shE x)) []:=fun x hx=>aIj 403 x hx.q (by have:=bU x;have:=hx.m;omega)
 have Y:∀x∈ks,m30 x≤k:=fun x hx=>by have:=dQ hx;rw[m30] at h;omega
 have W:∀(j:Nat) (x:Core),ks[j]?=some x→(jT false (fX [] k x) (j4 (.mk f i s t ks bs al) j)).2=0→SO (.mk f i s t ks bs al) (jT false (fX [] k x) (j4 (.mk f i s t ks bs al) j)).1:=fun j x hx he=>by
  obtain⟨_,e2,e3⟩:=aHv he;rw[e3];have hxm:=δ hx;exact a4j hc hx ((ih x (Y x hxm) (hc.kid hxm)).2 e2)
 rw[fX];by_cases h1:f=1
 ·rw[ξ h1];subst h1;exact⟨a7v (bd:=[]) (by decide),fun he=>by cases he⟩
 rw[ψ h1];by_cases h4:f=4
 ·rw[ξ h4];subst h4;obtain⟨⟨a,b,rfl⟩,rfl,rfl⟩:=lT hc.q (.inl rfl);have J:=hc.kid (x:=a) φ;have Z:=hc.kid (x:=b) (η _ φ);have e0:([a,b]:List Core).headD zC=a:=rfl;have e1:([a,b]:List Core).getD 1 zC=b:=rfl;rw[e0,e1];by_cases h5:a.form=5
  ·rw[ξ h5];obtain⟨f',i',s',t',ks',bs',al'⟩:=a;have h5:f'=5:=h5;subst h5;obtain⟨⟨body,rfl⟩,rfl,rfl⟩:=dG J.q (.inl rfl);have kbo:=J.kid (x:=body) φ;have g:=aPb hI (X:=403) (F1:=500000000) (by decide) (by decide) (m30 body) body (le_refl _) kbo.cf s' b 500000000 Z.cf (by decide) (by decide);refine⟨a6n g.tb.imp,fun _=>⟨g.tb.rx.q,g.z,?_⟩⟩;have g2:=g.tb.sz (m30 b/31+1) (by omega) (by omega);show m30 (bW (m30 body) body s' b)≤_;have hm:m30 (.mk 4 i s t [.mk 5 i' s' t' [body] [] [],b] [] [])=1+w30 s+(1+w30 s'+m30 body+m30 b):=by
    simp only[m30,bV,eU,fQ];omega
   refine le_trans g2 (Ce (by omega) (by omega))
  ·rw[ψ h5];refine⟨a6o h5 (aa a J) fun _=>(ih a (Y a φ) J).1,fun he=>?_⟩;by_cases hs:¬shE a=true
   ·rw[ξ hs] at he ⊢;exact W 0 a rfl he
   ·rw[ψ hs] at he;cases he
 rw[ψ h4];by_cases h8:f=8
 ·rw[ξ h8];subst h8;obtain⟨⟨a,rfl⟩,rfl,h12⟩:=aDg hc.q;have J:=hc.kid (x:=a) φ;have hm:=hsz;rw[m30,bV,bV,fQ] at hm;obtain⟨⟨_,_,zbt⟩,_,zb,_⟩:=aJ.1 hc.z;have hw0:w30 ([]:Str)=30:=rfl;have hlm:∀b∈bs,m30 (fK bs b)=31+m30 b.body+eU bs:=fun b _=>by
   unfold fK;rw[m30,bV,bV,fQ,hw0];omega
  have hL:∀b∈bs.map (fK bs),CF 403 500000000 b∧m30 b≤31+eU bs+eU bs:=fun x hx=>by
   obtain⟨b,hb,rfl⟩:=Ad.1 hx;have h1:=hlm b hb;have h2:=gY hb;have Z:=hc.bind hb;refine⟨?_,by omega⟩;have hqL:bE (QL 403) (fK bs b):=by
    obtain⟨⟨g1,g2,g3,g4,g5,g6,g7,g8⟩,_,q3,_⟩:=aJ.1 hc.q;unfold fK;refine aJ.2 ⟨⟨by simp[okF],fun e=>absurd e (by decide),rfl,g4,?_,fun e=>absurd e (by decide),g7,by simp⟩,by simpa using Z.q,q3,by simp⟩;unfold lw at g5 ⊢;rw[hw0];have:=fR s;simp only[Bj,sum_nil];omega
   have hzL:bE ZL (fK bs b):=by
    unfold fK;exact aJ.2 ⟨⟨by decide,rfl,zbt⟩,by simpa using Z.z,zb,by simp⟩
   refine⟨hqL,hzL,?_⟩;unfold fK;have hcf:=hc.cf.fl;cases hcf with
   | mk a1 a2 a3 a4=>
    refine .mk ?_ (fun x hx=>by rw[κ.1 hx];exact a3 b hb) a3 (fun x hx=>by cases hx);have g1:=eO (pfR (.mk 8 0 [] zTy [b.body] bs [])) (pfR b.body++(bs.map Bind.body).flatMap pfR) (y5 _) fun x hx=>by
     rcases(dC (by decide)).1 hx with⟨p,hp,h1,_⟩ | ⟨a,ha,_⟩
     ·rcases χ.1 hp with hp | hp
      ·rw[κ.1 hp] at h1;exact χ.2 (.inl h1)
      ·exact χ.2 (.inr (Bw.2 ⟨p,hp,h1⟩))
     ·cases ha
    rw[Ab] at g1;have g2:=kE b.body;have g3:=aH5 (bs.map Bind.body);have g4:=u2 bs;have g5:1≤bs.length:=length_pos_of_mem hb;by_cases hbig:eU bs+eU bs≤500000000
    ·omega
    ·--each name that is free in one body is free in all of them together
     have g6:=eO (pfR (.mk 8 0 [] zTy [b.body] bs [])) ((bs.map Bind.body).flatMap pfR) (y5 _) fun x hx=>by
      rcases(dC (by decide)).1 hx with⟨p,hp,h1,_⟩ | ⟨a,ha,_⟩
      ·rcases χ.1 hp with hp | hp
       ·rw[κ.1 hp] at h1;exact Bw.2 ⟨b.body,Ad.2 ⟨b,hb,rfl⟩,h1⟩
       ·exact Bw.2 ⟨p,hp,h1⟩
      ·cases ha
     omega
  have I:=aV4 hI (F:=500000000) (B:=m30 (.mk 8 i s t [a] bs [])) a (bs.map Bind.name) (bs.map (fK bs)) (by rw[ζ,ζ]) (by rw[ζ];omega) (fun x hx=>by
   obtain⟨b,hb,rfl⟩:=Ad.1 hx;obtain⟨⟨_,_,_,_,g5,_⟩,_⟩:=aJ.1 hc.q
   exact a5t g5 (p:=bhd b) (Ad.2 ⟨b,hb,rfl⟩)) (by decide) (by decide) (by have:=dB (.mk 8 i s t [a] bs []);omega) J.cf (fun b hb=>(hL b hb).1) (fun b hb=>by
    have:=(hL b hb).2
    rw[m30,bV,bV,fQ];omega)
  refine⟨a7u h12 I.1,fun _=>⟨I.2.1.q,I.2.1.z,le_trans I.2.2 (Ar _ ?_)⟩⟩;rw[m30,bV,bV,fQ];omega
 rw[ψ h8];by_cases h9:f=9
 ·rw[ξ h9];subst h9;obtain⟨⟨a,rfl⟩,rfl,h12,hv⟩:=zY hc.q;have J:=hc.kid (x:=a) φ;have e0:([a]:List Core).headD zC=a:=rfl;rw[e0];have hcsa:aV a≤570000000000:=by have:=bU a;have:=J.m;omega
  have hsp:=a5a _ a (le_refl _) J;have hma:m30 a≤m30 (.mk 9 i s t [a] [] al):=by rw[m30,bV,bV];omega
  have I:∀x∈al,tkC x a=true→aU Tryz.prog 135 [.pa (aB x.body),bK x.vars,.one (.c (.sl 10 ((spA a).map aB)))] [] (.pa (aB (aAb x.body x.vars (spA a)))) []∧SO (.mk 9 i s t [a] [] al) (aAb x.body x.vars (spA a)):=fun x hx hk=>by
   have kx:=hc.alt hx;have hm':=eS hx;have hvl:(spA a).length=x.vars.length:=by
    unfold tkC at hk;simp only[ε,Bu] at hk;exact hk.2.2.2
   have I:=aV4 hI (F:=500000000) (B:=m30 (.mk 9 i s t [a] [] al)) x.body x.vars (spA a) hvl.symm (by have:=hv x hx;omega) (fun v hv'=>by
    obtain⟨⟨_,_,_,_,g5,_⟩,_⟩:=aJ.1 hc.q
    exact a5v g5 (p:=ahd x) (Ad.2 ⟨x,hx,rfl⟩) hv') (by decide) (by decide) (by have:=dB (.mk 9 i s t [a] [] al);omega) kx.cf (fun b hb=>(hsp b hb).1.cf) (fun b hb=>by have:=(hsp b hb).2;omega)
   refine⟨I.1,⟨I.2.1.q,I.2.1.z,le_trans I.2.2 (Ar _ ?_)⟩⟩;rw[m30];omega
  have htk:=aYz aAb 403 al a J.q hcsa h12 fun x hx hk=>(I x hx hk).1
  refine⟨a7t (aa a J) (fun _=>(ih a (Y a φ) J).1) fun _=>htk,fun he=>?_⟩;by_cases hs:¬shE a=true
  ·rw[ξ hs] at he ⊢;exact W 0 a rfl he
  ·rw[ψ hs] at he ⊢;cases hfs:al.findSome? fun x=>tkE aAb x a with
   | none=>rw[hfs] at he;cases he
   | some r=>
    obtain⟨x,hx,O⟩:=List.exists_of_findSome?_eq_some hfs;have kx:=hc.alt hx;show SO _ r;unfold tkE at O;by_cases e1:tkS x a=true
    ·rw[ξ e1] at O;cases O;have hm':=eS hx;exact aWm kx.q kx.z (by rw[m30];omega)
    rw[ψ e1] at O;by_cases e2:tkC x a=true
    ·rw[ξ e2] at O;cases O;exact(I x hx e2).2
    ·rw[ψ e2] at O;cases O
 rw[ψ h9];by_cases ab:f=10
 ·rw[ξ ab];subst ab;obtain⟨⟨a,b,rfl⟩,rfl,rfl⟩:=lT hc.q (.inr rfl);have J:=hc.kid (x:=a) φ;have Z:=hc.kid (x:=b) (η _ φ);have e0:([a,b]:List Core).headD zC=a:=rfl;have e1:([a,b]:List Core).getD 1 zC=b:=rfl;rw[e0,e1];refine⟨a6p (aa a J) (aa b Z) (fun _=>(ih a (Y a φ) J).1) fun _=>(ih b (Y b (η _ φ)) Z).1,fun he=>?_⟩;by_cases g1:¬shE a=true
  ·rw[ξ g1] at he ⊢;exact W 0 a rfl he
  rw[ψ g1] at he ⊢;by_cases g2:¬shE b=true
  ·rw[ξ g2] at he ⊢;exact W 1 b rfl he
  rw[ψ g2] at he ⊢;by_cases g3:a.form=3∧b.form=3
  ·rw[ξ g3] at he ⊢;exact aWm (aQk (n:=0) (w:=0) (U:=[]) he).q (a1x _ _ _) (le_trans (aSq _ _ _) (dB _))
  ·rw[ψ g3] at he;cases he
 rw[ψ ab];refine⟨a7s h1 h4 h8 h9 ab,fun he=>?_⟩;by_cases h11:f=11
 ·rw[ξ h11] at he;cases he
 ·rw[ψ h11] at he;cases he
theorem CB.own (q:cE 540000000000) {c:Core}(h:CB c):aU Tryz.prog 74 [.pa (aB c)] [] (.pa (aB c)) []:=aPf (aV c) c (le_refl _) (by have:=bU c;have:=h.m;omega) (h.cf.tyG q)
theorem SO.cb {c r:Core}(h:SO c r) (hs:eZ r≤6000):CB r:=⟨h.q,h.z,by have:=jD r h.q;have:403*eZ r≤403*6000:=B9 _ hs;omega⟩
theorem SO.size {c r:Core}(hc:CB c) (h:SO c r):LC r∧eZ r≤9000000000000000000:=by
 have h1:=bU r;have h2:=size_le r;have h3:=h.m;have h4:m30 c*m30 c≤500000000*500000000:=Ce hc.m hc.m;exact⟨aDi (by decide) _ r (le_refl _) h.q,by omega⟩
theorem aYu (J:cE 540000000000) (F:Nat) (O:F≤1000) (c:Core) (h:CB c):
  aU Tryz.prog 14 [.one (.c (.sl 15 (([]:List Bind).map b8))),.pa (aB c),I .i64 F] [] (a6y (whE (sfE []) F 0 c)) []:=by
 refine aZc (sfE []) [] F (fun _ x=>CB x) c O h (fun j x W hx=>?_) (fun j x W hx hs=>?_)
 ·exact⟨hx.q,by have:=bU x;have:=hx.m;omega,hx.own J⟩
 ·obtain⟨g1,g2⟩:=a3f J (m30 x) x (le_refl _) hx;exact⟨g1,fun he=>⟨(g2 he).size hx,fun h4=>(g2 he).cb (not_lt.1 h4)⟩⟩
mutual
def nS:Core→Str→Core→Core
 | .mk f n nm t ks bs al,x,b=>if f=1 then(if nm=x then b else .mk f n nm t ks bs al)
  else .mk f n nm t (if x∈gvN f nm bs then ks else nSs ks x b) (if x∈gvN f nm bs then bs else nSb bs x b) (nSa al x b)
def nSs:List Core→Str→Core→List Core
 | [],_,_=>[]
 | c::l,x,b=>nS c x b::nSs l x b
def nSb:List Bind→Str→Core→List Bind
 | [],_,_=>[]
 | .mk s t c::l,x,b=>.mk s t (nS c x b)::nSb l x b
def nSa:List Alt→Str→Core→List Alt
 | [],_,_=>[]
 | .mk f n s v c::l,x,b=>.mk f n s v (if x∈v then c else nS c x b)::nSa l x b
end
def nSA (x:Str) (b:Core) (a:Alt):Alt:=.mk a.form a.n a.name a.vars (if x∈a.vars then a.body else nS a.body x b)
def nSB (x:Str) (b:Core) (a:Bind):Bind:=.mk a.name a.ty (nS a.body x b)
section
variable {x:Str}{b:Core}
theorem aNi:∀l:List Core,nSs l x b=l.map fun c=>nS c x b
 | []=>by rw[nSs];rfl
 | c::l=>by rw[nSs,aNi l];rfl
theorem aNj:∀l:List Bind,nSb l x b=l.map (nSB x b)
 | []=>by rw[nSb];rfl
 | .mk s t c::l=>by rw[nSb,aNj l];rfl
theorem aNk:∀l:List Alt,nSa l x b=l.map (nSA x b)
 | []=>by rw[nSa];rfl
 | .mk f n s v c::l=>by rw[nSa,aNk l];rfl
theorem gV {f n:Int}{nm:Str}{t:Ty}{ks:List Core}{bs:List Bind}{al:List Alt}(hf:¬f=1):nS (.mk f n nm t ks bs al) x b=
  .mk f n nm t (if x∈gvN f nm bs then ks else ks.map fun c=>nS c x b) (if x∈gvN f nm bs then bs else bs.map (nSB x b)) (al.map (nSA x b)):=by
 rw[nS,ψ hf,aNi,aNj,aNk]
theorem rA:∀(k:Nat) (c:Core),aV c≤k→¬x∈pfR c→nS c x b=c
 | 0,c,h,_=>by have:=bG c;omega
 | k+1,.mk f n nm t ks bs al,h,hx=>by
  obtain⟨O,W,Y,_⟩:= @c6 f n nm t ks bs al;by_cases h1:f=1
  ·rw[nS,ξ h1,ψ];intro e;rw[pfR,ξ h1] at hx;exact hx (by rw[e];exact κ.2 rfl)
  ·have hx:=fun h=>hx ((dC h1).2 h)
   rw[gV h1];have Z:(if x∈gvN f nm bs then ks else ks.map fun c=>nS c x b)=ks:=by
    split
    ·rfl
    ·rename_i I;exact eQ fun c hc=>rA k c (by have:=O c hc;omega) fun q=>hx (.inl ⟨c,χ.2 (.inl hc),q,I⟩)
   have e2:(if x∈gvN f nm bs then bs else bs.map (nSB x b))=bs:=by
    split
    ·rfl
    ·rename_i I;exact eQ fun c hc=>by
      unfold nSB;rw[rA k c.body (by have:=W c hc;omega) fun q=>hx (.inl ⟨c.body,χ.2 (.inr (Ad.2 ⟨c,hc,rfl⟩)),q,I⟩)];cases c;rfl
   have e3:al.map (nSA x b)=al:=eQ fun a ha=>by
    unfold nSA;by_cases J:x∈a.vars
    ·rw[ξ J];cases a;rfl
    ·rw[ψ J,rA k a.body (by have:=Y a ha;omega) fun q=>hx (.inr ⟨a,ha,q,J⟩)];cases a;rfl
   rw[Z,e2,e3]
end
section
variable {sb:Core→Str→Core→Core}
theorem aH1 {far:List Str}:∀{ns:List Str}{st:List Str×List Core×List Str},(∀n∈ns,¬n∈far)→jO sb far ns st=(st.1++ns,st.2.1,st.2.2)
 | [],st,_=>by unfold jO;simp
 | n::ns,st,h=>by
  have e:dU sb far st n=(st.1++[n],st.2.1,st.2.2):=by unfold dU;rw[ψ (h n φ)]
  have:=aH1 (far:=far) (ns:=ns) (st:=dU sb far st n) fun m hm=>h m (η _ hm)
  unfold jO at this ⊢;rw[Ck,this,e];simp
theorem rO {s:Str}{b:Core}{ns:List Str}{ps:List Core}(hf:∀n∈ns,¬n∈pfR b) (hs:∀p∈ps,sb p s b=nS p s b):cO sb s b ns ps=(ns,if s∈ns then ps else ps.map fun p=>nS p s b):=by
 unfold cO;split
 ·rename_i h;rw[aH1 hf,ψ h.2];simp only[A4];rw[Aw hs]
 ·rename_i h;by_cases hn:s∈ns
  ·rw[ξ hn]
  ·rw[ψ hn];have e:(ps.map fun p=>nS p s b)=ps:=eQ fun p hp=>rA _ p (le_refl _) fun hx=>h ⟨Bw.2 ⟨p,hp,hx⟩,hn⟩
   rw[e]
end
theorem aNs {x:Str}{b:Core}:∀bs:List Bind,mkB (bs.map Bind.ty) (bs.map Bind.name) (bs.map fun a=>nS a.body x b)=bs.map (nSB x b)
 | []=>rfl
 | .mk s t c::l=>by
  rw[Al,Al,Al,Al,mkB,aNs l];rfl
theorem sS {X:Nat}{s:Str}{b:Core}(hb:∀z∈pfR b,¬nh z) (ht:tyR b=[]):∀(k:Nat) (c:Core),m30 c≤k→bE (QL X) c→bW k c s b=nS c s b:=by
 intro k
 induction k with
 | zero=>intro c h;have:=dB c;omega
 | succ k W=>
 intro c h J;obtain⟨f,n,nm,t,ks,bs,al⟩:=c;rw[bW];by_cases h1:f=1
 ·obtain⟨rfl,rfl,rfl⟩:=lS J h1;rw[nS,ξ h1];by_cases hs:nm=s
  ·rw[ξ ⟨h1,hs⟩,ξ hs]
  ·rw[ψ fun e=>hs e.2,ψ hs,ψ (fun e=>by have:f=7:=e.1;omega),nE];unfold zNm zKs zBs;rw[ψ (by omega)];simp[mkB]
 ·have Z:(if Core.form (.mk f n nm t ks bs al)=7∧s∈pfR (.mk f n nm t ks bs al) then aYq (.mk f n nm t ks bs al) (tyR b) else .mk f n nm t ks bs al)=.mk f n nm t ks bs al:=by
   split
   ·rw[ht,aYq,ψ (by simp)]
   ·rfl
  rw[ψ (fun e=>h1 e.1),Z,gV h1,nE];obtain⟨⟨q1,q2,q3,q4,q5,q6,q7,q8⟩,k1,k2,k3⟩:=aJ.1 J;rw[m30] at h
  have hg:∀y∈gvN f nm bs,¬y∈pfR b:=fun y q I=>hb y I (by
   unfold gvN at q;rcases χ.1 q with q | q
   ·by_cases h5:f=5
    ·rw[ξ h5] at q;rw[κ.1 q];exact q6 h5
    ·rw[ψ h5] at q;cases q
   ·obtain⟨z,O,rfl⟩:=Ad.1 q
    exact q7 (bhd z) (Ad.2 ⟨z,O,rfl⟩))
  have hP:=rO (sb:=bW k) (s:=s) (b:=b) (ns:=gvN f nm bs) (ps:=ks++bs.map Bind.body) hg fun p hp=>by
   rcases χ.1 hp with hp | hp
   ·exact W p (by have:=dQ hp;omega) (k1 p hp)
   ·obtain⟨z,O,rfl⟩:=Ad.1 hp;exact W z.body (by have:=gY O;omega) (k2 z O)
  have hA:al.map (jM (bW k) s b)=al.map (nSA s b):=Aw fun a ha=>by
   have hv:∀y∈a.vars,¬y∈pfR b:=fun y q I=>hb y I (q8 (ahd a) (Ad.2 ⟨a,ha,rfl⟩) y q)
   have aa:=rO (sb:=bW k) (s:=s) (b:=b) (ns:=a.vars) (ps:=[a.body]) hv fun p hp=>by
    rw[κ.1 hp];exact W a.body (by have:=eS ha;omega) (k3 a ha)
   unfold jM nSA;rw[aa];by_cases hx:s∈a.vars
   ·rw[ξ hx,ξ hx];rfl
   ·rw[ψ hx,ψ hx];rfl
  rw[hA];unfold zNm zKs zBs;rw[hP];have e1:(if f=5 then(gvN f nm bs).headD nm else nm)=nm:=by
   split
   ·rename_i h5;unfold gvN;rw[ξ h5];rfl
   ·rfl
  dsimp only;rw[e1];by_cases hx:s∈gvN f nm bs
  ·rw[ξ hx,ξ hx,ξ hx,take_left,drop_left];by_cases h5:f=5
   ·obtain⟨_,rfl,rfl⟩:=dG J (.inl h5);rfl
   ·have Y:gvN f nm bs=bs.map Bind.name:=by unfold gvN;rw[ψ h5];rfl
    rw[Y,aBl]
  ·rw[ψ hx,ψ hx,ψ hx,A6,take_left' (by rw[ζ]),List.drop_left' (by rw[ζ])];by_cases h5:f=5
   ·obtain⟨_,rfl,rfl⟩:=dG J (.inl h5);rfl
   ·have Y:gvN f nm bs=bs.map Bind.name:=by unfold gvN;rw[ψ h5];rfl
    rw[Y,Az];have e3:=aNs (x:=s) (b:=b) bs;rw[show((fun p=>nS p s b)∘Bind.body)=fun a:Bind=>nS a.body s b from rfl,e3]
mutual
noncomputable def nT:Core→Str→Ty→Core
 | .mk f n nm t ks bs al,a,u=>if f=7∧nm=a then .mk f n nm t ks bs al else .mk f n nm (fL t [(a,u)]) (nTs ks a u) (nTb bs a u) (nTa al a u)
noncomputable def nTs:List Core→Str→Ty→List Core
 | [],_,_=>[]
 | c::l,a,u=>nT c a u::nTs l a u
noncomputable def nTb:List Bind→Str→Ty→List Bind
 | [],_,_=>[]
 | .mk s t c::l,a,u=>.mk s (fL t [(a,u)]) (nT c a u)::nTb l a u
noncomputable def nTa:List Alt→Str→Ty→List Alt
 | [],_,_=>[]
 | .mk f n s v c::l,a,u=>.mk f n s v (nT c a u)::nTa l a u
end
section
variable {a:Str}{u:Ty}
theorem aNf:∀l:List Core,nTs l a u=l.map fun c=>nT c a u
 | []=>by rw[nTs];rfl
 | c::l=>by rw[nTs,aNf l];rfl
theorem aNg:∀l:List Bind,nTb l a u=l.map fun b=>.mk b.name (fL b.ty [(a,u)]) (nT b.body a u)
 | []=>by rw[nTb];rfl
 | .mk s t c::l=>by rw[nTb,aNg l];rfl
theorem aNh:∀l:List Alt,nTa l a u=l.map fun b=>.mk b.form b.n b.name b.vars (nT b.body a u)
 | []=>by rw[nTa];rfl
 | .mk f n s v c::l=>by rw[nTa,aNh l];rfl
theorem aJq {f n:Int}{nm:Str}{t:Ty}{ks:List Core}{bs:List Bind}{al:List Alt}(hf:¬(f=7∧nm=a)):nT (.mk f n nm t ks bs al) a u=
  gH (fun t=>fL t [(a,u)]) (fun x=>nT x a u) (.mk f n nm t ks bs al):=by
 rw[nT,ψ hf,aNf,aNg,aNh,gH]
theorem aSf {X:Nat}:∀(k:Nat) (c:Core),aV c≤k→bE (QL X) c→¬a∈tyR c→nT c a u=c
 | 0,c,h,_,_=>by have:=bG c;omega
 | k+1,.mk f n nm t ks bs al,h,Z,hx=>by
  obtain⟨J,O,W,_⟩:= @c6 f n nm t ks bs al;obtain⟨⟨_,_,w1,w2,_⟩,q2,q3,q4⟩:=aJ.1 Z;by_cases I:f=7∧nm=a
  ·rw[nT,ξ I]
  ·have hx:=fun h=>hx (bF.2 h)
   have ts:∀v,wfS v=true→¬a∈tfR v→fL v [(a,u)]=v:=fun v hv Y=>xM (tn v) v (le_refl _) hv _ fun p hp=>by rw[κ.1 hp];exact Y
   rw[aJq I,gH,ts t w1 fun e=>hx (.inl e)];rw[eQ (l:=ks) fun y q=>aSf k y (by have:=J y q;omega) (q2 y q) fun e=>hx (.inr (.inl ⟨y,q,e,by by_cases h:f=7;exact .inr fun e'=>I ⟨h,e'.symm⟩;exact .inl h⟩))]
   rw[eQ (l:=bs) fun y q=>by
    rw[ts y.ty (w2 (bhd y) (Ad.2 ⟨y,q,rfl⟩)) fun e=>hx (.inr (.inr (.inl ⟨y,q,.inl e⟩))),aSf k y.body (by have:=O y q;omega) (q3 y q) fun e=>hx (.inr (.inr (.inl ⟨y,q,.inr e⟩)))]
    cases y;rfl]
   rw[eQ (l:=al) fun y q=>by
    rw[aSf k y.body (by have:=W y q;omega) (q4 y q) fun e=>hx (.inr (.inr (.inr ⟨y,q,e⟩)))]
    cases y;rfl]
theorem aUp {X:Nat}(hu:tfR u=[]):∀(k:Nat) (c:Core),m30 c≤k→bE (QL X) c→sTR k c a u=nT c a u:=by
 intro k
 induction k with
 | zero=>intro c h;have:=dB c;omega
 | succ k J=>
 intro c h O;obtain⟨f,n,nm,t,ks,bs,al⟩:=c;obtain⟨_,W,Y,Z⟩:=aJ.1 O;rw[sTR];by_cases I:f=7∧(nm=a∨¬a∈tyR (.mk f n nm t ks bs al))
 ·rw[ξ I];rcases I.2 with e | e
  ·rw[nT,ξ ⟨I.1,e⟩]
  ·rw[aSf _ _ (le_refl _) O e]
 ·rw[ψ I,ψ (fun e=>by rw[hu] at e;exact absurd e.2 (by simp)),aJq fun e=>I ⟨e.1,.inl e.2⟩,gH,gH];rw[m30] at h;rw[Aw (l:=ks) fun y q=>J y (by have:=dQ q;omega) (W y q)];rw[Aw (l:=bs) (g:=fun b=>Bind.mk b.name (fL b.ty [(a,u)]) (nT b.body a u)) fun y q=>by rw[J y.body (by have:=gY q;omega) (Y y q)]];rw[Aw (l:=al) (g:=fun b=>Alt.mk b.form b.n b.name b.vars (nT b.body a u)) fun y q=>by rw[J y.body (by have:=eS q;omega) (Z y q)]]
end
theorem aXi (z:Str):pfR (vC z)=[z]:=by unfold vC;rw[pfR,ξ rfl]
section
variable {X:Nat}
theorem aDh {f n:Int}{nm:Str}{t:Ty}{ks:List Core}{bs:List Bind}{al:List Alt}(I:bE (QL X) (.mk f n nm t ks bs al)):(∀y∈gvN f nm bs,nh y)∧∀a∈al,∀y∈a.vars,nh y:=by
 obtain⟨⟨_,_,_,_,_,J,O,W⟩,_⟩:=aJ.1 I;refine⟨fun y q=>?_,fun a ha y q=>W (ahd a) (Ad.2 ⟨a,ha,rfl⟩) y q⟩;unfold gvN at q;rcases χ.1 q with q | q
 ·by_cases h5:f=5
  ·rw[ξ h5] at q;rw[κ.1 q];exact J h5
  ·rw[ψ h5] at q;cases q
 ·obtain⟨z,Y,rfl⟩:=Ad.1 q;exact O (bhd z) (Ad.2 ⟨z,Y,rfl⟩)
theorem tV {f:Int}{nm x:Str}{b:Core}{bs:List Bind}{p:Prop} [Decidable p]:gvN f nm (if p then bs else bs.map (nSB x b))=gvN f nm bs:=by
 split
 ·rfl
 ·unfold gvN;rw[Az];rfl
theorem yJ {x z:Str}{b:Core}(J:¬nh z):∀(k:Nat) (c:Core),aV c≤k→bE (QL X) c→¬z∈pfR c→nS (nS c x (vC z)) z b=nS c x b
 | 0,c,h,_,_=>by have:=bG c;omega
 | k+1,.mk f n nm t ks bs al,h,Y,hx=>by
  obtain⟨Z,aa,ab,_⟩:= @c6 f n nm t ks bs al;obtain⟨_,q2,q3,q4⟩:=aJ.1 Y;obtain⟨hg,hv⟩:=aDh Y;by_cases h1:f=1
  ·rw[pfR,ξ h1] at hx;rw[nS,ξ h1,nS,ξ h1];by_cases e:nm=x
   ·rw[ξ e,ξ e];unfold vC;rw[nS,ξ rfl,ξ rfl]
   ·rw[ψ e,ψ e,nS,ξ h1,ψ fun e'=>hx (by rw[e'];exact κ.2 rfl)]
  ·have hx:=fun h=>hx ((dC h1).2 h)
   have I:¬z∈gvN f nm bs:=fun e=>J (hg z e)
   rw[gV h1,gV h1,gV h1,tV,ψ I,ψ I];congr 1
   ·by_cases e:x∈gvN f nm bs
    ·rw[ξ e,ξ e];exact eQ fun c hc=>rA _ c (le_refl _) fun q=>hx (.inl ⟨c,χ.2 (.inl hc),q,I⟩)
    ·rw[ψ e,ψ e,Az];exact Aw fun c hc=>yJ J k c (by have:=Z c hc;omega) (q2 c hc) fun q=>hx (.inl ⟨c,χ.2 (.inl hc),q,I⟩)
   ·have hp:∀c∈bs,¬z∈pfR c.body:=fun c hc q=>hx (.inl ⟨c.body,χ.2 (.inr (Ad.2 ⟨c,hc,rfl⟩)),q,I⟩)
    by_cases e:x∈gvN f nm bs
    ·rw[ξ e,ξ e];exact eQ fun c hc=>by unfold nSB;rw[rA _ c.body (le_refl _) (hp c hc)];cases c;rfl
    ·rw[ψ e,ψ e,Az];refine Aw fun c hc=>?_
     show nSB z b (nSB x (vC z) c)=nSB x b c;unfold nSB;show Bind.mk c.name c.ty (nS (nS c.body x (vC z)) z b)=_;rw[yJ J k c.body (by have:=aa c hc;omega) (q3 c hc) (hp c hc)]
   ·rw[Az];refine Aw fun a ha=>?_
    have O:¬z∈a.vars:=fun e=>J (hv a ha z e)
    have W:¬z∈pfR a.body:=fun q=>hx (.inr ⟨a,ha,q,O⟩)
    show nSA z b (nSA x (vC z) a)=nSA x b a;unfold nSA;show Alt.mk a.form a.n a.name a.vars (if z∈a.vars then(if x∈a.vars then a.body else nS a.body x (vC z)) else nS (if x∈a.vars then a.body else nS a.body x (vC z)) z b)=_;rw[ψ O];by_cases e:x∈a.vars
    ·rw[ξ e,ξ e,rA _ a.body (le_refl _) W]
    ·rw[ψ e,ψ e,yJ J k a.body (by have:=ab a ha;omega) (q4 a ha) W]
theorem yH {y w z:Str}{b:Core}(I:¬nh z) (J:¬y=z) (hw:¬w=z) (hb:pfR b=[]):∀(k:Nat) (c:Core),aV c≤k→bE (QL X) c→nS (nS c y (vC w)) z b=nS (nS c z b) y (vC w)
 | 0,c,h,_=>by have:=bG c;omega
 | k+1,.mk f n nm t ks bs al,h,Y=>by
  obtain⟨Z,aa,ab,_⟩:= @c6 f n nm t ks bs al;obtain⟨_,q2,q3,q4⟩:=aJ.1 Y;obtain⟨hg,hv⟩:=aDh Y;by_cases h1:f=1
  ·rw[nS,ξ h1,nS,ξ h1];by_cases e:nm=y
   ·have O:¬nm=z:=fun e'=>J (e.symm.trans e')
    rw[ξ e,ψ O,nS,ξ h1,ξ e];unfold vC;rw[nS,ξ rfl,ψ hw]
   ·rw[ψ e,nS,ξ h1];by_cases O:nm=z
    ·rw[ξ O,rA _ b (le_refl _) (by rw[hb];simp)]
    ·rw[ψ O,nS,ξ h1,ψ e]
  ·have q:¬z∈gvN f nm bs:=fun e=>I (hg z e)
   rw[gV h1,gV h1,gV h1,gV h1,tV,tV,ψ q,ψ q,ψ q,ψ q];congr 1
   ·by_cases e:y∈gvN f nm bs
    ·rw[ξ e,ξ e]
    ·rw[ψ e,ψ e,Az,Az];exact Aw fun c hc=>yH I J hw hb k c (by have:=Z c hc;omega) (q2 c hc)
   ·by_cases e:y∈gvN f nm bs
    ·rw[ξ e,ξ e]
    ·rw[ψ e,ψ e,Az,Az];refine Aw fun c hc=>?_
     show Bind.mk c.name c.ty (nS (nS c.body y (vC w)) z b)=Bind.mk c.name c.ty (nS (nS c.body z b) y (vC w));rw[yH I J hw hb k c.body (by have:=aa c hc;omega) (q3 c hc)]
   ·rw[Az,Az];refine Aw fun a ha=>?_
    have W:¬z∈a.vars:=fun e=>I (hv a ha z e)
    show Alt.mk a.form a.n a.name a.vars (if z∈a.vars then(if y∈a.vars then a.body else nS a.body y (vC w)) else nS (if y∈a.vars then a.body else nS a.body y (vC w)) z b)=
     Alt.mk a.form a.n a.name a.vars (if y∈a.vars then(if z∈a.vars then a.body else nS a.body z b) else nS (if z∈a.vars then a.body else nS a.body z b) y (vC w))
    rw[ψ W,ψ W];by_cases e:y∈a.vars
    ·rw[ξ e,ξ e]
    ·rw[ψ e,ψ e,yH I J hw hb k a.body (by have:=ab a ha;omega) (q4 a ha)]
end
theorem aXp {tk:List Str}(h:∀x∈tk,nh x) (k:Nat):oR tk k=(List.range k).map pcN:=by
 have key:∀n,n0 tk n=(List.range n).map pcN:=fun n=>by
  unfold n0;rw[List.filter_eq_self];intro x hx;obtain⟨i,_,rfl⟩:=Ad.1 hx;exact Af fun hin=>mZ i (h _ hin)
 have hl:=oQ tk k;unfold oR at hl ⊢;rw[key,ζ,length_range] at hl;rw[key,hl]
section
variable {π:Str→Str}
end
theorem aX1 {x:Str}{b:Core}(bs:List Bind):(bs.map (nSB x b)).map bhd=bs.map bhd:=by rw[Az];rfl
theorem aX2 {x:Str}{b:Core}(al:List Alt):(al.map (nSA x b)).map ahd=al.map ahd:=by rw[Az];rfl
theorem hY {q:Loc}{x:Str}{b:Core}(hb:bE q b):∀(k:Nat) (c:Core),aV c≤k→bE q c→bE q (nS c x b)
 | 0,c,h,_=>by have:=bG c;omega
 | k+1,.mk f n nm t ks bs al,h,O=>by
  obtain⟨W,Y,Z,_⟩:= @c6 f n nm t ks bs al;obtain⟨q1,q2,q3,q4⟩:=aJ.1 O;by_cases h1:f=1
  ·rw[nS,ξ h1];split
   ·exact hb
   ·exact O
  ·rw[gV h1];refine aJ.2 ⟨?_,fun y I=>?_,fun y I=>?_,fun y I=>?_⟩
   ·have e1:(if x∈gvN f nm bs then ks else ks.map fun c=>nS c x b).length=ks.length:=by split<;>simp
    have e2:(if x∈gvN f nm bs then bs else bs.map (nSB x b)).map bhd=bs.map bhd:=by
     split
     ·rfl
     ·exact aX1 bs
    rw[e1,e2,aX2];exact q1
   ·split at I
    ·exact q2 y I
    ·obtain⟨z,J,rfl⟩:=Ad.1 I;exact hY hb k z (by have:=W z J;omega) (q2 z J)
   ·split at I
    ·exact q3 y I
    ·obtain⟨z,J,rfl⟩:=Ad.1 I;exact hY hb k z.body (by have:=Y z J;omega) (q3 z J)
   ·obtain⟨z,J,rfl⟩:=Ad.1 I;show bE q (if x∈z.vars then z.body else nS z.body x b);split
    ·exact q4 z J
    ·exact hY hb k z.body (by have:=Z z J;omega) (q4 z J)
theorem aMq {x y:Str}{b:Core}:∀(k:Nat) (c:Core),aV c≤k→y∈pfR (nS c x b)→(y∈pfR c∧¬y=x)∨y∈pfR b
 | 0,c,h,_=>by have:=bG c;omega
 | k+1,.mk f n nm t ks bs al,h,J=>by
  obtain⟨Y,Z,aa,_⟩:= @c6 f n nm t ks bs al;by_cases h1:f=1
  ·rw[nS,ξ h1] at J;split at J
   ·exact .inr J
   ·rename_i e;refine .inl ⟨J,?_⟩;rw[pfR,ξ h1] at J;rw[κ.1 J];exact e
  ·rw[gV h1] at J;rcases(dC h1).1 J with⟨p,hp,hyp,O⟩ | ⟨a,ha,q,W⟩
   ·rw[tV] at O;by_cases hx:x∈gvN f nm bs
    ·rw[ξ hx,ξ hx] at hp;exact .inl ⟨(dC h1).2 (.inl ⟨p,hp,hyp,O⟩),fun e=>O (by rw[e];exact hx)⟩
    ·rw[ψ hx,ψ hx] at hp;rcases χ.1 hp with hp | hp
     ·obtain⟨z,I,rfl⟩:=Ad.1 hp;rcases aMq k z (by have:=Y z I;omega) hyp with⟨g1,g2⟩ | g
      ·exact .inl ⟨(dC h1).2 (.inl ⟨z,χ.2 (.inl I),g1,O⟩),g2⟩
      ·exact .inr g
     ·obtain⟨z',ab,rfl⟩:=Ad.1 hp;obtain⟨z,I,rfl⟩:=Ad.1 ab;rcases aMq k z.body (by have:=Z z I;omega) hyp with⟨g1,g2⟩ | g
      ·exact .inl ⟨(dC h1).2 (.inl ⟨z.body,χ.2 (.inr (Ad.2 ⟨z,I,rfl⟩)),g1,O⟩),g2⟩
      ·exact .inr g
   ·obtain⟨z,I,rfl⟩:=Ad.1 ha;have W:¬y∈z.vars:=W;have q:y∈pfR (if x∈z.vars then z.body else nS z.body x b):=q;by_cases hx:x∈z.vars
    ·rw[ξ hx] at q;exact .inl ⟨(dC h1).2 (.inr ⟨z,I,q,W⟩),fun e=>W (by rw[e];exact hx)⟩
    ·rw[ψ hx] at q;rcases aMq k z.body (by have:=aa z I;omega) q with⟨g1,g2⟩ | g
     ·exact .inl ⟨(dC h1).2 (.inr ⟨z,I,g1,W⟩),g2⟩
     ·exact .inr g
def fS (c:Core) (l:List (Str×Core)):Core:=l.foldl (fun c p=>nS c p.1 p.2) c
theorem uP {q:Loc}:∀{l:List (Str×Core)}{c:Core},bE q c→(∀p∈l,bE q p.2)→bE q (fS c l)
 | [],_,h,_=>h
 | p::l,c,h,hl=>uP (l:=l) (hY (hl p φ) _ c (le_refl _) h) fun q I=>hl q (η _ I)
section
variable {X:Nat}
theorem aT2 (q:31≤X) {z:Str}(I:z.length≤30):bE (QL X) (vC z):=by
 have hw:w30 z=30:=by unfold w30;omega
 exact aJ.2 ⟨⟨rfl,fun h=>(by cases h),rfl,by simp,by unfold lw;rw[hw];simpa using q,fun h=>(by cases h),by simp,by simp⟩,by simp,by simp,by simp⟩
theorem y3 (I:31≤X):∀(ps:List (Str×Str)) (c:Core),bE (QL X) c→(∀p∈ps,¬nh p.2∧p.2.length≤30)→dL c ps=fS c (ps.map fun p=>(p.1,vC p.2))
 | [],c,_,_=>rfl
 | p::ps,c,hc,hp=>by
  obtain⟨h1,h2⟩:=hp p φ;have e:=sS (X:=X) (s:=p.1) (b:=vC p.2) (fun z J=>by rw[aXi,κ] at J;rw[J];exact h1) aRa (m30 c) c (le_refl _) hc;have:=y3 I ps (nS c p.1 (vC p.2)) (hY (aT2 I h2) _ c (le_refl _) hc) fun q O=>hp q (η _ O)
  unfold dL fS at this ⊢;rw[Ck,e,this,Al,Ck]
theorem aO1 {z:Str}{b:Core}(J:31≤X) (I:¬nh z) (hb:pfR b=[]) (O:bE (QL X) b):∀(ps:List (Str×Str)) (c:Core),bE (QL X) c→(∀p∈ps,nh p.1∧¬p.2=z∧p.2.length≤30)→
  nS (fS c (ps.map fun p=>(p.1,vC p.2))) z b=fS (nS c z b) (ps.map fun p=>(p.1,vC p.2))
 | [],c,_,_=>rfl
 | p::ps,c,hc,hp=>by
  obtain⟨h1,h2,h3⟩:=hp p φ;have e:=yH (X:=X) (y:=p.1) (w:=p.2) (z:=z) (b:=b) I (fun e=>I (by rw[←e];exact h1)) h2 hb _ c (le_refl _) hc;have:=aO1 J I hb O ps (nS c p.1 (vC p.2)) (hY (aT2 J h3) _ c (le_refl _) hc) fun q W=>hp q (η _ W)
  rw[e] at this;exact this
theorem aU7 (J:31≤X):∀(names own:List Str) (l:List Core) (c:Core),names.length=l.length→own.length=l.length→own.Nodup→(∀z∈own,¬nh z∧z.length≤30∧¬z∈pfR c)→(∀x∈names,nh x)→bE (QL X) c→
  (∀b∈l,bE (QL X) b∧pfR b=[]∧tyR b=[])→fY (dL c (names.zip own)) (own.zip l)=fS c (names.zip l)
 | [],own,l,c,h1,h2,_,_,_,_,_=>by
  have hl:l=[]:=Bi.1 h1.symm;subst hl;have O:own=[]:=Bi.1 h2;subst O;rfl
 | x::ns,[],l,c,h1,h2,_,_,_,_,_=>by rw[←h1] at h2;cases h2
 | x::ns,z::os,[],c,h1,_,_,_,_,_,_=>by cases h1
 | x::ns,z::os,b::bs,c,h1,h2,hnd,O,hn,hc,hl=>by
  obtain⟨Z,z2,z3⟩:=O z φ;obtain⟨b1,b2,b3⟩:=hl b φ;have hx:=hn x φ;obtain⟨hzo,hnd'⟩:=Bt.1 hnd;have I:∀p∈ns.zip os,nh p.1∧¬p.2=z∧p.2.length≤30∧¬nh p.2:=fun p hp=>by
   obtain⟨g1,g2⟩:=of_mem_zip (a:=p.1) (b:=p.2) hp;obtain⟨k1,k2,_⟩:=O p.2 (η _ g2);exact⟨hn p.1 (η _ g1),fun e=>hzo (by rw[←e];exact g2),k2,k1⟩
  have W:bE (QL X) (nS c x (vC z)):=hY (aT2 J z2) _ c (le_refl _) hc;have e1:dL c ((x::ns).zip (z::os))=fS (nS c x (vC z)) ((ns.zip os).map fun p=>(p.1,vC p.2)):=by
   rw[y3 J _ c hc (fun p hp=>by
    rcases Ah.1 hp with rfl | hp
    ·exact⟨Z,z2⟩
    ·exact⟨(I p hp).2.2.2,(I p hp).2.2.1⟩)]
   rfl
  have hqF:bE (QL X) (fS (nS c x (vC z)) ((ns.zip os).map fun p=>(p.1,vC p.2))):=uP W fun p hp=>by
   obtain⟨q,hq,rfl⟩:=Ad.1 hp;exact aT2 J (I q hq).2.2.1
  rw[e1];have e2:fY (fS (nS c x (vC z)) ((ns.zip os).map fun p=>(p.1,vC p.2))) ((z::os).zip (b::bs))=fY (fS (nS c x b) ((ns.zip os).map fun p=>(p.1,vC p.2))) (os.zip bs):=by
   have e:=sS (X:=X) (s:=z) (b:=b) (by rw[b2];simp) b3 (m30 (fS (nS c x (vC z)) ((ns.zip os).map fun p=>(p.1,vC p.2)))) _ (le_refl _) hqF;rw[aO1 J Z b2 b1 (ns.zip os) _ W fun p hp=>⟨(I p hp).1,(I p hp).2.1,(I p hp).2.2.1⟩,yJ (X:=X) Z _ c (le_refl _) hc z3] at e;unfold fY;rw[zip_cons_cons,Ck];dsimp only;rw[e]
  rw[e2];have Y:bE (QL X) (nS c x b):=hY b1 _ c (le_refl _) hc;have e3:fS (nS c x b) ((ns.zip os).map fun p=>(p.1,vC p.2))=dL (nS c x b) (ns.zip os):=(y3 J _ _ Y fun p hp=>⟨(I p hp).2.2.2,(I p hp).2.2.1⟩).symm
  rw[e3,aU7 J ns os bs (nS c x b) (by simpa using h1) (by simpa using h2) hnd' (fun w hw=>by
   obtain⟨k1,k2,k3⟩:=O w (η _ hw);refine⟨k1,k2,fun hin=>?_⟩;rcases aMq _ c (le_refl _) hin with⟨g,_⟩ | g
   ·exact k3 g
   ·rw[b2] at g;cases g) (fun y hy=>hn y (η _ hy)) Y fun y hy=>hl y (η _ hy)]
  rfl
theorem a7f {n:Nat}(h:n<10000):(pcN n).length≤30:=by
 unfold pcN;have:=aIf 3 n (by omega);simp only[Am];omega
theorem y4 (J:31≤X) (c:Core) (names:List Str) (l:List Core) (h1:names.length=l.length) (h2:names.length≤1000) (hn:∀x∈names,nh x) (hc:bE (QL X) c) (hp:∀x∈pfR c,nh x)
  (hl:∀b∈l,bE (QL X) b∧pfR b=[]∧tyR b=[]):uV c names l=fS c (names.zip l):=by
 have ht:∀x∈i7 c l,nh x:=fun x hx=>by
  rcases χ.1 hx with hx | hx
  ·exact hp x hx
  ·obtain⟨b,hb,hx⟩:=Bw.1 hx;rw[(hl b hb).2.1] at hx;cases hx
 have q:=aXp ht names.length;unfold uV;rw[q];refine aU7 J names _ l c h1 (by simp[h1]) ?_ (fun z O=>?_) hn hc hl
 ·have I:(List.range names.length).Nodup:=nodup_range;exact List.Pairwise.map pcN (fun a b h e=>h (aMx a b e)) I
 ·obtain⟨m,hm,rfl⟩:=Ad.1 O;have hm:=mem_range.1 hm;exact⟨mZ m,a7f (by omega),fun h=>mZ m (hp _ h)⟩
end
def QN (N:Str→Prop) (X:Nat):Loc:=fun f s t nk bh ah=>QL X f s t nk bh ah∧(f=5→N s)∧(∀p∈bh,N p.1)∧∀p∈ah,∀v∈p.2,N v
theorem nH {q I:Loc}(h:∀f s t nk J O,q f s t nk J O→I f s t nk J O):∀(k:Nat) (c:Core),aV c≤k→bE q c→bE I c
 | 0,c,hk,_=>by have:=bG c;omega
 | k+1,.mk f n s t ks bs al,hk,W=>by
  obtain⟨Y,z2,z3,_⟩:= @c6 f n s t ks bs al;obtain⟨Z,k1,k2,k3⟩:=aJ.1 W;exact aJ.2 ⟨h _ _ _ _ _ _ Z,fun x hx=>nH h k x (by have:=Y x hx;omega) (k1 x hx),fun x hx=>nH h k x.body (by have:=z2 x hx;omega) (k2 x hx),fun x hx=>nH h k x.body (by have:=z3 x hx;omega) (k3 x hx)⟩
section
variable {N:Str→Prop}{X:Nat}
theorem aZq {c:Core}(h:bE (QN N X) c):bE (QL X) c:=nH (fun _ _ _ _ _ _ h=>h.1) _ c (le_refl _) h
theorem aZr {f n:Int}{nm:Str}{t:Ty}{ks:List Core}{bs:List Bind}{al:List Alt}(I:bE (QN N X) (.mk f n nm t ks bs al)):(∀y∈gvN f nm bs,N y)∧∀a∈al,∀y∈a.vars,N y:=by
 obtain⟨⟨_,J,O,W⟩,_⟩:=aJ.1 I;refine⟨fun y q=>?_,fun a ha y q=>W (ahd a) (Ad.2 ⟨a,ha,rfl⟩) y q⟩;unfold gvN at q;rcases χ.1 q with q | q
 ·by_cases h5:f=5
  ·rw[ξ h5] at q;rw[κ.1 q];exact J h5
  ·rw[ψ h5] at q;cases q
 ·obtain⟨z,Y,rfl⟩:=Ad.1 q;exact O (bhd z) (Ad.2 ⟨z,Y,rfl⟩)
theorem aT1 (q:31≤X) {z:Str}(I:z.length≤30):bE (QN N X) (vC z):=by
 have hw:w30 z=30:=by unfold w30;omega
 exact aJ.2 ⟨⟨⟨rfl,fun h=>(by cases h),rfl,by simp,by unfold lw;rw[hw];simpa using q,fun h=>(by cases h),by simp,by simp⟩,fun h=>(by cases h),by simp,by simp⟩,by simp,by simp,by simp⟩
theorem aGm {s:Str}{b:Core}(hb:∀z∈pfR b,¬N z) (ht:tyR b=[]):∀(k:Nat) (c:Core),m30 c≤k→bE (QN N X) c→bW k c s b=nS c s b:=by
 intro k
 induction k with
 | zero=>intro c h;have:=dB c;omega
 | succ k O=>
 intro c h q;obtain⟨f,n,nm,t,ks,bs,al⟩:=c;rw[bW];by_cases h1:f=1
 ·obtain⟨rfl,rfl,rfl⟩:=lS (aZq q) h1;rw[nS,ξ h1];by_cases hs:nm=s
  ·rw[ξ ⟨h1,hs⟩,ξ hs]
  ·rw[ψ fun e=>hs e.2,ψ hs,ψ (fun e=>by have:f=7:=e.1;omega),nE];unfold zNm zKs zBs;rw[ψ (by omega)];simp[mkB]
 ·have Z:(if Core.form (.mk f n nm t ks bs al)=7∧s∈pfR (.mk f n nm t ks bs al) then aYq (.mk f n nm t ks bs al) (tyR b) else .mk f n nm t ks bs al)=.mk f n nm t ks bs al:=by
   split
   ·rw[ht,aYq,ψ (by simp)]
   ·rfl
  rw[ψ (fun e=>h1 e.1),Z,gV h1,nE];obtain⟨_,k1,k2,k3⟩:=aJ.1 q;rw[m30] at h;have J:=aZr q;have hg:∀y∈gvN f nm bs,¬y∈pfR b:=fun y W I=>hb y I (J.1 y W)
  have hP:=rO (sb:=bW k) (s:=s) (b:=b) (ns:=gvN f nm bs) (ps:=ks++bs.map Bind.body) hg fun p hp=>by
   rcases χ.1 hp with hp | hp
   ·exact O p (by have:=dQ hp;omega) (k1 p hp)
   ·obtain⟨z,hz,rfl⟩:=Ad.1 hp;exact O z.body (by have:=gY hz;omega) (k2 z hz)
  have hA:al.map (jM (bW k) s b)=al.map (nSA s b):=Aw fun a ha=>by
   have hv:∀y∈a.vars,¬y∈pfR b:=fun y W I=>hb y I (J.2 a ha y W)
   have hPa:=rO (sb:=bW k) (s:=s) (b:=b) (ns:=a.vars) (ps:=[a.body]) hv fun p hp=>by
    rw[κ.1 hp];exact O a.body (by have:=eS ha;omega) (k3 a ha)
   unfold jM nSA;rw[hPa];by_cases hx:s∈a.vars
   ·rw[ξ hx,ξ hx];rfl
   ·rw[ψ hx,ψ hx];rfl
  rw[hA];unfold zNm zKs zBs;rw[hP];have e1:(if f=5 then(gvN f nm bs).headD nm else nm)=nm:=by
   split
   ·rename_i h5;unfold gvN;rw[ξ h5];rfl
   ·rfl
  dsimp only;rw[e1];by_cases hx:s∈gvN f nm bs
  ·rw[ξ hx,ξ hx,ξ hx,take_left,drop_left];by_cases h5:f=5
   ·obtain⟨_,rfl,rfl⟩:=dG (aZq q) (.inl h5);rfl
   ·have Y:gvN f nm bs=bs.map Bind.name:=by unfold gvN;rw[ψ h5];rfl
    rw[Y,aBl]
  ·rw[ψ hx,ψ hx,ψ hx,A6,take_left' (by rw[ζ]),List.drop_left' (by rw[ζ])];by_cases h5:f=5
   ·obtain⟨_,rfl,rfl⟩:=dG (aZq q) (.inl h5);rfl
   ·have Y:gvN f nm bs=bs.map Bind.name:=by unfold gvN;rw[ψ h5];rfl
    rw[Y,Az];have e3:=aNs (x:=s) (b:=b) bs;rw[show((fun p=>nS p s b)∘Bind.body)=fun a:Bind=>nS a.body s b from rfl,e3]
theorem rU {x z:Str}{b:Core}(J:¬N z):∀(k:Nat) (c:Core),aV c≤k→bE (QN N X) c→¬z∈pfR c→nS (nS c x (vC z)) z b=nS c x b
 | 0,c,h,_,_=>by have:=bG c;omega
 | k+1,.mk f n nm t ks bs al,h,Y,hx=>by
  obtain⟨Z,aa,ab,_⟩:= @c6 f n nm t ks bs al;obtain⟨_,q2,q3,q4⟩:=aJ.1 Y;obtain⟨hg,hv⟩:=aZr Y;by_cases h1:f=1
  ·rw[pfR,ξ h1] at hx;rw[nS,ξ h1,nS,ξ h1];by_cases e:nm=x
   ·rw[ξ e,ξ e];unfold vC;rw[nS,ξ rfl,ξ rfl]
   ·rw[ψ e,ψ e,nS,ξ h1,ψ fun e'=>hx (by rw[e'];exact κ.2 rfl)]
  ·have hx:=fun h=>hx ((dC h1).2 h)
   have I:¬z∈gvN f nm bs:=fun e=>J (hg z e)
   rw[gV h1,gV h1,gV h1,tV,ψ I,ψ I];congr 1
   ·by_cases e:x∈gvN f nm bs
    ·rw[ξ e,ξ e];exact eQ fun c hc=>rA _ c (le_refl _) fun q=>hx (.inl ⟨c,χ.2 (.inl hc),q,I⟩)
    ·rw[ψ e,ψ e,Az];exact Aw fun c hc=>rU J k c (by have:=Z c hc;omega) (q2 c hc) fun q=>hx (.inl ⟨c,χ.2 (.inl hc),q,I⟩)
   ·have hp:∀c∈bs,¬z∈pfR c.body:=fun c hc q=>hx (.inl ⟨c.body,χ.2 (.inr (Ad.2 ⟨c,hc,rfl⟩)),q,I⟩)
    by_cases e:x∈gvN f nm bs
    ·rw[ξ e,ξ e];exact eQ fun c hc=>by unfold nSB;rw[rA _ c.body (le_refl _) (hp c hc)];cases c;rfl
    ·rw[ψ e,ψ e,Az];refine Aw fun c hc=>?_
     show nSB z b (nSB x (vC z) c)=nSB x b c;unfold nSB;show Bind.mk c.name c.ty (nS (nS c.body x (vC z)) z b)=_;rw[rU J k c.body (by have:=aa c hc;omega) (q3 c hc) (hp c hc)]
   ·rw[Az];refine Aw fun a ha=>?_
    have O:¬z∈a.vars:=fun e=>J (hv a ha z e)
    have W:¬z∈pfR a.body:=fun q=>hx (.inr ⟨a,ha,q,O⟩)
    show nSA z b (nSA x (vC z) a)=nSA x b a;unfold nSA;show Alt.mk a.form a.n a.name a.vars (if z∈a.vars then(if x∈a.vars then a.body else nS a.body x (vC z)) else nS (if x∈a.vars then a.body else nS a.body x (vC z)) z b)=_;rw[ψ O];by_cases e:x∈a.vars
    ·rw[ξ e,ξ e,rA _ a.body (le_refl _) W]
    ·rw[ψ e,ψ e,rU J k a.body (by have:=ab a ha;omega) (q4 a ha) W]
theorem rT {y w z:Str}{b:Core}(I:¬N z) (J:¬y=z) (hw:¬w=z) (hb:pfR b=[]):∀(k:Nat) (c:Core),aV c≤k→bE (QN N X) c→nS (nS c y (vC w)) z b=nS (nS c z b) y (vC w)
 | 0,c,h,_=>by have:=bG c;omega
 | k+1,.mk f n nm t ks bs al,h,Y=>by
  obtain⟨Z,aa,ab,_⟩:= @c6 f n nm t ks bs al;obtain⟨_,q2,q3,q4⟩:=aJ.1 Y;obtain⟨hg,hv⟩:=aZr Y;by_cases h1:f=1
  ·rw[nS,ξ h1,nS,ξ h1];by_cases e:nm=y
   ·have O:¬nm=z:=fun e'=>J (e.symm.trans e')
    rw[ξ e,ψ O,nS,ξ h1,ξ e];unfold vC;rw[nS,ξ rfl,ψ hw]
   ·rw[ψ e,nS,ξ h1];by_cases O:nm=z
    ·rw[ξ O,rA _ b (le_refl _) (by rw[hb];simp)]
    ·rw[ψ O,nS,ξ h1,ψ e]
  ·have q:¬z∈gvN f nm bs:=fun e=>I (hg z e)
   rw[gV h1,gV h1,gV h1,gV h1,tV,tV,ψ q,ψ q,ψ q,ψ q];congr 1
   ·by_cases e:y∈gvN f nm bs
    ·rw[ξ e,ξ e]
    ·rw[ψ e,ψ e,Az,Az];exact Aw fun c hc=>rT I J hw hb k c (by have:=Z c hc;omega) (q2 c hc)
   ·by_cases e:y∈gvN f nm bs
    ·rw[ξ e,ξ e]
    ·rw[ψ e,ψ e,Az,Az];refine Aw fun c hc=>?_
     show Bind.mk c.name c.ty (nS (nS c.body y (vC w)) z b)=Bind.mk c.name c.ty (nS (nS c.body z b) y (vC w));rw[rT I J hw hb k c.body (by have:=aa c hc;omega) (q3 c hc)]
   ·rw[Az,Az];refine Aw fun a ha=>?_
    have W:¬z∈a.vars:=fun e=>I (hv a ha z e)
    show Alt.mk a.form a.n a.name a.vars (if z∈a.vars then(if y∈a.vars then a.body else nS a.body y (vC w)) else nS (if y∈a.vars then a.body else nS a.body y (vC w)) z b)=
     Alt.mk a.form a.n a.name a.vars (if y∈a.vars then(if z∈a.vars then a.body else nS a.body z b) else nS (if z∈a.vars then a.body else nS a.body z b) y (vC w))
    rw[ψ W,ψ W];by_cases e:y∈a.vars
    ·rw[ξ e,ξ e]
    ·rw[ψ e,ψ e,rT I J hw hb k a.body (by have:=ab a ha;omega) (q4 a ha)]
theorem tF (I:31≤X):∀(ps:List (Str×Str)) (c:Core),bE (QN N X) c→(∀p∈ps,¬N p.2∧p.2.length≤30)→dL c ps=fS c (ps.map fun p=>(p.1,vC p.2))
 | [],c,_,_=>rfl
 | p::ps,c,hc,hp=>by
  obtain⟨h1,h2⟩:=hp p φ;have e:=aGm (N:=N) (X:=X) (s:=p.1) (b:=vC p.2) (fun z J=>by rw[aXi,κ] at J;rw[J];exact h1) aRa (m30 c) c (le_refl _) hc;have:=tF I ps (nS c p.1 (vC p.2)) (hY (aT1 I h2) _ c (le_refl _) hc) fun q O=>hp q (η _ O)
  unfold dL fS at this ⊢;rw[Ck,e,this,Al,Ck]
theorem aH9 {z:Str}{b:Core}(J:31≤X) (I:¬N z) (hb:pfR b=[]) (O:bE (QN N X) b):∀(ps:List (Str×Str)) (c:Core),bE (QN N X) c→(∀p∈ps,N p.1∧¬p.2=z∧p.2.length≤30)→
  nS (fS c (ps.map fun p=>(p.1,vC p.2))) z b=fS (nS c z b) (ps.map fun p=>(p.1,vC p.2))
 | [],c,_,_=>rfl
 | p::ps,c,hc,hp=>by
  obtain⟨h1,h2,h3⟩:=hp p φ;have e:=rT (N:=N) (X:=X) (y:=p.1) (w:=p.2) (z:=z) (b:=b) I (fun e=>I (by rw[←e];exact h1)) h2 hb _ c (le_refl _) hc;have:=aH9 J I hb O ps (nS c p.1 (vC p.2)) (hY (aT1 J h3) _ c (le_refl _) hc) fun q W=>hp q (η _ W)
  rw[e] at this;exact this
theorem aM2 (J:31≤X):∀(names own:List Str) (l:List Core) (c:Core),names.length=l.length→own.length=l.length→own.Nodup→(∀z∈own,¬N z∧z.length≤30∧¬z∈pfR c)→(∀x∈names,N x)→bE (QN N X) c→
  (∀b∈l,bE (QN N X) b∧pfR b=[]∧tyR b=[])→fY (dL c (names.zip own)) (own.zip l)=fS c (names.zip l)
 | [],own,l,c,h1,h2,_,_,_,_,_=>by
  have hl:l=[]:=Bi.1 h1.symm;subst hl;have O:own=[]:=Bi.1 h2;subst O;rfl
 | x::ns,[],l,c,h1,h2,_,_,_,_,_=>by rw[←h1] at h2;cases h2
 | x::ns,z::os,[],c,h1,_,_,_,_,_,_=>by cases h1
 | x::ns,z::os,b::bs,c,h1,h2,hnd,O,hn,hc,hl=>by
  obtain⟨Z,z2,z3⟩:=O z φ;obtain⟨b1,b2,b3⟩:=hl b φ;have hx:=hn x φ;obtain⟨hzo,hnd'⟩:=Bt.1 hnd;have I:∀p∈ns.zip os,N p.1∧¬p.2=z∧p.2.length≤30∧¬N p.2:=fun p hp=>by
   obtain⟨g1,g2⟩:=of_mem_zip (a:=p.1) (b:=p.2) hp;obtain⟨k1,k2,_⟩:=O p.2 (η _ g2);exact⟨hn p.1 (η _ g1),fun e=>hzo (by rw[←e];exact g2),k2,k1⟩
  have W:bE (QN N X) (nS c x (vC z)):=hY (aT1 J z2) _ c (le_refl _) hc;have e1:dL c ((x::ns).zip (z::os))=fS (nS c x (vC z)) ((ns.zip os).map fun p=>(p.1,vC p.2)):=by
   rw[tF J _ c hc (fun p hp=>by
    rcases Ah.1 hp with rfl | hp
    ·exact⟨Z,z2⟩
    ·exact⟨(I p hp).2.2.2,(I p hp).2.2.1⟩)]
   rfl
  have hqF:bE (QN N X) (fS (nS c x (vC z)) ((ns.zip os).map fun p=>(p.1,vC p.2))):=uP W fun p hp=>by
   obtain⟨q,hq,rfl⟩:=Ad.1 hp;exact aT1 J (I q hq).2.2.1
  rw[e1];have e2:fY (fS (nS c x (vC z)) ((ns.zip os).map fun p=>(p.1,vC p.2))) ((z::os).zip (b::bs))=fY (fS (nS c x b) ((ns.zip os).map fun p=>(p.1,vC p.2))) (os.zip bs):=by
   have e:=aGm (N:=N) (X:=X) (s:=z) (b:=b) (by rw[b2];simp) b3 (m30 (fS (nS c x (vC z)) ((ns.zip os).map fun p=>(p.1,vC p.2)))) _ (le_refl _) hqF;rw[aH9 J Z b2 b1 (ns.zip os) _ W fun p hp=>⟨(I p hp).1,(I p hp).2.1,(I p hp).2.2.1⟩,rU (N:=N) (X:=X) Z _ c (le_refl _) hc z3] at e;unfold fY;rw[zip_cons_cons,Ck];dsimp only;rw[e]
  rw[e2];have Y:bE (QN N X) (nS c x b):=hY b1 _ c (le_refl _) hc;have e3:fS (nS c x b) ((ns.zip os).map fun p=>(p.1,vC p.2))=dL (nS c x b) (ns.zip os):=(tF J _ _ Y fun p hp=>⟨(I p hp).2.2.2,(I p hp).2.2.1⟩).symm
  rw[e3,aM2 J ns os bs (nS c x b) (by simpa using h1) (by simpa using h2) hnd' (fun w hw=>by
   obtain⟨k1,k2,k3⟩:=O w (η _ hw);refine⟨k1,k2,fun hin=>?_⟩;rcases aMq _ c (le_refl _) hin with⟨g,_⟩ | g
   ·exact k3 g
   ·rw[b2] at g;cases g) (fun y hy=>hn y (η _ hy)) Y fun y hy=>hl y (η _ hy)]
  rfl
end
def nm6:List Str:=nmL++[[112]]
theorem aXs:∀s∈nm6,s.length≤3:=by decide
def mO (l:List Int) (left:Int):List (Nat×AObj):=[(700,.var 60 [.c (.sl 1 (l.map aQ0)),.c (.int .i64 left)])]
def uW (l:List Int) (k:Int):Int×List Int:=match l with
 | []=>(0,[])
 | x::l=>(r5 x k,l)
structure Ok (l:List Int):Prop where
 nums:aZs l
 fits:Fits l
theorem aHd (l:List Int) {k:Int}(hk:0<k):0≤(uW l k).1∧(uW l k).1<k:=by
 cases l with
 | nil=>exact⟨Int.le_refl _,hk⟩
 | cons x l=>exact aC5 x hk
theorem rS {l:List Int}(h:Ok l) (k:Int):Ok (uW l k).2:=by
 cases l with
 | nil=>exact h
 | cons x l=>exact⟨h.nums.suf ⟨[x],rfl⟩,h.fits.suf ⟨[x],rfl⟩⟩
theorem aPh (l:List Int) (left k:Int) (hk:1≤k) (h:Ok l):aU Tryz.prog 23 [.one (.vp 700 0),I .i64 k] (mO l left) (I .i64 (uW l k).1) (mO (uW l k).2 left):=by
 obtain⟨hl,hf⟩:=h;unfold Fits at hf;refine bL (n:=29) tok Tryz.func23 rfl rfl rfl ?_;refine sg rfl (a8 (sg rfl ?_));cases l with
 | nil=>
  exact aA rfl (fun hb=>sg rfl (aF rtT)) (fun hb=>by simp at hb)
 | cons x l=>
  refine aA rfl (fun hb=>by simp at hb;omega) (fun hb=>aD (sk 7 rfl (kc (aIp x k (hl x (by simp)) hk) ?_)));exact kz 1 rfl (sg rfl (sg rfl (aF rtT)))
theorem jX (l:List Int) (left k:Int) (hk:1≤k) (h:Ok l):∃(i:Nat) (l':List Int),(i:Int)<k∧Ok l'∧aU Tryz.prog 23 [.one (.vp 700 0),I .i64 k] (mO l left) (I .i64 i) (mO l' left):=by
 obtain⟨i,hi⟩:=Int.eq_ofNat_of_zero_le (aHd l (k:=k) (by omega)).1;have h1:=(aHd l (k:=k) (by omega)).2
 have h2:=aPh l left k hk h;rw[hi] at h1 h2;exact⟨i,_,h1,rS h k,h2⟩
def tvN:List Str:=[[97],[97,39],[98,39],[99,39]]
theorem a6z:∀s∈tvN,s.length≤8:=by decide
inductive GT:Nat→Ty→Prop
 | var (s:Str) (h:s∈tvN):GT 1 (.mk 2 0 s [])
 | con (s:Str) (h:s.length≤8):GT 1 (.mk 3 0 s [])
 | app {m n:Nat} {a b:Ty} (ha:GT m a) (hb:GT n b):GT (m+n+1) (.mk 4 0 [] [a,b])
theorem GT.fn {m n:Nat}{a b:Ty}(ha:GT m a) (hb:GT n b):GT (m+n+3) (eE a b):=by
 have h:=GT.app (GT.app (GT.con arrow (by decide)) ha) hb;rw[show m+n+3=1+m+1+n+1 by omega];exact h
def iE:Ty:=.mk 3 0 [66,111,111,108] []
def tLs (a:Ty):Ty:=.mk 4 0 [] [.mk 3 0 [76] [],a]
def tPr (a b:Ty):Ty:=.mk 4 0 [] [.mk 4 0 [] [.mk 3 0 [80] [],a],b]
inductive TW (V:List Str):Ty→Prop
 | var {s:Str} (h:s∈V):TW V (.mk 2 0 s [])
 | int:TW V iZ
 | bool:TW V iE
 | lst {a:Ty} (h:TW V a):TW V (tLs a)
 | pr {a b:Ty} (h1:TW V a) (h2:TW V b):TW V (tPr a b)
 | fn {a b:Ty} (h1:TW V a) (h2:TW V b):TW V (eE a b)
theorem TW.weak {V W:List Str}(J:∀x∈V,x∈W):∀{t:Ty},TW V t→TW W t:=by
 intro t h
 induction h with
 | var h=>exact .var (J _ h)
 | int=>exact .int
 | bool=>exact .bool
 | lst _ O=>exact .lst O
 | pr _ _ q I=>exact .pr q I
 | fn _ _ q I=>exact .fn q I
structure GTW (V:List Str) (n:Nat) (t:Ty):Prop where
 g:GT n t
 w:TW V t
theorem iK (s:Str):aU Tryz.prog 18 [Go.AM.T s] [] (tyV (.mk 3 0 s [])) []:=by
 refine bL (n:=5) tok Tryz.func18 rfl rfl rfl ?_;exact sg rfl (sg rfl (aF ⟨.inr rfl,⟨_,_,.cell rfl (tg rfl) rfl rfl rfl .nil,.cons (.pa (.c .refl (.c .refl (.c .refl (.c .nl .nil))))) .nil,rfl⟩,trivial,rfl⟩))
def uD (x:Str×Ty):List C:=.str x.1::bH x.2
structure Gv where
 l:List (Str×Ty)
 vars:List Str
 deep:Int
def zB (v:Gv):List C:=[.sl 5 (v.l.map uD),.sl 1 (v.vars.map bC),.int .i64 v.deep]
def dH (v:Gv) (s:Str) (t:Ty):Gv:=⟨v.l++[(s,t)],v.vars,v.deep+1⟩
theorem zM (v:Gv) (s:Str) (t:Ty) (hl:v.l.length≤1000000) (hd:0≤v.deep∧v.deep≤1000000):aU Tryz.prog 53 [.pa (zB v),Go.AM.T s,tyV t] [] (.pa (zB (dH v s t))) []:=by
 obtain⟨f,n,x,a⟩:=t;obtain⟨L,vs,d⟩:=v;dsimp only at hl hd;refine bL (n:=24) tok Tryz.func53 rfl rfl rfl ?_;refine sg rfl (sg rfl (sgh [(3,.all)] rfl (sg rfl (sg rfl (sg rfl (AWp.sub (Sub.freeze (id:=11) rfl) ?_))))))
 rw[show zB (dH ⟨L,vs,d⟩ s (.mk f n x a))=[.sl 5 (L.map uD++[uD (s,.mk f n x a)]),.sl 1 (vs.map bC),.int .i64 (d+1)] by
  unfold zB dH
  rw[A6];rfl]
 exact aF (rtC trw)
theorem hJ (a b:Core):aU Tryz.prog 54 [.pa (aB a),.pa (aB b)] [] (.pa (aB (.mk 4 0 [] zTy [a,b] [] []))) []:=by
 obtain⟨f,n,s,⟨tf,tn,ts,ta⟩,ks,bs,al⟩:=a;obtain⟨f',n',s',⟨q,I,J,O⟩,W,Y,Z⟩:=b;refine bL (n:=9) tok Tryz.func54 rfl rfl rfl ?_;refine sg rfl (sg rfl (AWp.sub (Sub.freeze (id:=7) rfl) ?_));exact aF (rtC trw)
def j0 (s:Str) (l:List Ty):Core:=l.foldl (fun c t=>.mk 6 0 [] t [c] [] []) (.mk 2 0 s zTy [] [] [])
theorem pK (s:Str) (l:List Ty) (hl:l.length≤1000000):aU Tryz.prog 58 [Go.AM.T s,.one (.c (.sl 4 (l.map bH)))] [] (.pa (aB (j0 s l))) []:=by
 refine bL (n:=23) tok Tryz.func58 rfl rfl rfl ?_;refine sg rfl (sg rfl (a8 (sg rfl ?_)));have q:(l.map bH).length=l.length:=ζ _;refine AWp.sub (vp 4 (aB aZ7)) ?_;refine AWp.sub (vp 5 (aB (j0 s []))) ?_;refine aC (aO (fun i:Nat=>mk [(0,Go.AM.T s),(1,.one (.c (.sl 4 (l.map bH)))),(4,.one (.vp 4 0)),(5,.one (.vp 5 0)),(6,I .i64 i)] [(4,.var 34 (b7 aZ7)),(5,.var 34 (b7 (j0 s (l.take i))))]) (fun i=>i≤l.length) (fun i=>l.length-i) 0 (Ak _) sl ?_);intro i hi;refine a8 (sg rfl (aA rfl (fun hb=>?_) (fun hb=>?_)))
 ·have J:=ltD hb q;obtain⟨t,ht⟩:=aL J;have ht':=bM bH ht;refine aD ?_;obtain⟨tf,tn,ts,W⟩:=t;refine a8 (aC (ag [(2,.row i (bH (.mk tf tn ts W)))] rfl ?_));have O:j0 s (l.take (i+1))=.mk 6 0 [] (.mk tf tn ts W) [j0 s (l.take i)] [] []:=by
   unfold j0;rw[Bh,ht,Bv];rfl
  generalize j0 s (l.take i)=g at O ⊢;obtain⟨gf,gn,gs,⟨Y,Z,aa,ab⟩,gk,gb,ga⟩:=g;refine AWp.sub (Sub.freeze (id:=20) rfl) ?_;refine AWp.sub (vp 5 (aB (.mk 6 0 [] (.mk tf tn ts W) [.mk gf gn gs (.mk Y Z aa ab) gk gb ga] [] []))) ?_;refine ag [] rfl ⟨i+1,J,by dsimp only;omega,?_⟩;dsimp only;rw[O];exact sl
 ·have ac:=geD hb q hi;subst ac;rw[As];exact aM (sg rfl (aF (rtC trw)))
theorem vL {f n:Int}{s:Str}{a:List Ty}(hf:¬f=4):aU Tryz.prog 57 [tyV (.mk f n s a)] [] (.tup [tyV (.mk f n s a),.one (.hs 510 0 0 0)]) [(510,.arr 30 4 [] 2)]:=by
 refine bL (n:=26) tok Tryz.func57 rfl rfl rfl ?_;refine sg rfl (a8 (sg rfl (aA rfl (fun _=>sg rfl (AWp.sub (Sub.own (t:=3) (id:=510) 30 4 rfl rfl) (AWp.sub (Sub.freeze (id:=510) rfl) ?_))) (fun hb=>by simp[Ty.form,hf] at hb))));exact aF ⟨.inr rfl,⟨_,_,.cell rfl (tg rfl) rfl rfl rfl (.tmp rfl .nil),.cons .refl (.cons .refl .nil),rfl⟩,⟨⟨_,rfl,.arr⟩,trivial⟩,rfl⟩
mutual
def spR:Ty→Ty×List Ty
 | .mk f n s a=>if f=4 then((a5b a).1,(a5b a).2++a.drop 1) else(.mk f n s a,[])
def a5b:List Ty→Ty×List Ty
 | []=>(.mk 0 0 [] [],[])
 | t::_=>spR t
end
theorem vN (a b:Ty):spR (.mk 4 0 [] [a,b])=((spR a).1,(spR a).2++[b]):=by rw[spR,ξ rfl,a5b];rfl
theorem vM (s:Str):spR (.mk 3 0 s [])=(.mk 3 0 s [],[]):=by rw[spR,ψ (by decide)]
theorem aUn (s:Str):spR (.mk 2 0 s [])=(.mk 2 0 s [],[]):=by rw[spR,ψ (by decide)]
mutual
def txR:Ty→Str
 | .mk f _ s a=>if f=2 then 39::s else if f=3 then s else 40::(txs a).drop 1
def txs:List Ty→Str
 | []=>[41]
 | t::l=>32::(txR t++txs l)
end
theorem vH (a b:Ty):txR (.mk 4 0 [] [a,b])=[40]++txR a++[32]++txR b++[41]:=by rw[txR,ψ (by decide),ψ (by decide),txs,txs,txs];simp
theorem vG (s:Str):txR (.mk 3 0 s [])=s:=by rw[txR,ψ (by decide),ξ rfl]
theorem qP (s:Str):txR (.mk 2 0 s [])=39::s:=by rw[txR,ξ rfl]
def gdT:Str→Prop
 | []=>True
 | x::_=>x=32∨x=41
theorem aQz {r:Str}:gdT (41::r):=Or.inr rfl
theorem sI (a:Ty) (r:Str):txR (tLs a)++r=40::76::32::(txR a++41::r):=by unfold tLs;rw[vH,vG];simp
theorem aDo (a b:Ty) (r:Str):txR (tPr a b)++r=40::40::80::32::(txR a++41::32::(txR b++41::r)):=by unfold tPr;rw[vH,vH,vG];simp
theorem aDp (a b:Ty) (r:Str):txR (eE a b)++r=40::40::45::62::32::(txR a++41::32::(txR b++41::r)):=by unfold eE tapp arrow;rw[vH,vH,vG];simp
theorem sJ (r:Str):txR iZ++r=73::110::116::r:=by unfold iZ;rw[vG];rfl
theorem nY (r:Str):txR iE++r=66::111::111::108::r:=by unfold iE;rw[vG];rfl
theorem a0q {s s' r r':Str}(hs:s∈tvN) (I:s'∈tvN) (J:gdT r) (q:gdT r') (h:s++r=s'++r'):s=s'∧r=r':=by
 have h1:s=[97]∨s=[97,39]∨s=[98,39]∨s=[99,39]:=by simpa [tvN] using hs
 have h2:s'=[97]∨s'=[97,39]∨s'=[98,39]∨s'=[99,39]:=by simpa [tvN] using I
 rcases h1 with rfl | rfl | rfl | rfl<;>rcases h2 with rfl | rfl | rfl | rfl<;>(try (simp at h;done))<;>(try (simp at h;exact⟨rfl,h⟩))
 ·have e:r=39::r':=by simpa using h
  rw[e] at J;rcases J with h | h<;>simp at h
 ·have e:39::r=r':=by simpa using h
  rw[←e] at q;rcases q with h | h<;>simp at h
theorem a0p {V W:List Str}(hV:∀x∈V,x∈tvN) (hW:∀x∈W,x∈tvN):∀{a:Ty},TW V a→∀{b:Ty}{r r':Str},TW W b→gdT r→gdT r'→txR a++r=txR b++r'→a=b∧r=r':=by
 intro a ha
 induction ha with
 | @var s hs=>
  intro b r r' hb Y q h;rw[qP] at h;cases hb with
  | @var s' I=>
   rw[qP] at h;obtain⟨J,O⟩:=a0q (hV s hs) (hW s' I) Y q (by simpa using h);exact⟨by rw[J],O⟩
  | int=>rw[sJ] at h;simp at h
  | bool=>rw[nY] at h;simp at h
  | lst h1=>rw[sI] at h;simp at h
  | pr h1 h2=>rw[aDo] at h;simp at h
  | fn h1 h2=>rw[aDp] at h;simp at h
 | int=>
  intro b r r' hb Y q h;rw[sJ] at h;cases hb with
  | var I=>rw[qP] at h;simp at h
  | int=>rw[sJ] at h;exact⟨rfl,by simpa using h⟩
  | bool=>rw[nY] at h;simp at h
  | lst h1=>rw[sI] at h;simp at h
  | pr h1 h2=>rw[aDo] at h;simp at h
  | fn h1 h2=>rw[aDp] at h;simp at h
 | bool=>
  intro b r r' hb Y q h;rw[nY] at h;cases hb with
  | var I=>rw[qP] at h;simp at h
  | int=>rw[sJ] at h;simp at h
  | bool=>rw[nY] at h;exact⟨rfl,by simpa using h⟩
  | lst h1=>rw[sI] at h;simp at h
  | pr h1 h2=>rw[aDo] at h;simp at h
  | fn h1 h2=>rw[aDp] at h;simp at h
 | lst _ ih=>
  intro b r r' hb Y q h;rw[sI] at h;cases hb with
  | var I=>rw[qP] at h;simp at h
  | int=>rw[sJ] at h;simp at h
  | bool=>rw[nY] at h;simp at h
  | lst h1=>
   rw[sI] at h;obtain⟨J,O⟩:=ih h1 aQz aQz (by simpa using h);exact⟨by rw[J],by simpa using O⟩
  | pr h1 h2=>rw[aDo] at h;simp at h
  | fn h1 h2=>rw[aDp] at h;simp at h
 | pr _ _ Z aa=>
  intro b r r' hb Y q h;rw[aDo] at h;cases hb with
  | var I=>rw[qP] at h;simp at h
  | int=>rw[sJ] at h;simp at h
  | bool=>rw[nY] at h;simp at h
  | lst h1=>rw[sI] at h;simp at h
  | pr h1 h2=>
   rw[aDo] at h;obtain⟨J,O⟩:=Z h1 aQz aQz (List.cons.inj (List.cons.inj (List.cons.inj (List.cons.inj h).2).2).2).2;obtain⟨e3,e4⟩:=aa h2 aQz aQz (List.cons.inj (List.cons.inj O).2).2;exact⟨by rw[J,e3],(List.cons.inj e4).2⟩
  | fn h1 h2=>rw[aDp] at h;simp at h
 | fn _ _ Z aa=>
  intro b r r' hb Y q h;rw[aDp] at h;cases hb with
  | var I=>rw[qP] at h;simp at h
  | int=>rw[sJ] at h;simp at h
  | bool=>rw[nY] at h;simp at h
  | lst h1=>rw[sI] at h;simp at h
  | pr h1 h2=>rw[aDo] at h;simp at h
  | fn h1 h2=>
   rw[aDp] at h;obtain⟨J,O⟩:=Z h1 aQz aQz (List.cons.inj (List.cons.inj (List.cons.inj (List.cons.inj (List.cons.inj h).2).2).2).2).2;obtain⟨e3,e4⟩:=aa h2 aQz aQz (List.cons.inj (List.cons.inj O).2).2;exact⟨by rw[J,e3],(List.cons.inj e4).2⟩
def GTs:Nat→List Ty→Prop
 | _,[]=>True
 | n,x::l=>∃k m,GT k x∧GTs m l∧k+m+1≤n
theorem GTs.snoc {k:Nat}{b:Ty}(hb:GT k b):∀{l:List Ty}{n:Nat},GTs n l→GTs (n+k+1) (l++[b])
 | [],n,_=>⟨k,0,hb,trivial,by omega⟩
 | x::l,n,h=>by
  obtain⟨j,m,h1,h2,h3⟩:=h;exact⟨j,m+k+1,h1,GTs.snoc hb h2,by omega⟩
theorem aO2 {n:Nat}{t:Ty}(h:GT n t) (hn:n≤100000):∃(hd:Ty) (l:List Ty),(GTs (n-1) l∧spR t=(hd,l))∧l.length≤n∧
  aU Tryz.prog 57 [tyV t] [] (.tup [tyV hd,.one (.hs 510 0 l.length l.length)]) [(510,.arr 30 4 (l.map bH) 2)]:=by
 induction h with
 | var s hs=>exact⟨.mk 2 0 s [],[],⟨trivial,aUn s⟩,by simp,vL (by decide)⟩
 | con s hs=>exact⟨.mk 3 0 s [],[],⟨trivial,vM s⟩,by simp,vL (by decide)⟩
 | @app m n a b ha hb q Z=>
  obtain⟨hd,l,⟨h1,h1'⟩,h2,h3⟩:=q (by omega);have ab:l.length≤100000:=by omega
  have ac:1≤m:=by cases ha<;>omega
  refine⟨hd,l++[b],?_,by rw[Ab];simp;omega,?_⟩
  ·have:=GTs.snoc hb h1;rw[show m-1+n+1=m+n+1-1 by omega] at this;exact⟨this,by rw[vN,h1']⟩
  ·obtain⟨ad,ae,ah,ai⟩:=hd;obtain⟨af,an,I,J⟩:=a;obtain⟨O,W,sb,Y⟩:=b;refine bL (n:=26) tok Tryz.func57 rfl rfl rfl ?_;refine sg rfl (a8 (sg rfl (aA rfl (fun hb=>by simp[Ty.form] at hb) (fun _=>aD (skh 4 [(2,.row 0 (bH (.mk af an I J)))] rfl (kc h3 ?_))))));refine kz 6 rfl (sgh [(4,.row 1 (bH (.mk O W sb Y)))] rfl (AWp.sub (Sub.freeze (id:=510) rfl) ?_));exact aF ⟨.inr rfl,⟨_,_,.cell rfl (tg rfl) rfl rfl rfl (.tmp rfl .nil),.cons .refl (.cons .refl .nil),by rw[ζ,Ab];rfl⟩,⟨⟨_,rfl,by rw[A6];exact .arr⟩,trivial⟩,rfl⟩
theorem wP {n:Nat}{t:Ty}(h:GT n t):(∃(m1 m2:Nat) (a b:Ty),GT m1 a∧GT m2 b∧n=m1+m2+3∧t=eE a b∧aU Tryz.prog 59 [tyV t] [] (B true) [])∨aU Tryz.prog 59 [tyV t] [] (B false) []:=by
 cases h with
 | var s hs=>
  refine .inr ?_;refine bL (n:=28) tok Tryz.func59 rfl rfl rfl ?_;exact sg rfl (a8 (sg rfl (aA rfl (fun _=>sg rfl (aF rtT)) (fun hb=>by simp[Ty.form] at hb))))
 | con s hs=>
  refine .inr ?_;refine bL (n:=28) tok Tryz.func59 rfl rfl rfl ?_;exact sg rfl (a8 (sg rfl (aA rfl (fun _=>sg rfl (aF rtT)) (fun hb=>by simp[Ty.form] at hb))))
 | @app m k a b ha hb=>
  cases ha with
  | var s hs=>
   refine .inr ?_;refine bL (n:=28) tok Tryz.func59 rfl rfl rfl ?_;exact sg rfl (a8 (sg rfl (aA rfl (fun hb=>by simp[Ty.form] at hb) (fun _=>aD (a8 (sgh [(2,.row 0 (bH (.mk 2 0 s [])))] rfl (aA rfl (fun _=>sg rfl (aF rtT)) (fun hb=>by simp[Ty.form] at hb))))))))
  | con s hs=>
   refine .inr ?_;refine bL (n:=28) tok Tryz.func59 rfl rfl rfl ?_;exact sg rfl (a8 (sg rfl (aA rfl (fun hb=>by simp[Ty.form] at hb) (fun _=>aD (a8 (sgh [(2,.row 0 (bH (.mk 3 0 s [])))] rfl (aA rfl (fun _=>sg rfl (aF rtT)) (fun hb=>by simp[Ty.form] at hb))))))))
  | @app Y k' f q hf O=>
   have run:∀r:Bool,(bif decide (f.form=3) then decide (f.name=arrow) else false)=r→aU Tryz.prog 59 [tyV (.mk 4 0 [] [.mk 4 0 [] [f,q],b])] [] (B r) []:=by
    intro r W;obtain⟨I,fn,fs,J⟩:=f;refine bL (n:=28) tok Tryz.func59 rfl rfl rfl ?_;refine sg rfl (a8 (sg rfl (aA rfl (fun hb=>by simp[Ty.form] at hb) (fun _=>aD (a8 (sgh [(2,.row 0 (bH (.mk 4 0 [] [.mk I fn fs J,q])))] rfl (aA rfl (fun hb=>by simp[Ty.form] at hb) (fun _=>aD (sgh [(2,.row 0 (bH (.mk 4 0 [] [.mk I fn fs J,q]))),(5,.row 0 (bH (.mk I fn fs J)))] rfl (a8 (agF 4 [] rfl rfl rfl ?_)))))))))));subst W;exact aF rtT
   cases hf with
   | var s hs=>exact .inr (run false rfl)
   | con s hs=>
    by_cases h1:s=arrow
    ·subst h1;exact .inl ⟨_,_,q,b,O,hb,by omega,rfl,run true rfl⟩
    ·exact .inr (run false (by simp[Ty.form,Ty.name,h1]))
   | app h1 h2=>exact .inr (run false rfl)
theorem wO {n:Nat}{t:Ty}(h:GT n t) (hn:n≤100000):∃s:Str,(s.length≤16*n∧s=txR t)∧aU Tryz.prog 29 [tyV t,.one (.c .nl)] [] (Go.AM.T s) []:=by
 have hM:1000000000≤maxLen:=by decide
 induction h with
 | var s hs=>
  have hs:=a6z s hs;refine⟨39::s,⟨by rw[Am];omega,(qP s).symm⟩,?_⟩;refine bL (n:=91) tok Tryz.func29 rfl rfl rfl ?_;refine sg rfl (a8 (sg rfl (aC (sg rfl (aA rfl (fun hb=>by simp[Ty.form] at hb) (fun _=>sg rfl (aA rfl (fun _=>a8 (sg rfl (aC (aO (fun _:Unit=>mk [(1,.one (.c .nl)),(2,.one (.vp 2 0)),(5,I .i64 (-1))] [(2,.var 30 ((bH (.mk 2 0 s [])).map R.c))]) (fun _=>True) (fun _=>0) () trivial sl ?_)))) (fun hb=>by simp[Ty.form] at hb))))))));intro _ _;refine a8 (sg rfl (aA rfl (fun hb=>by simp at hb) (fun _=>aM (sg rfl ?_ (hc:=by repeat (first | exact trivial | refine⟨by first | rfl | omega | (simp;omega) | (unfold Ty.name;simp;omega) | (simp;done),?_⟩))))));exact aF rtT
 | con s hs=>
  refine⟨s,⟨by omega,(vG s).symm⟩,?_⟩;refine bL (n:=91) tok Tryz.func29 rfl rfl rfl ?_;exact sg rfl (a8 (sg rfl (aC (sg rfl (aA rfl (fun hb=>by simp[Ty.form] at hb) (fun _=>sg rfl (aA rfl (fun hb=>by simp[Ty.form] at hb) (fun _=>sg rfl (aA rfl (fun _=>sg rfl (aF rtT)) (fun hb=>by simp[Ty.form] at hb))))))))))
 | @app m k a b ha hb q J=>
  obtain⟨s1,⟨h1,O⟩,c1⟩:=q (by omega);obtain⟨s2,⟨h2,W⟩,c2⟩:=J (by omega);refine⟨[40]++s1++[32]++s2++[41],⟨by simp;omega,by rw[vH,O,W]⟩,?_⟩;obtain⟨af,an,Y,Z⟩:=a;obtain⟨bf,bn,sb,ba⟩:=b;refine bL (n:=91) tok Tryz.func29 rfl rfl rfl ?_;refine sg rfl (a8 (sg rfl (aC (sg rfl (aA rfl (fun hb=>by simp[Ty.form] at hb) (fun _=>sg rfl (aA rfl (fun hb=>by simp[Ty.form] at hb) (fun _=>sg rfl (aA rfl (fun hb=>by simp[Ty.form] at hb) (fun _=>sg rfl (aA rfl (fun hb=>by simp[Ty.form] at hb) (fun _=>aD (a8 (a8 (agF 4 [] rfl rfl rfl (aA rfl (fun hb=>by simp[Ty.form,iW,fF] at hb) (fun _=>aD (skh 5 [(2,.row 0 (bH (.mk af an Y Z)))] rfl (kc c1 ?_)))))))))))))))))));refine ak 7 [(10,.row 1 (bH (.mk bf bn sb ba)))] rfl ?_ (hc:=by repeat (first | exact trivial | refine⟨by first | rfl | omega | (simp;omega) | (unfold Ty.name;simp;omega) | (simp;done),?_⟩));refine kc c2 ?_;refine ak 3 [] rfl ?_ (hc:=by repeat (first | exact trivial | refine⟨by first | rfl | omega | (simp;omega) | (unfold Ty.name;simp;omega) | (simp;done),?_⟩));exact az (aF rtT)
theorem a23 {n m:Nat}{a b:Ty}(ha:GT n a) (hb:GT m b) (hn:n≤100000) (hm:m≤100000):∃r:Bool,(r=true→∀V W:List Str,(∀x∈V,x∈tvN)→(∀x∈W,x∈tvN)→TW V a→TW W b→a=b)∧aU Tryz.prog 9 [tyV a,tyV b] [] (B r) []:=by
 obtain⟨s1,⟨h1,q⟩,c1⟩:=wO ha hn;obtain⟨s2,⟨h2,I⟩,c2⟩:=wO hb hm;refine⟨decide (s1=s2),fun h V W hV J ha hb=>?_,?_⟩
 ·have e:txR a++[]=txR b++[]:=by rw[←q,←I,θ h]
  exact(a0p hV J ha hb (r:=[]) (r':=[]) trivial trivial e).1
 obtain⟨af,an,O,Y⟩:=a;obtain⟨Z,bn,sb,ba⟩:=b;refine bL (n:=10) tok Tryz.func9 rfl rfl rfl ?_;refine sg rfl (sk 1 rfl (kc c1 ?_));refine ak 1 [] rfl (kc c2 ?_);exact kz 2 rfl (aF rtT)
theorem aYm (L:List (Str×Ty)) (i:Nat) (hi:i<L.length) (hl:L.length≤1000000):∃r:Bool,(r=true→∀(j:Nat) (x y:Str×Ty),L[i]?=some x→i<j→L[j]?=some y→¬y.1=x.1)∧aU Tryz.prog 108 [.one (.c (.sl 5 (L.map uD))),I .i64 i] [] (B r) []:=by
 obtain⟨x,hx⟩:=aL hi;have Z:=bM uD hx;have q:(L.map uD).length=L.length:=ζ _;refine⟨@decide (∀(j:Nat) (y:Str×Ty),i<j→L[j]?=some y→¬y.1=x.1) (Classical.propDecidable _),fun h j x' y h0 h1 h2=>?_,?_⟩
 ·rw[hx] at h0;cases h0;exact(@of_decide_eq_true _ (Classical.propDecidable _) h) j y h1 h2
 generalize W: @decide (∀(j:Nat) (y:Str×Ty),i<j→L[j]?=some y→¬y.1=x.1) (Classical.propDecidable _)=r;refine bL (n:=25) tok Tryz.func108 rfl rfl rfl ?_;refine sg rfl (a8 (a8 (agN [] rfl ?_ (hc:=by repeat (first | exact trivial | refine⟨by first | rfl | omega | (simp;omega) | (unfold Ty.name;simp;omega) | (simp;done),?_⟩)))));refine aC (aO (fun k:Nat=>mk [(0,.one (.c (.sl 5 (L.map uD)))),(1,I .i64 i),(4,B false),(5,I .i64 k)] []) (fun k=>i<k∧k≤L.length∧∀(j:Nat) (y:Str×Ty),i<j→j<k→L[j]?=some y→¬y.1=x.1) (fun k=>L.length-k) (i+1) ⟨by omega,by omega,fun j y h1 h2=>by omega⟩ sl ?_);intro k ⟨h1,h2,h3⟩;refine a8 (sg rfl (aA rfl (fun hb=>?_) (fun hb=>?_)))
 ·have J:=ltD hb q;obtain⟨y,O⟩:=aL J;have aa:=bM uD O;refine aD (a8 (aC (sgh [(2,.row k (uD y)),(7,.row i (uD x))] rfl (aA rfl (fun hb=>?_) (fun hb=>?_)))))
  ·have he:y.1=x.1:=by simpa using hb
   refine sg rfl ?_;have:r=false:=by
    rw[←W];simp only[B7];exact fun h=>h k y h1 O he
   rw[this];exact aF rtT
  ·have he:¬y.1=x.1:=by simpa using hb
   refine aD (ag [] rfl ⟨k+1,⟨by omega,J,fun j z g1 g2 g3=>?_⟩,by dsimp only;omega,sl⟩);by_cases Y:j=k
   ·rw[Y,O,Option.some.injEq] at g3;rw[←g3];exact he
   ·exact h3 j z g1 (by omega) g3
 ·have ab:=geD hb q h2;refine aM (sg rfl ?_);have:r=true:=by
   rw[←W];simp only[Bu];exact fun j y g1 g2=>h3 j y g1 (by have:=(τ.1 g2).1;omega) g2
  rw[this];exact aF rtT
theorem aIb (l:List Int) (left:Int) (v:Gv) (h:Ok l):∃(s:Str) (l':List Int),s∈nmL∧Ok l'∧aU Tryz.prog 52 [.one (.vp 700 0),.pa (zB v)] (mO l left) (Go.AM.T s) (mO l' left):=by
 obtain⟨i,l',hi,q,hc⟩:=jX l left 5 (by decide) h;have hi:i<5:=by omega
 obtain⟨s,hs⟩:∃s,([[120],[121],[122,64,49],[97],[98]]:List Str)[i]?=some s:=aL (by simpa using hi);have I:=bM bC hs;refine⟨s,l',?_,q,?_⟩
 ·have:i=0∨i=1∨i=2∨i=3∨i=4:=by omega
  rcases this with rfl | rfl | rfl | rfl | rfl<;>(simp at hs;subst hs;decide)
 ·refine bL (n:=10) tok Tryz.func52 rfl rfl rfl ?_;refine sg rfl (sk 2 rfl (kc hc ?_));exact ak 3 [(3,.row i []),(4,.row i (bC s))] rfl (az (aF rtT))
def a48 (l:List Str):V:=.one (.c (.sl 1 (l.map bC)))
def Sh8 (l:List Str):Prop:=∀s∈l,s∈tvN
def tsz:Nat→Nat
 | 0=>1
 | f+1=>2*tsz f+3
def aZp (vars:List Str) (dp:Int) (m:Nat):Prop:=∀(l:List Int) (left:Int),Ok l→
  ∃(t:Ty) (l':List Int) (n:Nat),GTW vars n t∧n≤m∧Ok l'∧aU Tryz.prog 22 [.one (.vp 700 0),a48 vars,I .i64 dp] (mO l left) (tyV t) (mO l' left)
theorem GT.nm {s:Str}(h:s.length≤8):GT 1 (.mk 3 0 s []):=.con s h
theorem aFw (vars:List Str) (hv:Sh8 vars) (hvl:vars.length≤1000000) (q:Int) (h0:0≤q) (hd3:q≤3) (m M:Nat) (h1:1≤M) (hM:q≤2→2*m+3≤M) (ih:q≤2→aZp vars (q+1) m):aZp vars q M:=by
 intro l left h;obtain⟨i,l1,hi,O,hc⟩:=jX l left 8 (by decide) h;have hi:i<8:=by omega
 have hvk:(vars.map bC).length=vars.length:=ζ _;by_cases hA:5<i∧0<vars.length
 ·obtain⟨j,Y,hj,I,hc2⟩:=jX l1 left vars.length (by omega) O;have hj:j<vars.length:=by omega
  obtain⟨x,hx⟩:=aL hj;have hx':=bM bC hx;refine⟨.mk 2 0 x [],Y,1,⟨.var x (hv x (δ hx)),.var (δ hx)⟩,by omega,I,?_⟩;refine bL (n:=68) tok Tryz.func22 rfl rfl rfl ?_;refine sg rfl (sk 1 rfl (kc hc ?_));refine kz 1 rfl (a8 (a8 (agF 3 [] rfl rfl rfl ?_)));have g1:(5:Int)<i:=by omega
  have g2:(0:Int)<((vars.map bC).length:Nat):=by omega
  refine aA rfl (fun _=>sk 4 rfl ?_) (fun hb=>by rw[Af g1,Af g2] at hb;cases hb);rw[←hvk] at hc2;refine kc hc2 ?_;exact ak 4 [(5,.row j (bC x))] rfl (az (aF (rtC trw)))
 ·by_cases hB:i<3∨2<q
  ·have W:∃(k:Nat) (t:Ty),k<2∧(i:Int)%2=k∧GTW vars 1 t∧[bH iZ,bH iE][k]?=some (bH t):=by
    have:i%2=0∨i%2=1:=by omega
    rcases this with e | e
    ·exact⟨0,iZ,by omega,by omega,⟨.con _ (by decide),.int⟩,rfl⟩
    ·exact⟨1,iE,by omega,by omega,⟨.con _ (by decide),.bool⟩,rfl⟩
   obtain⟨k,t,hk,hik,ht,W⟩:=W;refine⟨t,l1,1,ht,by omega,O,?_⟩;obtain⟨tf,tn,ts,ta⟩:=t;refine bL (n:=68) tok Tryz.func22 rfl rfl rfl ?_;refine sg rfl (sk 1 rfl (kc hc ?_));refine kz 1 rfl (a8 (a8 (agF 3 [] rfl rfl rfl (aA rfl (fun hb=>by simp at hb;omega) (fun _=>aD (a8 (a8 (agF 3 [] rfl rfl rfl (aA rfl (fun _=>a8 (aE mixed (kc (iK [73,110,116]) ?_))) (fun hb=>by simp at hb;omega))))))))));refine kc (iK [66,111,111,108]) ?_;exact ak 6 [(5,.row k []),(6,.row k (bH (.mk tf tn ts ta)))] rfl (az (aF (rtC trw)))
  ·have hM:=hM (by omega);obtain⟨⟨af,an,Z,aa⟩,Y,na,J,hna,I,ca⟩:=ih (by omega) l1 left O;by_cases hC:i=3
   ·refine⟨.mk 4 0 [] [.mk 3 0 [76] [],.mk af an Z aa],Y,1+na+1,⟨.app (.nm (by decide)) J.g,.lst J.w⟩,by omega,I,?_⟩;refine bL (n:=68) tok Tryz.func22 rfl rfl rfl ?_;refine sg rfl (sk 1 rfl (kc hc ?_));refine kz 1 rfl (a8 (a8 (agF 3 [] rfl rfl rfl (aA rfl (fun hb=>by simp at hb;omega) (fun _=>aD (a8 (a8 (agF 3 [] rfl rfl rfl (aA rfl (fun hb=>by simp at hb;omega) (fun _=>aD (sk 4 rfl ?_ (hc:=by repeat (first | exact trivial | refine⟨by first | rfl | omega | (simp;omega) | (unfold Ty.name;simp;omega) | (simp;done),?_⟩)))))))))))));refine kc ca ?_;refine kz 2 rfl (a8 (sg rfl (aA rfl (fun _=>a8 (aE mixed (kc (iK [76]) ?_))) (fun hb=>by simp at hb;omega))));refine kz 4 rfl (AWp.sub (Sub.freeze (id:=49) rfl) ?_);exact aF (rtC trw)
   ·obtain⟨⟨bf,bn,sb,ba⟩,l3,nb,gb,hnb,hl3,cb⟩:=ih (by omega) Y left I;by_cases hD:i=4
    ·refine⟨eE (.mk af an Z aa) (.mk bf bn sb ba),l3,na+nb+3,⟨J.g.fn gb.g,.fn J.w gb.w⟩,by omega,hl3,?_⟩;refine bL (n:=68) tok Tryz.func22 rfl rfl rfl ?_;refine sg rfl (sk 1 rfl (kc hc ?_));refine kz 1 rfl (a8 (a8 (agF 3 [] rfl rfl rfl (aA rfl (fun hb=>by simp at hb;omega) (fun _=>aD (a8 (a8 (agF 3 [] rfl rfl rfl (aA rfl (fun hb=>by simp at hb;omega) (fun _=>aD (sk 4 rfl ?_ (hc:=by repeat (first | exact trivial | refine⟨by first | rfl | omega | (simp;omega) | (unfold Ty.name;simp;omega) | (simp;done),?_⟩)))))))))))));refine kc ca ?_;refine kz 2 rfl (a8 (sg rfl (aA rfl (fun hb=>by simp at hb;omega) (fun _=>aD (sk 4 rfl ?_ (hc:=by repeat (first | exact trivial | refine⟨by first | rfl | omega | (simp;omega) | (unfold Ty.name;simp;omega) | (simp;done),?_⟩)))))));refine kc cb ?_;refine kz 2 rfl (a8 (sg rfl (aA rfl (fun _=>sk 2 rfl (kc (v7 (.mk af an Z aa) (.mk bf bn sb ba)) ?_)) (fun hb=>by simp at hb;omega))));exact kz 1 rfl (aF (rtC trw))
    ·refine⟨.mk 4 0 [] [.mk 4 0 [] [.mk 3 0 [80] [],.mk af an Z aa],.mk bf bn sb ba],l3,1+na+1+nb+1,⟨.app (.app (.nm (by decide)) J.g) gb.g,.pr J.w gb.w⟩,by omega,hl3,?_⟩;refine bL (n:=68) tok Tryz.func22 rfl rfl rfl ?_;refine sg rfl (sk 1 rfl (kc hc ?_));refine kz 1 rfl (a8 (a8 (agF 3 [] rfl rfl rfl (aA rfl (fun hb=>by simp at hb;omega) (fun _=>aD (a8 (a8 (agF 3 [] rfl rfl rfl (aA rfl (fun hb=>by simp at hb;omega) (fun _=>aD (sk 4 rfl ?_ (hc:=by repeat (first | exact trivial | refine⟨by first | rfl | omega | (simp;omega) | (unfold Ty.name;simp;omega) | (simp;done),?_⟩)))))))))))));refine kc ca ?_;refine kz 2 rfl (a8 (sg rfl (aA rfl (fun hb=>by simp at hb;omega) (fun _=>aD (sk 4 rfl ?_ (hc:=by repeat (first | exact trivial | refine⟨by first | rfl | omega | (simp;omega) | (unfold Ty.name;simp;omega) | (simp;done),?_⟩)))))));refine kc cb ?_;refine kz 2 rfl (a8 (sg rfl (aA rfl (fun hb=>by simp at hb;omega) (fun _=>aD (a8 (aE mixed (kc (iK [80]) ?_)))))));exact ak 7 [(2,.all),(5,.all)] rfl (az (aF (rtC trw)))
theorem aK6:∀f,1≤tsz f
 | 0=>le_refl _
 | f+1=>by rw[tsz];omega
theorem zF (vars:List Str) (J:Sh8 vars) (I:vars.length≤1000000):∀(f:Nat) (q:Int),q+f=3→0≤q→aZp vars q (tsz f)
 | 0,q,hd,h0=>aFw vars J I q h0 (by omega) 0 (tsz 0) (aK6 0) (fun h=>by omega) (fun h=>by omega)
 | f+1,q,hd,h0=>aFw vars J I q h0 (by omega) (tsz f) (tsz (f+1)) (aK6 _) (fun _=>le_refl _) (fun _=>zF vars J I f (q+1) (by omega) (by omega))
end Go.Proofs.YtglfogjcijokpaaGreatDoor
