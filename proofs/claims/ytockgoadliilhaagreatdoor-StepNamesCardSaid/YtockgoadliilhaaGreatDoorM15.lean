/-
  Texts Lt5 to Lh2 in one.
-/
import Derived.Test.YtockgoadliilhaaGreatDoorM14
open List (append_assoc append_nil flatMap_append flatMap_cons flatMap_nil length_append length_cons length_eq_one_iff length_map length_nil length_take map_append map_map mem_append mem_cons mem_cons_of_mem mem_cons_self mem_map mem_of_mem_take mem_singleton take_add_one take_succ_cons take_zero)
open Nat (le_refl le_trans mul_add zero_le)
namespace Go.Proofs.YtockgoadliilhaaGreatDoor
open Go Go.AM
set_option maxRecDepth 20000
def pos (left:Int):Int:=((left-1).toNat:Int)
def r4 (F:Int):Prop:=∀(v:Gv) (t:Ty) (n:Nat) (l:List Int) (left:Int),Gok v→7≤v.deep+F→v.deep≤8→GT n t→(n:Int)≤33+8*v.deep→Ok l→left≤100→ -1000≤left-3*pos left→
 ∃(c:Core) (l':List Int) (left':Int) (m:Nat),GC (nmG v) m c∧Ok l'∧(left'≤left∧left-3*pos left-1≤left'-3*pos left'∧(m:Int)+4100*pos left'≤2000+4100*pos left)∧
  aU Tryz.prog 27 [.one (.vp 700 0),.pa (xR v),tyV t] (mO l left) (.pa (aB c)) (mO l' left')
theorem aUr (F:Int) (hS:r4 F) (v:Gv) (t:Ty) (n:Nat) (l:List Int) (left:Int) (hv:Gok v) (hF:7≤v.deep+1+F) (hd:v.deep≤6) (hg:GT n t) (hn:(n:Int)≤33+8*v.deep) (hl:Ok l) (hle:left≤100) (hlo: -1000≤left-3*pos left-2):
  ∃(c:Core) (l':List Int) (J:Int) (m:Nat),GC (nmG v) m c∧Ok l'∧(J≤left∧left-3*pos left-3≤J-3*pos J∧(m:Int)+4100*pos J≤6050+4100*pos left)∧
   aU Tryz.prog 62 [.one (.vp 700 0),.pa (xR v),tyV t] (mO l left) (.pa (aB c)) (mO l' J):=by
 have h0:=hv.d0;have hlen:=hv.len;have hvlen:=hv.vlen;obtain⟨tf,tn,ts,q⟩:=t;obtain⟨i,l1,hi,hl1,cN⟩:=jI l left 4 (by decide) hl;have more:∀(v:Gv) (s:Str) (u:Ty) (k:Nat),Gok v→0≤v.deep→v.deep≤8→GT k u→k≤100→(s=[]∨s∈nm6)→Gok (dI v s u)∧aU Tryz.prog 60 [.pa (xR v),Go.AM.T s,tyV u] [] (.pa (xR (dI v s u))) []:=fun v s u k h h0 h8 hu hk hs=>by
  have:=h.len;exact⟨h.more hs hu hk,xX v s u (by omega) ⟨h0,by omega⟩⟩
 obtain⟨N,cM⟩:=more v [] (.mk tf tn ts q) n hv h0 (by omega) hg (by omega) (.inl rfl);have hd1:(dI v [] (.mk tf tn ts q)).deep=v.deep+1:=rfl;by_cases h1:i=0
 ·subst h1;obtain⟨O,l2,le2,m1,g1,hl2,⟨b1,b1',b1''⟩,cS1⟩:=hS (dI v [] (.mk tf tn ts q)) aTb 1 l1 left N (by omega) (by omega) (.con _ (by decide)) (by omega) hl1 hle (by omega);obtain⟨I,l3,le3,m2,g2,hl3,⟨b2,b2',b2''⟩,cS2⟩:=hS (dI v [] (.mk tf tn ts q)) (.mk tf tn ts q) n l2 le2 N (by omega) (by omega) hg (by omega) hl2 (by omega) (by omega);obtain⟨Z,l4,le4,m3,g3,hl4,⟨b3,b3',b3''⟩,cS3⟩:=hS (dI v [] (.mk tf tn ts q)) (.mk tf tn ts q) n l3 le3 N (by omega) (by omega) hg (by omega) hl3 (by omega) (by omega);refine⟨.mk 9 0 [] (.mk tf tn ts q) [O] [] [.mk 1 0 [84,114,117,101] [] I,.mk 1 0 [70,97,108,115,101] [] Z],l4,le4,m1+m2+m3+40,.case2 hg (by omega) g1.less g2.less0 g3.less0 (by decide) (by decide) (by decide) (by simp) (by decide) (.inl rfl) (by decide) (by decide) (by decide) (by simp) (by decide) (.inl rfl),hl4,⟨by omega,by omega,by omega⟩,?_⟩;refine bO (n:=152) tok Tryz.func62 rfl rfl rfl ?_;refine sg rfl (sg rfl (a8 (sk 1 rfl (kc cN ?_))));refine az (aC (sg rfl (aA rfl (fun _=>sk 3 rfl (kc cM ?_)) nofun)));refine kc (hJ [66,111,111,108]) ?_;refine kc cS1 ?_;refine ak 3 [(6,.all)] rfl (az (aE mixed (ak 3 [] rfl (kc cM ?_))));refine ak 1 [] rfl (kc cS2 ?_);refine ak 4 [] rfl (kc cM ?_);refine ak 1 [] rfl (kc cS3 ?_);refine kz 4 rfl (AWp.sub (Sub.freeze (id:=76) rfl) ?_);refine AWp.sub (aw 76 ([.mk 1 0 [84,114,117,101] [] I,.mk 1 0 [70,97,108,115,101] [] Z].map c7)) ?_;refine AWp.sub (vp 7 (aB (.mk 9 0 [] (.mk tf tn ts q) [O] [] [.mk 1 0 [84,114,117,101] [] I,.mk 1 0 [70,97,108,115,101] [] Z]))) ?_;exact sg rfl (aI (rtC trw))
 by_cases h2:i=1
 ·subst h2;obtain⟨O,l2,le2,m1,g1,hl2,⟨b1,b1',b1''⟩,cS1⟩:=hS (dI v [] (.mk tf tn ts q)) aH4 1 l1 left N (by omega) (by omega) (.con _ (by decide)) (by omega) hl1 hle (by omega);obtain⟨j,l2b,hj,hl2b,cJ⟩:=jI l2 le2 5 (by decide) hl2;obtain⟨I,l3,le3,m2,g2,hl3,⟨b2,b2',b2''⟩,cS2⟩:=hS (dI v [] (.mk tf tn ts q)) (.mk tf tn ts q) n l2b le2 N (by omega) (by omega) hg (by omega) hl2b (by omega) (by omega);obtain⟨Z,l4,le4,m3,g3,hl4,⟨b3,b3',b3''⟩,cS3⟩:=hS (dI v [] (.mk tf tn ts q)) (.mk tf tn ts q) n l3 le3 N (by omega) (by omega) hg (by omega) hl3 (by omega) (by omega);refine⟨.mk 9 0 [] (.mk tf tn ts q) [O] [] [.mk 2 ((j:Int)-1) [] [] I,.mk 3 0 [] [] Z],l4,le4,m1+m2+m3+40,.case2 hg (by omega) g1.less g2.less0 g3.less0 (by decide) (by omega) (by decide) (by simp) (by decide) (.inr rfl) (by decide) (by decide) (by decide) (by simp) (by decide) (.inr rfl),hl4,⟨by omega,by omega,by omega⟩,?_⟩;refine bO (n:=152) tok Tryz.func62 rfl rfl rfl ?_;refine sg rfl (sg rfl (a8 (sk 1 rfl (kc cN ?_))));refine az (aC (sg rfl (aA rfl nofun (fun _=>sg rfl (aA rfl (fun _=>sk 3 rfl (kc cM ?_)) nofun)))));refine kc (hJ [73,110,116]) ?_;refine kc cS1 ?_;refine ak 3 [(6,.all)] rfl (az (aE mixed (ak 1 [] rfl (kc cJ ?_))));refine ak 4 [] rfl ?_ (hc:=by repeat (first | exact trivial | refine⟨by first | rfl | omega | (simp;omega) | (unfold Ty.name;simp;omega) | (simp;done),?_⟩));refine kc cM ?_;refine ak 1 [] rfl (kc cS2 ?_);refine ak 4 [] rfl (kc cM ?_);refine ak 1 [] rfl (kc cS3 ?_);refine kz 4 rfl (AWp.sub (Sub.freeze (id:=105) rfl) ?_);refine AWp.sub (aw 105 ([.mk 2 ((j:Int)-1) [] [] I,.mk 3 0 [] [] Z].map c7)) ?_;refine AWp.sub (vp 7 (aB (.mk 9 0 [] (.mk tf tn ts q) [O] [] [.mk 2 ((j:Int)-1) [] [] I,.mk 3 0 [] [] Z]))) ?_;exact sg rfl (aI (rtC trw))
 by_cases h3:i=2
 ·subst h3;obtain⟨⟨W,un,us,Y⟩,l2,k,gu,hk,hl2,cU⟩:=xS v.vars hv.vars (by omega) 1 2 (by omega) (by omega) l1 left hl1;have hk:k≤5:=hk;have gL:GT (1+k+1) (.mk 4 0 [] [.mk 3 0 [76] [],(.mk W un us Y)]):=.app (.nm (by decide)) gu;obtain⟨O,l3,le3,m1,g1,hl3,⟨b1,b1',b1''⟩,cS1⟩:=hS (dI v [] (.mk tf tn ts q)) (.mk 4 0 [] [.mk 3 0 [76] [],(.mk W un us Y)]) _ l2 left N (by omega) (by omega) gL (by omega) hl2 hle (by omega);obtain⟨hvx,cX⟩:=more v [120] (.mk W un us Y) k hv h0 (by omega) gu (by omega) (.inr (by decide));obtain⟨hvy,cY⟩:=more (dI v [120] (.mk W un us Y)) [121] (.mk 4 0 [] [.mk 3 0 [76] [],(.mk W un us Y)]) _ hvx (by show 0≤v.deep+1;omega) (by show v.deep+1≤8;omega) gL (by omega) (.inr (by decide));have hdy:(dI (dI v [120] (.mk W un us Y)) [121] (.mk 4 0 [] [.mk 3 0 [76] [],(.mk W un us Y)])).deep=v.deep+1+1:=rfl;obtain⟨I,l4,le4,m2,g2,hl4,⟨b2,b2',b2''⟩,cS2⟩:=hS _ (.mk tf tn ts q) n l3 le3 hvy (by omega) (by omega) hg (by omega) hl3 (by omega) (by omega);obtain⟨Z,l5,le5,m3,g3,hl5,⟨b3,b3',b3''⟩,cS3⟩:=hS (dI v [] (.mk tf tn ts q)) (.mk tf tn ts q) n l4 le4 N (by omega) (by omega) hg (by omega) hl4 (by omega) (by omega);obtain⟨j,l6,hj,hl6,cJ⟩:=jI l5 le5 3 (by decide) hl5;have walk:∀c:Core,c=(if j=0 then .mk 9 0 [] (.mk tf tn ts q) [O] [] [.mk 1 0 [67] [[120],[121]] I] else .mk 9 0 [] (.mk tf tn ts q) [O] [] [.mk 1 0 [67] [[120],[121]] I,.mk 1 0 [78] [] Z])→aU Tryz.prog 62 [.one (.vp 700 0),.pa (xR v),tyV (.mk tf tn ts q)] (mO l left) (.pa (aB c)) (mO l6 le5):=by
   intro c hc;refine bO (n:=152) tok Tryz.func62 rfl rfl rfl ?_;refine sg rfl (sg rfl (a8 (sk 1 rfl (kc cN ?_))));refine az (aC (sg rfl (aA rfl nofun (fun _=>sg rfl (aA rfl nofun (fun _=>sg rfl (aA rfl (fun _=>sk 3 rfl (kc cU ?_)) nofun)))))));refine kz 2 rfl (a8 (aE mixed (kc (hJ [76]) ?_)));refine ak 5 [(2,.all)] rfl (az (sk 3 rfl (kc cM ?_)));refine ak 1 [] rfl (kc cS1 ?_);refine ak 3 [(6,.all)] rfl (az (skh 4 [(0,.all)] rfl (kc cX ?_)));refine ak 1 [] rfl (kc cY ?_);refine ak 1 [] rfl (kc cS2 ?_);refine ak 4 [] rfl (kc cM ?_);refine ak 1 [] rfl (kc cS3 ?_);refine kz 4 rfl (AWp.sub (Sub.freeze (id:=142) rfl) ?_);refine AWp.sub (aw 142 ([.mk 1 0 [67] [[120],[121]] I,.mk 1 0 [78] [] Z].map c7)) ?_;refine AWp.sub (vp 7 (aB (.mk 9 0 [] (.mk tf tn ts q) [O] [] [.mk 1 0 [67] [[120],[121]] I,.mk 1 0 [78] [] Z]))) ?_;refine sk 1 rfl (kc cJ ?_);refine kz 1 rfl (aA rfl (fun hb=>?_) (fun hb=>?_))
   ·have hj0:j=0:=by have:=ψ hb;omega
    rw[ξ hj0] at hc;subst hc;exact ag [] rfl (sg rfl (aI (rtC trw))) (hc:=⟨by rw[aCy];simp[Core.alts],by decide,trivial⟩)
   ·have hj0:¬j=0:=by have:=δ hb;omega
    rw[φ hj0] at hc;subst hc;exact aD (sg rfl (aI (rtC trw)))
  by_cases hj0:j=0
  ·refine⟨.mk 9 0 [] (.mk tf tn ts q) [O] [] [.mk 1 0 [67] [[120],[121]] I],l6,le5,m1+m2+20,.case1 hg (by omega) g1.less g2.in2 (by decide) (by decide) (by decide) (by decide) (by decide) (.inl rfl),hl6,⟨by omega,by omega,by omega⟩,walk _ (by rw[ξ hj0])⟩
  ·refine⟨.mk 9 0 [] (.mk tf tn ts q) [O] [] [.mk 1 0 [67] [[120],[121]] I,.mk 1 0 [78] [] Z],l6,le5,m1+m2+m3+40,.case2 hg (by omega) g1.less g2.in2 g3.less0 (by decide) (by decide) (by decide) (by decide) (by decide) (.inl rfl) (by decide) (by decide) (by decide) (by simp) (by decide) (.inl rfl),hl6,⟨by omega,by omega,by omega⟩,walk _ (by rw[φ hj0])⟩
 obtain⟨⟨W,un,us,Y⟩,l2,k,gu,hk,hl2,cU⟩:=xS v.vars hv.vars (by omega) 1 2 (by omega) (by omega) l1 left hl1;have hk:k≤5:=hk;obtain⟨⟨wf,wn,ws,wa⟩,l2b,kw,gw,hkw,hl2b,cW⟩:=xS v.vars hv.vars (by omega) 1 2 (by omega) (by omega) l2 left hl2;have hkw:kw≤5:=hkw;have gL:GT (1+k+1+kw+1) (.mk 4 0 [] [.mk 4 0 [] [.mk 3 0 [80] [],(.mk W un us Y)],(.mk wf wn ws wa)]):=.app (.app (.nm (by decide)) gu) gw;obtain⟨O,l3,le3,m1,g1,hl3,⟨b1,b1',b1''⟩,cS1⟩:=hS (dI v [] (.mk tf tn ts q)) (.mk 4 0 [] [.mk 4 0 [] [.mk 3 0 [80] [],(.mk W un us Y)],(.mk wf wn ws wa)]) _ l2b left N (by omega) (by omega) gL (by omega) hl2b hle (by omega);obtain⟨hvx,cX⟩:=more v [121] (.mk W un us Y) k hv h0 (by omega) gu (by omega) (.inr (by decide));obtain⟨hvy,cY⟩:=more (dI v [121] (.mk W un us Y)) [97] (.mk wf wn ws wa) kw hvx (by show 0≤v.deep+1;omega) (by show v.deep+1≤8;omega) gw (by omega) (.inr (by decide));have hdy:(dI (dI v [121] (.mk W un us Y)) [97] (.mk wf wn ws wa)).deep=v.deep+1+1:=rfl;obtain⟨I,l4,le4,m2,g2,hl4,⟨b2,b2',b2''⟩,cS2⟩:=hS _ (.mk tf tn ts q) n l3 le3 hvy (by omega) (by omega) hg (by omega) hl3 (by omega) (by omega);refine⟨.mk 9 0 [] (.mk tf tn ts q) [O] [] [.mk 1 0 [80] [[121],[97]] I],l4,le4,m1+m2+20,.case1 hg (by omega) g1.less g2.in2 (by decide) (by decide) (by decide) (by decide) (by decide) (.inl rfl),hl4,⟨by omega,by omega,by omega⟩,?_⟩;refine bO (n:=152) tok Tryz.func62 rfl rfl rfl ?_;refine sg rfl (sg rfl (a8 (sk 1 rfl (kc cN ?_))));refine az (aC (sg rfl (aA rfl (fun hb=>absurd (by have:=ψ hb;omega) h1) (fun _=>sg rfl (aA rfl (fun hb=>absurd (by have:=ψ hb;omega) h2) (fun _=>sg rfl (aA rfl (fun hb=>absurd (by have:=ψ hb;omega) h3) (fun _=>sk 3 rfl (kc cU ?_)))))))));refine kz 2 rfl (sk 3 rfl (kc cW ?_));refine kz 2 rfl (a8 (aE mixed (kc (hJ [80]) ?_)));refine ak 8 [(2,.all),(5,.all)] rfl (az (sk 3 rfl (kc cM ?_)));refine ak 1 [] rfl (kc cS1 ?_);refine ak 3 [(6,.all)] rfl (az (aE mixed (ak 4 [(0,.all)] rfl (kc cX ?_))));refine ak 1 [] rfl (kc cY ?_);refine ak 1 [] rfl (kc cS2 ?_);refine ak 4 [(10,.all)] rfl (az (AWp.sub (vp 7 (aB (.mk 9 0 [] (.mk tf tn ts q) [O] [] [.mk 1 0 [80] [[121],[97]] I]))) ?_));exact sg rfl (aI (rtC trw))
set_option maxHeartbeats 4000000
theorem yP (F:Int) (hS:0≤F→r4 F):r4 (F+1):=by
 intro v t n l left hv hF hd hg hn hl hle hlo;have hM:1000000000≤maxLen:=by decide
 have h0:=hv.d0;have hlen:=hv.len;have hvlen:=hv.vlen;have hp0:0≤pos left:=by unfold pos;omega
 by_cases hlf:left-1<1∨6<v.deep
 ·obtain⟨c,l',m,gc,hm,hl',cL⟩:=aF3 n n t (le_refl _) hg (by omega) v l (left-1) hv (by omega) hl;have hp1:pos (left-1)≤pos left∧pos left≤pos (left-1)+1:=by unfold pos;omega
  refine⟨c,l',left-1,m,gc,hl',⟨by omega,by unfold pos at *;omega,by omega⟩,?_⟩;refine bO (n:=374) tok Tryz.func27 rfl rfl rfl ?_;refine sg rfl (sg rfl ?_ (hc:=by repeat (first | exact trivial | refine⟨by first | rfl | omega | (simp;omega) | (unfold Ty.name;simp;omega) | (simp;done),?_⟩)));refine a8 (a8 (agF 6 [] rfl rfl rfl (aA rfl (fun _=>sk 3 rfl (kc cL ?_)) (fun hb=>absurd hlf (by simpa using hb)))));exact kz 1 rfl (aI (rtC trw))
 have hF0:0≤F:=by omega
 have hps:pos (left-1)=pos left-1:=by unfold pos;omega
 have hp1:0≤pos (left-1):=by unfold pos;omega
 have more:∀(v:Gv) (s:Str) (u:Ty) (k:Nat),Gok v→0≤v.deep→v.deep≤8→GT k u→k≤100→(s=[]∨s∈nm6)→Gok (dI v s u)∧aU Tryz.prog 60 [.pa (xR v),Go.AM.T s,tyV u] [] (.pa (xR (dI v s u))) []:=fun v s u k h h0 h8 hu hk hs=>by
  have:=h.len;exact⟨h.more hs hu hk,xX v s u (by omega) ⟨h0,by omega⟩⟩
 obtain⟨hv1,cM⟩:=more v [] t n hv h0 (by omega) hg (by omega) (.inl rfl);have hd1:(dI v [] t).deep=v.deep+1:=rfl;obtain⟨i,l1,hi,hl1,cN⟩:=jI l (left-1) 12 (by decide) hl;by_cases hi0:i=0
 ·obtain⟨u,O,k,gu,hk,J,cU⟩:=xS v.vars hv.vars (by omega) 2 1 (by omega) (by omega) l1 (left-1) hl1;have hk:k≤13:=hk;obtain⟨s,l3,hs,aa,cNm⟩:=aF2 O (left-1) v J;have hs6:s∈nm6:=χ.2 (.inl hs);obtain⟨hvs,cMs⟩:=more v s u k hv h0 (by omega) gu (by omega) (.inr hs6);have hds:(dI v s u).deep=v.deep+1:=rfl;obtain⟨Z,l4,N,m1,g1,Y,⟨b1,b1',b1''⟩,ac⟩:=hS (by omega) (dI v s u) t n l3 (left-1) hvs (by omega) (by omega) hg (by omega) aa (by omega) (by omega);obtain⟨W,l5,ad,m2,g2,hl5,⟨b2,b2',b2''⟩,ab⟩:=hS (by omega) (dI v [] t) u k l4 N hv1 (by omega) (by omega) gu (by omega) Y (by omega) (by omega);have cA:=gG (.mk 5 0 s u [Z] [] []) W;refine⟨.mk 4 0 [] zTy [.mk 5 0 s u [Z] [] [],W] [] [],l5,ad,m1+4+m2+1,.app (.lam hs6 gu (by omega) g1.within) g2.less,hl5,⟨by omega,by omega,by omega⟩,?_⟩;refine bO (n:=374) tok Tryz.func27 rfl rfl rfl ?_;refine sg rfl (sg rfl ?_ (hc:=by repeat (first | exact trivial | refine⟨by first | rfl | omega | (simp;omega) | (unfold Ty.name;simp;omega) | (simp;done),?_⟩)));refine a8 (a8 (agF 6 [] rfl rfl rfl (aA rfl (fun hb=>absurd (by simpa using hb) hlf) (fun _=>aD (a8 (sk 1 rfl (kc cN ?_)))))));refine az (aC (sg rfl (aA rfl (fun _=>sk 3 rfl (kc (cU) ?_)) (fun hb=>absurd (δ hb) (by omega)))));refine kz 2 rfl (sk 2 rfl (kc (cNm) ?_));refine kz 1 rfl (sk 6 rfl (kc (cMs) ?_));refine ak 1 [] rfl (kc (ac) ?_);refine ak 4 [(9,.all)] rfl (az (AWp.sub (vp 9 (aB (.mk 5 0 s u [Z] [] []))) ?_));refine sk 4 rfl (kc (cM) ?_);refine ak 1 [] rfl (kc (ab) ?_);refine kc (cA) ?_;exact kz 1 rfl (aI (rtC trw))
 by_cases hi1:i=1
 ·obtain⟨u,O,k,gu,hk,J,cU⟩:=xS v.vars hv.vars (by omega) 2 1 (by omega) (by omega) l1 (left-1) hl1;have hk:k≤13:=hk;obtain⟨s,l3,hs,aa,cNm⟩:=aF2 O (left-1) v J;have hs6:s∈nm6:=χ.2 (.inl hs);obtain⟨hvs,cMs⟩:=more v s u k hv h0 (by omega) gu (by omega) (.inr hs6);have hds:(dI v s u).deep=v.deep+1:=rfl;obtain⟨Z,l4,N,m1,g1,Y,⟨b1,b1',b1''⟩,ac⟩:=hS (by omega) (dI v s u) u k l3 (left-1) hvs (by omega) (by omega) gu (by omega) aa (by omega) (by omega);obtain⟨W,l5,ad,m2,g2,hl5,⟨b2,b2',b2''⟩,ab⟩:=hS (by omega) (dI v s u) t n l4 N hvs (by omega) (by omega) hg (by omega) Y (by omega) (by omega);refine⟨.mk 8 0 [] zTy [W] [.mk s u Z] [],l5,ad,m2+m1+5,.lt hs6 gu (by omega) g2.within g1.within,hl5,⟨by omega,by omega,by omega⟩,?_⟩;refine bO (n:=374) tok Tryz.func27 rfl rfl rfl ?_;refine sg rfl (sg rfl ?_ (hc:=by repeat (first | exact trivial | refine⟨by first | rfl | omega | (simp;omega) | (unfold Ty.name;simp;omega) | (simp;done),?_⟩)));refine a8 (a8 (agF 6 [] rfl rfl rfl (aA rfl (fun hb=>absurd (by simpa using hb) hlf) (fun _=>aD (a8 (sk 1 rfl (kc cN ?_)))))));refine az (aC (sg rfl (aA rfl (fun hb=>absurd (by have:=ψ hb;omega) hi0) (fun _=>sg rfl (aA rfl (fun _=>sk 3 rfl (kc (cU) ?_)) (fun hb=>absurd (δ hb) (by omega)))))));refine kz 2 rfl (sk 2 rfl (kc (cNm) ?_));refine kz 1 rfl (sk 3 rfl (kc (cMs) ?_));refine kz 2 rfl (sk 3 rfl (kc (ac) ?_));refine kz 2 rfl (skh 8 [(4,.all)] rfl (kc (ab) ?_));exact ak 3 [(9,.all)] rfl (az (aI (rtC trw)))
 by_cases hi2:i=2
 ·obtain⟨Z,O,N,m1,g1,J,⟨b1,b1',b1''⟩,cC⟩:=aUr F (hS (by omega)) v t n l1 (left-1) hv (by omega) (by omega) hg (by omega) hl1 (by omega) (by omega);refine⟨Z,O,N,m1,g1,J,⟨by omega,by omega,by omega⟩,?_⟩;refine bO (n:=374) tok Tryz.func27 rfl rfl rfl ?_;refine sg rfl (sg rfl ?_ (hc:=by repeat (first | exact trivial | refine⟨by first | rfl | omega | (simp;omega) | (unfold Ty.name;simp;omega) | (simp;done),?_⟩)));refine a8 (a8 (agF 6 [] rfl rfl rfl (aA rfl (fun hb=>absurd (by simpa using hb) hlf) (fun _=>aD (a8 (sk 1 rfl (kc cN ?_)))))));refine az (aC (sg rfl (aA rfl (fun hb=>absurd (by have:=ψ hb;omega) hi0) (fun _=>sg rfl (aA rfl (fun hb=>absurd (by have:=ψ hb;omega) hi1) (fun _=>sg rfl (aA rfl (fun _=>sk 3 rfl (kc (cC) ?_)) (fun hb=>absurd (δ hb) (by omega)))))))));exact kz 1 rfl (aI (rtC trw))
 by_cases hi3:i=3
 ·obtain⟨u,O,k,gu,hk,J,cU⟩:=xS v.vars hv.vars (by omega) 2 1 (by omega) (by omega) l1 (left-1) hl1;have hk:k≤13:=hk;obtain⟨j,l3,hj,aa,cJ⟩:=jI O (left-1) 3 (by decide) J;have hj:j<3:=by omega
  obtain⟨s,hs⟩:∃s,([[97],[98],[99]]:List Str)[j]?=some s:=aJ (by simpa using hj);have hs':=bM bD hs;have hs1:s.length=1:=by
   have:j=0∨j=1∨j=2:=by omega
   rcases this with rfl | rfl | rfl<;>(simp at hs;subst hs;rfl)
  have hs8:s++[39]∈tvN:=by
   have:j=0∨j=1∨j=2:=by omega
   rcases this with rfl | rfl | rfl<;>(simp at hs;subst hs;decide)
  have gX:GT 1 (.mk 2 0 (s++[39]) []):=.var _ hs8
  have hvi:Gok ⟨v.l,v.vars++[s++[39]],v.deep+1⟩:=⟨hv.all,fun x hx=>by
   rcases χ.1 hx with hx | hx
   ·exact hv.vars x hx
   ·rw[Aa.1 hx];exact hs8,by show 0≤v.deep+1;omega,by show(v.l.length:Int)≤v.deep+1;omega,by show((v.vars++[s++[39]]).length:Int)≤v.deep+1+1;rw[ω];simp only[Bm,List.length_nil];omega⟩
  obtain⟨hvp,cP⟩:=more ⟨v.l,v.vars++[s++[39]],v.deep+1⟩ [112] _ 1 hvi (by show 0≤v.deep+1;omega) (by show v.deep+1≤8;omega) gX (by omega) (.inr (by decide));have hdp:(dI ⟨v.l,v.vars++[s++[39]],v.deep+1⟩ [112] (.mk 2 0 (s++[39]) [])).deep=v.deep+1+1:=rfl;obtain⟨Z,l4,N,m1,g1,Y,⟨b1,b1',b1''⟩,ac⟩:=hS (by omega) _ t n l3 (left-1) hvp (by omega) (by omega) hg (by omega) aa (by omega) (by omega);have cH:=kH v.vars (s++[39]) (by unfold Fits;omega);have head:∀(c:Core) (l':List Int) (le':Int),(s++[39]∈v.vars→aU Tryz.prog 58 [.one (.vp 700 0),.pa (xR v),tyV t] (mO l4 N) (.pa (aB c)) (mO l' le'))→
    (¬s++[39]∈v.vars→∃W:Core,c=.mk 4 0 [] zTy [.mk 6 0 [] u [.mk 7 0 (s++[39]) zTy [.mk 5 0 [112] (.mk 2 0 (s++[39]) []) [Z] [] []] [] []] [] [],W] [] []∧aU Tryz.prog 27 [.one (.vp 700 0),.pa (xR (dI v [] t)),tyV u] (mO l4 N) (.pa (aB W)) (mO l' le'))→
    aU Tryz.prog 27 [.one (.vp 700 0),.pa (xR v),tyV t] (mO l left) (.pa (aB c)) (mO l' le'):=by
   intro c l' le' hA hB;refine bO (n:=374) tok Tryz.func27 rfl rfl rfl ?_;refine sg rfl (sg rfl ?_ (hc:=by repeat (first | exact trivial | refine⟨by first | rfl | omega | (simp;omega) | (unfold Ty.name;simp;omega) | (simp;done),?_⟩)));refine a8 (a8 (agF 6 [] rfl rfl rfl (aA rfl (fun hb=>absurd (by simpa using hb) hlf) (fun _=>aD (a8 (sk 1 rfl (kc cN ?_)))))));refine az (aC (sg rfl (aA rfl (fun hb=>absurd (by have:=ψ hb;omega) hi0) (fun _=>sg rfl (aA rfl (fun hb=>absurd (by have:=ψ hb;omega) hi1) (fun _=>sg rfl (aA rfl (fun hb=>absurd (by have:=ψ hb;omega) hi2) (fun _=>sg rfl (aA rfl (fun _=>sk 3 rfl (kc (cU) ?_)) (fun hb=>absurd (δ hb) (by omega)))))))))));refine kz 2 rfl (sk 2 rfl (kc (cJ) ?_));refine ak 3 [(3,.row j []),(4,.row j (bD s))] rfl (az (sg rfl ?_ (hc:=by repeat (first | exact trivial | refine⟨by first | rfl | omega | (simp;omega) | (unfold Ty.name;simp;omega) | (simp;done),?_⟩))));refine sgh [(4,.all)] rfl (sg rfl ?_ (hc:=by repeat (first | exact trivial | refine⟨by first | rfl | omega | (simp;omega) | (unfold Ty.name;simp;omega) | (simp;done),?_⟩)));refine sg rfl ?_ (hc:=by repeat (first | exact trivial | refine⟨by first | rfl | omega | (simp;omega) | (unfold Ty.name;simp;omega) | (simp;done),?_⟩));refine AWp.sub (Sub.freeze (id:=132) rfl) ?_;rw[show v.vars.map bD++[[C.str (s++[39])]]=(v.vars++[s++[39]]).map bD by rw[Ar];rfl];refine AWp.sub (vp 16 (xR ⟨v.l,v.vars++[s++[39]],v.deep+1⟩) (hp:=.c .refl (.hs rfl (by simp) (Go.AM.take_all (by simp)) (.c .refl .nil)))) ?_;refine AWp.sub (vp 17 (b8 (.mk 2 0 (s++[39]) []))) ?_;refine sk 4 rfl (kc (cP) ?_);refine ak 1 [] rfl (kc (ac) ?_);refine ak 4 [(7,.all)] rfl (az (AWp.sub (vp 18 (aB (.mk 5 0 [112] (.mk 2 0 (s++[39]) []) [Z] [] []))) ?_));refine a8 (sk 4 rfl ?_ (hc:=by repeat (first | exact trivial | refine⟨by first | rfl | omega | (simp;omega) | (unfold Ty.name;simp;omega) | (simp;done),?_⟩)));refine kc cH ?_;refine az (aA rfl (fun hb=>?_) (fun hb=>?_))
   ·have cLf:=hA (ψ hb);refine sk 3 rfl (kc (cLf) ?_);exact kz 1 rfl (aI (rtC trw))
   obtain⟨W,rfl,ab⟩:=hB (δ hb);have cA:=gG (.mk 6 0 [] u [.mk 7 0 (s++[39]) zTy [.mk 5 0 [112] (.mk 2 0 (s++[39]) []) [Z] [] []] [] []] [] []) W;refine aD (sgh [(3,.all)] rfl ?_ (hc:=by repeat (first | exact trivial | refine⟨by first | rfl | omega | (simp;omega) | (unfold Ty.name;simp;omega) | (simp;done),?_⟩)));refine AWp.sub (vp 19 (aB (.mk 7 0 (s++[39]) zTy [.mk 5 0 [112] (.mk 2 0 (s++[39]) []) [Z] [] []] [] []))) ?_;refine skh 7 [(2,.all)] rfl (kc (cM) ?_);refine ak 1 [] rfl (kc (ab) ?_);refine kc (cA) ?_;exact kz 1 rfl (aI (rtC trw))
  by_cases hH:s++[39]∈v.vars
  ·obtain⟨W,l5,m2,g2,hm2,hl5,cLf⟩:=aF3 n n t (le_refl _) hg (by omega) v l4 N hv (by omega) Y;exact⟨W,l5,N,m2,g2,hl5,⟨by omega,by omega,by omega⟩,head _ _ _ (fun _=>cLf) (fun h=>absurd hH h)⟩
  ·obtain⟨W,l5,ad,m2,g2,hl5,⟨b2,b2',b2''⟩,ab⟩:=hS (by omega) (dI v [] t) u k l4 N hv1 (by omega) (by omega) gu (by omega) Y (by omega) (by omega);exact⟨_,l5,ad,m1+4+20+1+m2+1,.tr gu (by omega) hs8 (by decide) gX (by omega) g1.within g2.less,hl5,⟨by omega,by omega,by omega⟩,head _ _ _ (fun h=>absurd h hH) (fun _=>⟨W,rfl,ab⟩)⟩
 by_cases hi4:i=4
 ·obtain⟨u,O,k,gu,hk,J,cU⟩:=xS v.vars hv.vars (by omega) 1 2 (by omega) (by omega) l1 (left-1) hl1;have hk:k≤5:=hk;have gF:GT (k+n+3) (jA u t):=gu.fn hg;have cFn:=tS u t;obtain⟨Z,l3,N,m1,g1,aa,⟨b1,b1',b1''⟩,ac⟩:=hS (by omega) (dI v [] t) (jA u t) (k+n+3) O (left-1) hv1 (by omega) (by omega) gF (by omega) J (by omega) (by omega);obtain⟨W,l4,ad,m2,g2,Y,⟨b2,b2',b2''⟩,ab⟩:=hS (by omega) (dI v [] t) u k l3 N hv1 (by omega) (by omega) gu (by omega) aa (by omega) (by omega);have cA:=gG Z W;refine⟨.mk 4 0 [] zTy [Z,W] [] [],l4,ad,m1+m2+1,.app g1.less g2.less,Y,⟨by omega,by omega,by omega⟩,?_⟩;refine bO (n:=374) tok Tryz.func27 rfl rfl rfl ?_;refine sg rfl (sg rfl ?_ (hc:=by repeat (first | exact trivial | refine⟨by first | rfl | omega | (simp;omega) | (unfold Ty.name;simp;omega) | (simp;done),?_⟩)));refine a8 (a8 (agF 6 [] rfl rfl rfl (aA rfl (fun hb=>absurd (by simpa using hb) hlf) (fun _=>aD (a8 (sk 1 rfl (kc cN ?_)))))));refine az (aC (sg rfl (aA rfl (fun hb=>absurd (by have:=ψ hb;omega) hi0) (fun _=>sg rfl (aA rfl (fun hb=>absurd (by have:=ψ hb;omega) hi1) (fun _=>sg rfl (aA rfl (fun hb=>absurd (by have:=ψ hb;omega) hi2) (fun _=>sg rfl (aA rfl (fun hb=>absurd (by have:=ψ hb;omega) hi3) (fun _=>sg rfl (aA rfl (fun _=>sk 3 rfl (kc (cU) ?_)) (fun hb=>absurd (δ hb) (by omega)))))))))))));refine ak 1 [] rfl (kc (cFn) ?_);refine kz 2 rfl (sk 3 rfl (kc (cM) ?_));refine ak 1 [] rfl (kc (ac) ?_);refine ak 3 [] rfl (kc (cM) ?_);refine ak 7 [(12,.row 0 (b8 (aN2 (.mk 3 0 arrow []) u))),(15,.row 1 (b8 u))] rfl (kc (ab) ?_);refine kc (cA) ?_;exact kz 1 rfl (aI (rtC trw))
 obtain⟨q,L,hLg,hLn,cSp⟩:=aL8 hg (by omega);by_cases hI:bb q.form q.name [73,110,116]=true
 ·obtain⟨j,O,hj,J,cJ⟩:=jI l1 (left-1) 4 (by decide) hl1;have hj:j<4:=by omega
  obtain⟨s,hs⟩:∃s,([[97,100,100],[115,117,98],[109,117,108],[100,105,118]]:List Str)[j]?=some s:=aJ (by simpa using hj);have hs':=bM bD hs;have hsp:s∈aO3:=by
   have:j=0∨j=1∨j=2∨j=3:=by omega
   rcases this with rfl | rfl | rfl | rfl<;>(simp at hs;subst hs;decide)
  obtain⟨Z,l3,N,m1,g1,aa,⟨b1,b1',b1''⟩,ac⟩:=hS (by omega) (dI v [] t) t n O (left-1) hv1 (by omega) (by omega) hg (by omega) J (by omega) (by omega);obtain⟨W,l4,ad,m2,g2,Y,⟨b2,b2',b2''⟩,ab⟩:=hS (by omega) (dI v [] t) t n l3 N hv1 (by omega) (by omega) hg (by omega) aa (by omega) (by omega);refine⟨.mk 10 0 s zTy [Z,W] [] [],l4,ad,m1+m2+5,.prim hsp g1.less g2.less,Y,⟨by omega,by omega,by omega⟩,?_⟩;refine bO (n:=374) tok Tryz.func27 rfl rfl rfl ?_;refine sg rfl (sg rfl ?_ (hc:=by repeat (first | exact trivial | refine⟨by first | rfl | omega | (simp;omega) | (unfold Ty.name;simp;omega) | (simp;done),?_⟩)));refine a8 (a8 (agF 6 [] rfl rfl rfl (aA rfl (fun hb=>absurd (by simpa using hb) hlf) (fun _=>aD (a8 (sk 1 rfl (kc cN ?_)))))));refine az (aC (sg rfl (aA rfl (fun hb=>absurd (by have:=ψ hb;omega) hi0) (fun _=>sg rfl (aA rfl (fun hb=>absurd (by have:=ψ hb;omega) hi1) (fun _=>sg rfl (aA rfl (fun hb=>absurd (by have:=ψ hb;omega) hi2) (fun _=>sg rfl (aA rfl (fun hb=>absurd (by have:=ψ hb;omega) hi3) (fun _=>sg rfl (aA rfl (fun hb=>absurd (by have:=ψ hb;omega) hi4) (fun _=>aD (sk 1 rfl (kc (cSp) ?_))))))))))))));refine kz 6 rfl (a8 (aC (a8 (agF 4 [] rfl rfl rfl (aA rfl (fun _=>sk 2 rfl (kc (cJ) ?_)) (fun hb=>by have:=hI.symm.trans hb;cases this))))));refine ak 3 [(3,.row j []),(4,.row j (bD s))] rfl (az (sk 4 rfl (kc (cM) ?_)));refine ak 1 [] rfl (kc (ac) ?_);refine ak 3 [] rfl (kc (cM) ?_);refine ak 1 [] rfl (kc (ab) ?_);exact ak 3 [(13,.all)] rfl (az (aI (rtC trw)))
 by_cases hB:bb q.form q.name [66,111,111,108]=true
 ·obtain⟨j,O,hj,J,cJ⟩:=jI l1 (left-1) 2 (by decide) hl1;have hj:j<2:=by omega
  obtain⟨s,hs⟩:∃s,([[101,113],[108,116]]:List Str)[j]?=some s:=aJ (by simpa using hj);have hs':=bM bD hs;have hsp:s∈aO3:=by
   have:j=0∨j=1:=by omega
   rcases this with rfl | rfl<;>(simp at hs;subst hs;decide)
  have gI:GT 1 aH4:=.con _ (by decide);obtain⟨Z,l3,N,m1,g1,aa,⟨b1,b1',b1''⟩,ac⟩:=hS (by omega) (dI v [] t) aH4 1 O (left-1) hv1 (by omega) (by omega) gI (by omega) J (by omega) (by omega);obtain⟨W,l4,ad,m2,g2,Y,⟨b2,b2',b2''⟩,ab⟩:=hS (by omega) (dI v [] t) aH4 1 l3 N hv1 (by omega) (by omega) gI (by omega) aa (by omega) (by omega);refine⟨.mk 10 0 s zTy [Z,W] [] [],l4,ad,m1+m2+5,.prim hsp g1.less g2.less,Y,⟨by omega,by omega,by omega⟩,?_⟩;refine bO (n:=374) tok Tryz.func27 rfl rfl rfl ?_;refine sg rfl (sg rfl ?_ (hc:=by repeat (first | exact trivial | refine⟨by first | rfl | omega | (simp;omega) | (unfold Ty.name;simp;omega) | (simp;done),?_⟩)));refine a8 (a8 (agF 6 [] rfl rfl rfl (aA rfl (fun hb=>absurd (by simpa using hb) hlf) (fun _=>aD (a8 (sk 1 rfl (kc cN ?_)))))));refine az (aC (sg rfl (aA rfl (fun hb=>absurd (by have:=ψ hb;omega) hi0) (fun _=>sg rfl (aA rfl (fun hb=>absurd (by have:=ψ hb;omega) hi1) (fun _=>sg rfl (aA rfl (fun hb=>absurd (by have:=ψ hb;omega) hi2) (fun _=>sg rfl (aA rfl (fun hb=>absurd (by have:=ψ hb;omega) hi3) (fun _=>sg rfl (aA rfl (fun hb=>absurd (by have:=ψ hb;omega) hi4) (fun _=>aD (sk 1 rfl (kc (cSp) ?_))))))))))))));refine kz 6 rfl (a8 (aC (a8 (agF 4 [] rfl rfl rfl (aA rfl (fun hb=>absurd hb hI) (fun _=>a8 (agF 4 [] rfl rfl rfl (aA rfl (fun _=>a8 (aE mixed (kc (hJ [73,110,116]) ?_))) (fun hb=>by have:=hB.symm.trans hb;cases this)))))))));refine kz 2 rfl (sk 2 rfl (kc (cJ) ?_));refine ak 5 [(3,.row j []),(4,.row j (bD s))] rfl (kc (cM) ?_);refine ak 1 [] rfl (kc (ac) ?_);refine ak 3 [] rfl (kc (cM) ?_);refine ak 1 [] rfl (kc (ab) ?_);exact ak 3 [(17,.all)] rfl (az (aI (rtC trw)))
 have hl2e:∃O,Ok O∧(((bb q.form q.name [76]=true∧L.length=1)∧∃j:Nat,j=0∧aU Tryz.prog 25 [.one (.vp 700 0),I .i64 3] (mO l1 (left-1)) (I .i64 j) (mO O (left-1)))∨(¬(bb q.form q.name [76]=true∧L.length=1)∧O=l1))∨((bb q.form q.name [76]=true∧L.length=1)∧Ok O∧∃j:Nat,0<j∧aU Tryz.prog 25 [.one (.vp 700 0),I .i64 3] (mO l1 (left-1)) (I .i64 j) (mO O (left-1))):=by
  by_cases hX:bb q.form q.name [76]=true∧L.length=1
  ·obtain⟨j,O,_,J,cJ⟩:=jI l1 (left-1) 3 (by decide) hl1;by_cases hj:j=0
   ·exact⟨O,.inl ⟨J,.inl ⟨hX,j,hj,cJ⟩⟩⟩
   ·exact⟨O,.inr ⟨hX,J,j,by omega,cJ⟩⟩
  ·exact⟨l1,.inl ⟨hl1,.inr ⟨hX,rfl⟩⟩⟩
 obtain⟨O,⟨J,hl12⟩ | ⟨hX,J,j,hj,cJ⟩⟩:=hl2e
 rotate_left
 ·obtain⟨x,rfl⟩:∃x,L=[x]:=Bk.1 hX.2;obtain⟨e3,e4⟩:=pI hX.1;have d3:decide (q.form=3)=true:=Ak e3;have d4:decide (q.name=[76])=true:=Ak e4;obtain⟨kx,_,gx,_,hkx⟩:=hLg;have cG:=oG [67] [x] (by simp);obtain⟨Z,l3,N,m1,g1,aa,⟨b1,b1',b1''⟩,ac⟩:=hS (by omega) (dI v [] t) x kx O (left-1) hv1 (by omega) (by omega) gx (by omega) J (by omega) (by omega);obtain⟨W,l4,ad,m2,g2,Y,⟨b2,b2',b2''⟩,ab⟩:=hS (by omega) (dI v [] t) t n l3 N hv1 (by omega) (by omega) hg (by omega) aa (by omega) (by omega);have cA1:=gG (iK [67] [x]) Z;have cA2:=gG (.mk 4 0 [] zTy [iK [67] [x],Z] [] []) W;refine⟨.mk 4 0 [] zTy [.mk 4 0 [] zTy [iK [67] [x],Z] [] [],W] [] [],l4,ad,9+1+m1+1+m2+1,.app (.app (.tc (by decide) gx (by omega)) g1.less) g2.less,Y,⟨by omega,by omega,by omega⟩,?_⟩;refine bO (n:=374) tok Tryz.func27 rfl rfl rfl ?_;refine sg rfl (sg rfl ?_ (hc:=by repeat (first | exact trivial | refine⟨by first | rfl | omega | (simp;omega) | (unfold Ty.name;simp;omega) | (simp;done),?_⟩)));refine a8 (a8 (agF 6 [] rfl rfl rfl (aA rfl (fun hb=>absurd (by simpa using hb) hlf) (fun _=>aD (a8 (sk 1 rfl (kc cN ?_)))))));refine az (aC (sg rfl (aA rfl (fun hb=>absurd (by have:=ψ hb;omega) hi0) (fun _=>sg rfl (aA rfl (fun hb=>absurd (by have:=ψ hb;omega) hi1) (fun _=>sg rfl (aA rfl (fun hb=>absurd (by have:=ψ hb;omega) hi2) (fun _=>sg rfl (aA rfl (fun hb=>absurd (by have:=ψ hb;omega) hi3) (fun _=>sg rfl (aA rfl (fun hb=>absurd (by have:=ψ hb;omega) hi4) (fun _=>aD (sk 1 rfl (kc (cSp) ?_))))))))))))));refine kz 6 rfl (a8 (aC (a8 (agF 4 [] rfl rfl rfl (aA rfl (fun hb=>absurd hb hI) (fun _=>a8 (agF 4 [] rfl rfl rfl (aA rfl (fun hb=>absurd hb hB) (fun _=>skh 15 [(3,.bv true),(7,.bv true),(8,.bv true),(12,.bv true)] rfl (kcG cJ ?_))))))))));refine ak 3 [(17,.bv true)] rfl (az (aA rfl (fun _=>sk 1 rfl (kc (cG) ?_)) (fun hb=>absurd (δ hb) (by omega))));refine ak 3 [] rfl (kc (cM) ?_);refine ak 3 [(7,.row 0 []),(8,.row 0 (b8 x))] rfl (kc (ac) ?_);refine kc (cA1) ?_;refine ak 3 [] rfl (kc (cM) ?_);refine ak 1 [] rfl (kc (ab) ?_);refine kc (cA2) ?_;exact kz 1 rfl (aI (rtC trw))
 by_cases hP:bb q.form q.name [80]=true∧L.length=2
 ·obtain⟨x,y,rfl⟩:∃x y,L=[x,y]:=by
   match L,hP.2 with
   | [x,y],_=>exact⟨x,y,rfl⟩
  obtain⟨e3,e4⟩:=pI hP.1;have d3:decide (q.form=3)=true:=Ak e3;have d4:decide (q.name=[76])=false:=by rw[e4];rfl
  obtain⟨kx,mx,gx,⟨ky,_,gy,_,hky⟩,hkx⟩:=hLg;have cG:=oG [80] [x,y] (by simp);obtain⟨Z,l3,N,m1,g1,aa,⟨b1,b1',b1''⟩,ac⟩:=hS (by omega) (dI v [] t) x kx l1 (left-1) hv1 (by omega) (by omega) gx (by omega) hl1 (by omega) (by omega);obtain⟨W,l4,ad,m2,g2,Y,⟨b2,b2',b2''⟩,ab⟩:=hS (by omega) (dI v [] t) y ky l3 N hv1 (by omega) (by omega) gy (by omega) aa (by omega) (by omega);have cA1:=gG (iK [80] [x,y]) Z;have cA2:=gG (.mk 4 0 [] zTy [iK [80] [x,y],Z] [] []) W;refine⟨.mk 4 0 [] zTy [.mk 4 0 [] zTy [iK [80] [x,y],Z] [] [],W] [] [],l4,ad,9+1+1+m1+1+m2+1,.app (.app (.tc2 (by decide) gx (by omega) gy (by omega)) g1.less) g2.less,Y,⟨by omega,by omega,by omega⟩,?_⟩;refine bO (n:=374) tok Tryz.func27 rfl rfl rfl ?_;refine sg rfl (sg rfl ?_ (hc:=by repeat (first | exact trivial | refine⟨by first | rfl | omega | (simp;omega) | (unfold Ty.name;simp;omega) | (simp;done),?_⟩)));refine a8 (a8 (agF 6 [] rfl rfl rfl (aA rfl (fun hb=>absurd (by simpa using hb) hlf) (fun _=>aD (a8 (sk 1 rfl (kc cN ?_)))))));refine az (aC (sg rfl (aA rfl (fun hb=>absurd (by have:=ψ hb;omega) hi0) (fun _=>sg rfl (aA rfl (fun hb=>absurd (by have:=ψ hb;omega) hi1) (fun _=>sg rfl (aA rfl (fun hb=>absurd (by have:=ψ hb;omega) hi2) (fun _=>sg rfl (aA rfl (fun hb=>absurd (by have:=ψ hb;omega) hi3) (fun _=>sg rfl (aA rfl (fun hb=>absurd (by have:=ψ hb;omega) hi4) (fun _=>aD (sk 1 rfl (kc (cSp) ?_))))))))))))));refine kz 6 rfl (a8 (aC (a8 (agF 4 [] rfl rfl rfl (aA rfl (fun hb=>absurd hb hI) (fun _=>a8 (agF 4 [] rfl rfl rfl (aA rfl (fun hb=>absurd hb hB) (fun _=>sgh [(3,.bv true),(7,.bv true),(8,.bv false),(12,.bv false)] rfl (aA rfl nofun (fun _=>a8 (agF 4 [] rfl rfl rfl (aA rfl (fun _=>?_) (fun hb=>?_))))))))))))))
  ·refine sk 1 rfl (kc (cG) ?_);refine ak 3 [] rfl (kc (cM) ?_);refine ak 3 [(7,.row 0 []),(8,.row 0 (b8 x))] rfl (kc (ac) ?_);refine kc (cA1) ?_;refine ak 3 [] rfl (kc (cM) ?_);refine ak 3 [(16,.row 1 []),(17,.row 1 (b8 y))] rfl (kc (ab) ?_);refine kc (cA2) ?_;exact kz 1 rfl (aI (rtC trw))
  ·exfalso;simp[e3,e4] at hb
 rcases uZ hg with⟨m1,m2,a,b,ga,gb,hnm,hte,cF⟩ | cF
 ·obtain⟨s,l3,hs,aa,cNm⟩:=aF2 O (left-1) v J;have hs6:s∈nm6:=χ.2 (.inl hs);obtain⟨hvs,cMs⟩:=more v s a m1 hv h0 (by omega) ga (by omega) (.inr hs6);have hds:(dI v s a).deep=v.deep+1:=rfl;obtain⟨c3,l4,le3,m3,g3,Y,⟨b3,b3',b3''⟩,cS3⟩:=hS (by omega) (dI v s a) b m2 l3 (left-1) hvs (by omega) (by omega) gb (by omega) aa (by omega) (by omega);refine⟨.mk 5 0 s a [c3] [] [],l4,le3,m3+4,.lam hs6 ga (by omega) g3.within,Y,⟨by omega,by omega,by omega⟩,?_⟩;refine bO (n:=374) tok Tryz.func27 rfl rfl rfl ?_;refine sg rfl (sg rfl ?_ (hc:=by repeat (first | exact trivial | refine⟨by first | rfl | omega | (simp;omega) | (unfold Ty.name;simp;omega) | (simp;done),?_⟩)));refine a8 (a8 (agF 6 [] rfl rfl rfl (aA rfl (fun hb=>absurd (by simpa using hb) hlf) (fun _=>aD (a8 (sk 1 rfl (kc cN ?_)))))));refine az (aC (sg rfl (aA rfl (fun hb=>absurd (by have:=ψ hb;omega) hi0) (fun _=>sg rfl (aA rfl (fun hb=>absurd (by have:=ψ hb;omega) hi1) (fun _=>sg rfl (aA rfl (fun hb=>absurd (by have:=ψ hb;omega) hi2) (fun _=>sg rfl (aA rfl (fun hb=>absurd (by have:=ψ hb;omega) hi3) (fun _=>sg rfl (aA rfl (fun hb=>absurd (by have:=ψ hb;omega) hi4) (fun _=>aD (sk 1 rfl (kc (cSp) ?_))))))))))))));refine kz 6 rfl (a8 (aC (a8 (agF 4 [] rfl rfl rfl (aA rfl (fun hb=>absurd hb hI) (fun _=>a8 (agF 4 [] rfl rfl rfl (aA rfl (fun hb=>absurd hb hB) (fun _=>a8 (AWp.cut (mk [(0,.one (.vp 700 0)),(4,.one (.vp 4 0)),(5,.one (.vp 5 0)),(6,.one (.vp 6 0)),(21,.one (.vp 21 0)),(22,.one (.hs 510 0 L.length L.length)),(268,B false)] ([(4,.var 78 (vRt v)),(5,.var 33 (tR t)),(6,.var 37 [.c (.int .i64 0),.c (.int .i64 0),.c (.str []),.c (.int .i64 0),.c (.int .i64 0),.c (.str []),.c .nl,.c .nl,.c .nl,.c .nl]),(21,.var 33 (tR q)),(510,.arr 33 4 (L.map b8) 2)]++mO O (left-1))) ?_ ?_))))))))))
  ·rcases hl12 with⟨hX,j,hj0,cJ⟩ | ⟨hX,rfl⟩
   ·obtain⟨e3,e4⟩:=pI hX.1;have d3:decide (q.form=3)=true:=Ak e3;have d4:decide (q.name=[76])=true:=Ak e4;have d5:decide ((L.length:Int)=1)=true:=Ak (by rw[hX.2];rfl);subst hj0;refine aE mixed (ak 15 [(3,.bv true),(7,.bv true),(8,.bv true),(12,.bv true),(13,.bv true)] rfl (kcG cJ ?_ (hw:=d5)));exact ak 3 [(13,.bv true),(17,.bv true)] rfl (az sl)
   ·by_cases e3:q.form=3
    ·have d3:decide (q.form=3)=true:=Ak e3;by_cases e4:q.name=[76]
     ·have d4:decide (q.name=[76])=true:=Ak e4;have e5:¬L.length=1:=fun h=>hX ⟨by unfold bb;rw[d3,d4];rfl,h⟩
      have d5:decide ((L.length:Int)=1)=false:=Al (by omega);exact ag [(3,.bv true),(7,.bv true),(8,.bv true),(12,.bv true),(13,.bv false),(17,.bv false)] rfl sl
     ·have d4:decide (q.name=[76])=false:=Al e4;exact ag [(3,.bv true),(7,.bv true),(8,.bv false),(12,.bv false)] rfl sl
    ·have d3:decide (q.form=3)=false:=Al e3;exact ag [(3,.bv false),(7,.bv false)] rfl sl
  refine aA rfl nofun (fun _=>a8 (agF 4 [] rfl rfl rfl (aA rfl (fun hb=>absurd (aGh hb) hP) (fun _=>aD (a8 (sk 1 rfl (kc cF ?_)))))));refine az (aA rfl (fun _=>?_) nofun);subst hte;refine sk 2 rfl (kc (cNm) ?_);refine kz 1 rfl (skh 18 [(3,.row 0 (b8 (aN2 (.mk 3 0 arrow []) a))),(6,.row 1 (b8 a)),(13,.row 0 (b8 (aN2 (.mk 3 0 arrow []) a))),(16,.row 1 (b8 a))] rfl (kc (cMs) ?_));refine ak 4 [(21,.row 1 (b8 b))] rfl (kc (cS3) ?_);exact ak 3 [(24,.all)] rfl (az (aI (rtC trw)))
 ·obtain⟨W,l5,m2,g2,hm2,hl5,cLf⟩:=aF3 n n t (le_refl _) hg (by omega) v O (left-1) hv (by omega) J;refine⟨W,l5,left-1,m2,g2,hl5,⟨by omega,by omega,by omega⟩,?_⟩;refine bO (n:=374) tok Tryz.func27 rfl rfl rfl ?_;refine sg rfl (sg rfl ?_ (hc:=by repeat (first | exact trivial | refine⟨by first | rfl | omega | (simp;omega) | (unfold Ty.name;simp;omega) | (simp;done),?_⟩)));refine a8 (a8 (agF 6 [] rfl rfl rfl (aA rfl (fun hb=>absurd (by simpa using hb) hlf) (fun _=>aD (a8 (sk 1 rfl (kc cN ?_)))))));refine az (aC (sg rfl (aA rfl (fun hb=>absurd (by have:=ψ hb;omega) hi0) (fun _=>sg rfl (aA rfl (fun hb=>absurd (by have:=ψ hb;omega) hi1) (fun _=>sg rfl (aA rfl (fun hb=>absurd (by have:=ψ hb;omega) hi2) (fun _=>sg rfl (aA rfl (fun hb=>absurd (by have:=ψ hb;omega) hi3) (fun _=>sg rfl (aA rfl (fun hb=>absurd (by have:=ψ hb;omega) hi4) (fun _=>aD (sk 1 rfl (kc (cSp) ?_))))))))))))));refine kz 6 rfl (a8 (aC (a8 (agF 4 [] rfl rfl rfl (aA rfl (fun hb=>absurd hb hI) (fun _=>a8 (agF 4 [] rfl rfl rfl (aA rfl (fun hb=>absurd hb hB) (fun _=>a8 (AWp.cut (mk [(0,.one (.vp 700 0)),(4,.one (.vp 4 0)),(5,.one (.vp 5 0)),(6,.one (.vp 6 0)),(21,.one (.vp 21 0)),(22,.one (.hs 510 0 L.length L.length)),(268,B false)] ([(4,.var 78 (vRt v)),(5,.var 33 (tR t)),(6,.var 37 [.c (.int .i64 0),.c (.int .i64 0),.c (.str []),.c (.int .i64 0),.c (.int .i64 0),.c (.str []),.c .nl,.c .nl,.c .nl,.c .nl]),(21,.var 33 (tR q)),(510,.arr 33 4 (L.map b8) 2)]++mO O (left-1))) ?_ ?_))))))))))
  ·rcases hl12 with⟨hX,j,hj0,cJ⟩ | ⟨hX,rfl⟩
   ·obtain⟨e3,e4⟩:=pI hX.1;have d3:decide (q.form=3)=true:=Ak e3;have d4:decide (q.name=[76])=true:=Ak e4;have d5:decide ((L.length:Int)=1)=true:=Ak (by rw[hX.2];rfl);subst hj0;refine aE mixed (ak 15 [(3,.bv true),(7,.bv true),(8,.bv true),(12,.bv true),(13,.bv true)] rfl (kcG cJ ?_ (hw:=d5)));exact ak 3 [(13,.bv true),(17,.bv true)] rfl (az sl)
   ·by_cases e3:q.form=3
    ·have d3:decide (q.form=3)=true:=Ak e3;by_cases e4:q.name=[76]
     ·have d4:decide (q.name=[76])=true:=Ak e4;have e5:¬L.length=1:=fun h=>hX ⟨by unfold bb;rw[d3,d4];rfl,h⟩
      have d5:decide ((L.length:Int)=1)=false:=Al (by omega);exact ag [(3,.bv true),(7,.bv true),(8,.bv true),(12,.bv true),(13,.bv false),(17,.bv false)] rfl sl
     ·have d4:decide (q.name=[76])=false:=Al e4;exact ag [(3,.bv true),(7,.bv true),(8,.bv false),(12,.bv false)] rfl sl
    ·have d3:decide (q.form=3)=false:=Al e3;exact ag [(3,.bv false),(7,.bv false)] rfl sl
  refine aA rfl nofun (fun _=>a8 (agF 4 [] rfl rfl rfl (aA rfl (fun hb=>absurd (aGh hb) hP) (fun _=>aD (a8 (sk 1 rfl (kc cF ?_)))))));refine az (aA rfl nofun (fun _=>aD (sk 3 rfl (kc (cLf) ?_))));exact kz 1 rfl (aI (rtC trw))
theorem aL9:∀F:Nat,r4 F
 | 0=>by
  have:=yP (-1) (fun h=>by omega);intro v t n l left hv I hd hg hn hl hle q;exact this v t n l left hv (by omega) hd hg hn hl hle q
 | F+1=>yP F fun _=>aL9 F
theorem pH (s:Str) (t:Ty):aU Tryz.prog 28 [Go.AM.T s,tyV t] [] (tyV (.mk 5 0 s [t])) []:=by
 refine bO (n:=9) tok Tryz.func28 rfl rfl rfl ?_;exact sg rfl (sgh [(2,.all)] rfl (aI (rtC trw)))
theorem aL7 (l:List Int) (hl:aS2 l) (hf:Fits l):∃(c:Core) (t:Ty) (m:Nat),GC [] m c∧m≤110000∧((∃n,GT n t∧n≤29)∨∃n u,GT n u∧n≤33∧t=.mk 5 0 [97] [u])∧
  aU Tryz.prog 8 [.one (.c (.sl 1 (l.map aN4)))] [] (.tup [.pa (aB c),tyV t]) []:=by
 have J:aS2 (l.take 60):=fun x hx=>hl x (Bl hx)
 have N:Fits (l.take 60):=by
  unfold Fits at *;rw[Au];omega
 have O:=aY4 l 60 hf (by omega);obtain⟨t,l1,n,gt,hn,W,cT⟩:=xS [] (fun x hx=>by cases hx) (by simp) 3 0 (by omega) (by omega) (l.take 60) 26 ⟨J,N⟩;have hn:n≤29:=hn;obtain⟨i,Y,hi,q,Z⟩:=jI l1 26 3 (by decide) W;have hp:pos 26=25:=rfl;by_cases h0:i=0
 ·subst h0;have gA:GT 1 (.mk 2 0 [97] []):=.var _ (by decide);have gF:=gA.fn gt;have cF:=tS (.mk 2 0 [97] []) t;obtain⟨c,l3,le,m,gc,hl3,⟨b1,b2,b3⟩,I⟩:=aL9 7 ⟨[],[[97]],0⟩ (jA (.mk 2 0 [97] []) t) _ Y 26 ⟨fun x hx=>(by cases hx),fun x hx=>by rw[Aa.1 hx];decide,Int.le_refl _,by decide,by decide⟩ (by decide) (by decide) gF (by show _≤33+8*(0:Int);omega) q (by decide) (by rw[hp];decide);have hp2:0≤pos le:=by unfold pos;omega
  have cA:=pH [97] (jA (.mk 2 0 [97] []) t);refine⟨.mk 7 0 [97] zTy [c] [] [],_,m+20,.tlam (by decide) gc,by omega,.inr ⟨_,_,gF,by omega,rfl⟩,?_⟩;refine bO (n:=35) tok Tryz.func8 rfl rfl rfl ?_;refine sg rfl (sk 1 rfl (kc O ?_));refine ak 3 [(3,.id 700)] rfl (az (sk 1 rfl (kc cT ?_)));refine kz 2 rfl (a8 (sk 1 rfl (kc Z ?_)));refine kz 1 rfl (aA rfl (fun _=>sk 2 rfl (kc cF ?_)) nofun);refine kz 2 rfl (skh 4 [(1,.all)] rfl (kc I ?_));refine kz 2 rfl (skh 4 [(1,.all)] rfl (kc cA ?_));exact kz 2 rfl (aI ⟨.inr rfl,⟨_,_,.cell rfl (tg rfl) rfl rfl rfl (.cell rfl (tg rfl) rfl rfl rfl .nil),.cons (.pa (.c .refl (.c .refl (.c .refl (.c .refl (.c .refl (.c .refl (.c .nl (.c .refl (.c .nl (.c .nl .nil))))))))))) (.cons .refl .nil),rfl⟩,trivial,rfl⟩)
 ·obtain⟨c,l3,le,m,gc,hl3,⟨b1,b2,b3⟩,I⟩:=aL9 7 ⟨[],[],0⟩ t n Y 26 ⟨fun x hx=>(by cases hx),fun x hx=>(by cases hx),Int.le_refl _,by decide,by decide⟩ (by decide) (by decide) gt (by show _≤33+8*(0:Int);omega) q (by decide) (by rw[hp];decide);have hp2:0≤pos le:=by unfold pos;omega
  refine⟨c,t,m,gc,by omega,.inl ⟨n,gt,hn⟩,?_⟩;refine bO (n:=35) tok Tryz.func8 rfl rfl rfl ?_;refine sg rfl (sk 1 rfl (kc O ?_));refine ak 3 [(3,.id 700)] rfl (az (sk 1 rfl (kc cT ?_)));refine kz 2 rfl (a8 (sk 1 rfl (kc Z ?_)));refine kz 1 rfl (aA rfl (fun hb=>absurd (by have:=ψ hb;omega) h0) (fun _=>aD (sk 3 rfl (kc I ?_))));exact kz 3 rfl (aI ⟨.inr rfl,⟨_,_,.cell rfl (tg rfl) rfl rfl rfl (.cell rfl (tg rfl) rfl rfl rfl .nil),.cons .refl (.cons .refl .nil),rfl⟩,trivial,rfl⟩)
theorem aIa:∀{k:Nat}{t:Ty},GT k t→TM tvN 3 t:=by
 intro k t h
 induction h with
 | var s hs=>exact .var hs
 | con s hs=>exact .con
 | app ha hb q I=>exact .app q I
theorem zN:∀s∈nm6,nh s:=by unfold nh;decide
theorem s7:∀s∈nm6,s.length≤30:=by decide
theorem aZ1:∀s∈tvN,¬s=[]:=by decide
theorem lwA {s:Str}{vs:List Str}(h3:s.length≤8) (h4:∀x∈vs,x∈nm6) (h5:vs.length≤2):1+w30 s+(vs.map fun v=>1+w30 v).sum≤93:=by
 have q:=aGv (show s.length≤30 by omega);have I:=rH (g:=fun v:Str=>1+w30 v) (K:=31) (l:=vs) fun v hv=>by
  have:=aGv (s7 _ (h4 v hv));omega
 omega
def gQ (m:Nat) (c:Core):Prop:=MW tvN c∧m30 c≤31*m∧20*tlC c≤m
theorem aD1 {α:Type}{P:α→Prop}{x y:α}(hx:P x) (hy:P y):∀z∈[x,y],P z:=fun z q=>by
 rcases Ao.1 q with rfl | q
 ·exact hx
 ·rw[Aa.1 q];exact hy
theorem j1 {α:Type}{P:α→Prop}{x:α}(hx:P x):∀z∈[x],P z:=fun z q=>by rw[Aa.1 q];exact hx
section
variable {m n k:Nat}{s:Str}{t:Ty}{a b:Core}
theorem aWc:w30 ([]:Str)=30:=rfl
theorem aLq (h:s.length≤8):gQ 9 (.mk 2 0 s zTy [] [] []):=by
 have q:=aWc;have:=aGv (show s.length≤30 by omega);refine⟨pL (eL rfl (fun h=>by cases h) rfl (by omega) (fun h=>by cases h)) .z (by simp) (by simp) (by simp),?_,?_⟩
 ·rw[m30,cK,fR,iC];omega
 ·rw[tlC,iJ,qI,pN,φ (by decide)];omega
theorem aR0 (q:gQ m a) (I:gQ n b):gQ (m+n+1) (.mk 4 0 [] zTy [a,b] [] []):=by
 have O:=aWc;obtain⟨J,a2,a3⟩:=q;obtain⟨N,W,Y⟩:=I;refine⟨pL (eL rfl (fun h=>by cases h) rfl (by decide) (fun h=>by cases h)) .z (aD1 J N) (by simp) (by simp),?_,?_⟩
 ·rw[m30,cK,cK,cK,fR,iC];omega
 ·rw[tlC,iJ,iJ,iJ,qI,pN,φ (by decide)];omega
theorem aRz (h:s∈nm6) (ht:GT k t) (q:gQ m a):gQ (m+4) (.mk 5 0 s t [a] [] []):=by
 have J:=aWc;obtain⟨I,a2,a3⟩:=q;have:=aGv (s7 _ h);refine⟨pL (eL rfl (fun h=>by cases h) (aIa ht).wf (s7 _ h) (fun _=>zN _ h)) (aIa ht) (j1 I) (by simp) (by simp),?_,?_⟩
 ·rw[m30,cK,cK,fR,iC];omega
 ·rw[tlC,iJ,iJ,qI,pN,φ (by decide)];omega
theorem sH (ht:GT k t) (q:gQ m a):gQ (m+1) (.mk 6 0 [] t [a] [] []):=by
 have J:=aWc;obtain⟨I,a2,a3⟩:=q;refine⟨pL (eL rfl (fun h=>by cases h) (aIa ht).wf (by decide) (fun h=>by cases h)) (aIa ht) (j1 I) (by simp) (by simp),?_,?_⟩
 ·rw[m30,cK,cK,fR,iC];omega
 ·rw[tlC,iJ,iJ,qI,pN,φ (by decide)];omega
theorem aLp (h:s∈tvN) (q:gQ m a):gQ (m+20) (.mk 7 0 s zTy [a] [] []):=by
 have J:=aWc;obtain⟨I,a2,a3⟩:=q;have N:=aZn s h;have:=aGv (show s.length≤30 by omega);refine⟨pL (eL rfl (fun _=>⟨rfl,aZ1 s h⟩) rfl (by omega) (fun h=>by cases h)) .z (j1 I) (by simp) (by simp),?_,?_⟩
 ·rw[m30,cK,cK,fR,iC];omega
 ·rw[tlC,iJ,iJ,qI,pN,ξ rfl];omega
end
theorem aYc:∀{L:List Str}{m:Nat}{c:Core},GC L m c→MW tvN c∧m30 c≤31*m∧20*tlC c≤m:=by
 intro L m c h;have aa:w30 ([]:Str)=30:=rfl
 induction h with
 | @var L s h hL=>
  have:=aGv (s7 _ h);refine⟨pL (eL rfl (fun h=>by cases h) rfl (s7 _ h) (fun h=>by cases h)) .z (by simp) (by simp) (by simp),?_,?_⟩
  ·rw[m30,cK,fR,iC];omega
  ·rw[tlC,iJ,qI,pN,φ (by decide)];omega
 | con h=>exact aLq h
 | int h=>
  refine⟨pL (eL rfl (fun h=>by cases h) rfl (by decide) (fun h=>by cases h)) .z (by simp) (by simp) (by simp),?_,?_⟩
  ·rw[m30,cK,fR,iC];omega
  ·rw[tlC,iJ,qI,pN,φ (by decide)];omega
 | app ha hb q I=>exact aR0 q I
 | lam h ht hk ha q=>exact aRz h ht q
 | tc h ht hk=>exact sH ht (aLq h)
 | tc2 h hu hj ht hk=>exact sH ht (sH hu (aLq h))
 | tr hu hj hs hx ht hk ha hb q I=>exact aR0 (sH hu (aLp hs (aRz hx ht q))) I
 | tlam h ha q=>exact aLp h q
 | @lt L m n k s t a b h ht hk ha hb q I=>
  obtain⟨J,a2,a3⟩:=q;obtain⟨N,O,W⟩:=I;have:=aGv (s7 _ h);refine⟨pL ⟨rfl,fun h=>(by cases h),rfl,fun p hp=>?_,?_,fun h=>(by cases h),fun p hp=>?_,by simp⟩ .z (j1 J) (fun x hx=>?_) (by simp),?_,?_⟩
  ·rw[Aa.1 hp];exact(aIa ht).wf
  ·unfold lw;show 1+w30 []+(1+w30 s+0)+0≤403;omega
  ·rw[Aa.1 hp];exact zN _ h
  ·rw[Aa.1 hx];exact⟨aIa ht,N⟩
  ·rw[m30,cK,cK,fR,fR,iC];omega
  ·rw[tlC,iJ,iJ,qI,qI,pN,φ (by decide)];omega
 | @case1 L m n k t a b f i s vs ht hk ha hb h1 h2 h3 h4 h5 h6 q I=>
  obtain⟨J,a2,a3⟩:=q;obtain⟨N,O,W⟩:=I;have hl:=lwA h3 h4 h5;refine⟨pL ⟨rfl,fun h=>(by cases h),(aIa ht).wf,by simp,?_,fun h=>(by cases h),by simp,fun p hp v hv=>?_⟩ (aIa ht) (j1 J) (by simp) (fun x hx=>?_),?_,?_⟩
  ·unfold lw;show 1+w30 []+0+(1+w30 s+(vs.map fun v=>1+w30 v).sum+0)≤403;omega
  ·rw[Aa.1 hp] at hv;exact zN _ (h4 v hv)
  ·rw[Aa.1 hx];exact N
  ·rw[m30,cK,cK,fR,iC,iC];omega
  ·rw[tlC,iJ,iJ,qI,pN,pN,φ (by decide)];omega
 | @case2 L m n o k t a b c f i s vs f' i' s' vs' ht hk ha hb hc h1 h2 h3 h4 h5 h6 h1' h2' h3' h4' h5' h6' q I Y=>
  obtain⟨J,a2,a3⟩:=q;obtain⟨N,O,W⟩:=I;obtain⟨Z,c2,c3⟩:=Y;have hl:=lwA h3 h4 h5;have ab:=lwA h3' h4' h5';refine⟨pL ⟨rfl,fun h=>(by cases h),(aIa ht).wf,by simp,?_,fun h=>(by cases h),by simp,fun p hp v hv=>?_⟩ (aIa ht) (j1 J) (by simp) (fun x hx=>?_),?_,?_⟩
  ·unfold lw;show 1+w30 []+0+(1+w30 s+(vs.map fun v=>1+w30 v).sum+(1+w30 s'+(vs'.map fun v=>1+w30 v).sum+0))≤403;omega
  ·have:p=(s,vs)∨p=(s',vs'):=by simpa [ahd,Alt.name,Alt.vars] using hp
   rcases this with rfl | rfl
   ·exact zN _ (h4 v hv)
   ·exact zN _ (h4' v hv)
  ·have:x=.mk f i s vs b∨x=.mk f' i' s' vs' c:=by simpa using hx
   rcases this with rfl | rfl
   ·exact N
   ·exact Z
  ·rw[m30,cK,cK,fR,iC,iC,iC];omega
  ·rw[tlC,iJ,iJ,qI,pN,pN,pN,φ (by decide)];omega
 | @prim L m n s a b h ha hb q I=>
  obtain⟨J,a2,a3⟩:=q;obtain⟨N,O,W⟩:=I;have:=aGv (aCg _ h);refine⟨pL (eL rfl (fun h=>by cases h) rfl (aCg _ h) (fun h=>by cases h)) .z (aD1 J N) (by simp) (by simp),?_,?_⟩
  ·rw[m30,cK,cK,cK,fR,iC];omega
  ·rw[tlC,iJ,iJ,iJ,qI,pN,φ (by decide)];omega
 | fail ht hk=>
  refine⟨pL (eL rfl (fun h=>by cases h) (aIa ht).wf (by decide) (fun h=>by cases h)) (aIa ht) (by simp) (by simp) (by simp),?_,?_⟩
  ·rw[m30,cK,fR,iC];omega
  ·rw[tlC,iJ,qI,pN,φ (by decide)];omega
def V0:List Str:=a1o++tvN
theorem a06:¬([]:Str)∈V0:=by decide
theorem aZi:V0.length=8:=rfl
theorem MW.mono {V W:List Str}{c:Core}(h:MW V c) (hv:∀x∈V,x∈W):MW W c:=⟨h.q,h.w,fun x hx=>hv x (h.v x hx)⟩
structure MK (c:Core):Prop where
 m:MW V0 c
 t:tlC c≤6000
 s:m30 c≤3500000
theorem MK.st {c:Core}(h:MK c) (n:Nat):ST n V0 c:=ST.of h.m h.t h.s n
theorem aYd {L:List Str}{m:Nat}{c:Core}(h:GC L m c) (hm:m≤110000):MK c:=by
 obtain⟨h1,h2,h3⟩:=aYc h;exact⟨h1.mono fun x hx=>χ.2 (.inr hx),by omega,by omega⟩
def dg (L:List Str):List (Str×Str):=L.map fun s=>(s,s)
theorem aYp {L:List Str}:(dg L).map (·.2)=L:=by
 unfold dg;rw[A1];exact List.map_id' L
theorem aF5:∀L:List Str,L.zip L=dg L
 | []=>rfl
 | s::L=>by rw[List.zip_cons_cons,aF5 L];rfl
theorem aMa {L M:List Str}:dg (L++M)=dg L++dg M:=Ar
theorem AV.dg:∀{L:List Str}{s:Str},s∈L→AV (dg L) s s
 | a::L,s,h=>by
  by_cases e:s=a
  ·rw[e];exact .here
  ·exact .there e e (AV.dg ((Ao.1 h).resolve_left e))
theorem a0r {u:Str}{L:List Str}(h:∀s∈L,s∈nm6):∀p∈dg L,PP u p.1 p.2:=fun p hp=>by
 obtain⟨s,hs,rfl⟩:=Ad.1 hp;exact⟨h s hs,.inl rfl⟩
section
variable {u:Str}{f n:Int}{s s':Str}{t:Ty}{ks ks':List Core}{bs:List Bind}{al:List Alt}{L':List Str}
theorem RV.mk' (h1:¬f=1) (h5:¬f=5) (hs:f=7∨s=s') (lk:ks.length=ks'.length) (hbn:∀b∈bs,b.name∈nm6) (kk:∀(i:Nat) (x y:Core),ks[i]?=some x→ks'[i]?=some y→RV u (dg (bs.map Bind.name++L')) (tE x) (tE y))
  (kb:∀b∈bs,RV u (dg (bs.map Bind.name++L')) (tE b.body) (tE b.body)) (ka:∀a∈al,(a.form=1∨a.vars=[])∧(∀v∈a.vars,v∈nm6)∧RV u (dg (a.vars++L')) (tE a.body) (tE a.body)):
  RV u (dg L') (tE (.mk f n s t ks bs al)) (tE (.mk f n s' t ks' bs al)):=by
 have N:∀z:Str,gvN f z (bs.map tEB)=bs.map Bind.name:=fun z=>by unfold gvN;rw[φ h5,A1];rfl
 rw[iX,iX];refine .node h1 (fun e=>absurd e h5) ?_ (by rw[θ,θ];exact lk) rfl rfl (fun b hb=>?_) (fun i p q hp I=>?_) (fun i p q hp I=>?_) (fun i p q hp I=>?_) (fun i p q hp I=>?_)
 ·rcases hs with h | h
  ·exact .inr (.inl h)
  ·exact .inr (.inr (by rw[h]))
 ·obtain⟨b,kb,rfl⟩:=Ad.1 hb;exact hbn b kb
 ·obtain⟨p,J,rfl⟩:=cV hp;obtain⟨q,O,rfl⟩:=cV I;rw[N,N,aF5,←aMa];exact kk i p q J O
 ·obtain⟨p,J,rfl⟩:=cV hp;rw[hp] at I;obtain rfl:=Option.some.inj I;rw[N,N,aF5,←aMa];exact kb p (η J)
 ·obtain⟨p,J,rfl⟩:=cV hp;rw[hp] at I;obtain rfl:=Option.some.inj I;obtain⟨g1,g2,_⟩:=ka p (η J);exact⟨⟨rfl,rfl,rfl,rfl,g1⟩,rfl,g2⟩
 ·obtain⟨p,J,rfl⟩:=cV hp;rw[hp] at I;obtain rfl:=Option.some.inj I;obtain⟨_,_,g3⟩:=ka p (η J);rw[aF5,←aMa];exact g3
theorem RV.lam' {a d:Core}(hs:PP u s s') (h:RV u ((s,s')::dg L') (tE a) (tE d)):RV u (dg L') (tE (.mk 5 n s t [a] [] [])) (tE (.mk 5 n s' t [d] [] [])):=by
 rw[iX,iX];refine .node (by decide) (fun _=>⟨hs,rfl⟩) (.inl rfl) rfl rfl rfl (fun b hb=>by cases hb) (fun i p q hp I=>?_) (fun i p q hp=>by cases hp) (fun i p q hp=>by cases hp) (fun i p q hp=>by cases hp);cases i with
 | zero=>
  obtain rfl:=Option.some.inj hp;obtain rfl:=Option.some.inj I;exact h
 | succ i=>cases hp
end
theorem gT {P:Core→Core→Prop}{a b:Core}(h:P a b):∀(i:Nat) (x y:Core),[a][i]?=some x→[b][i]?=some y→P x y
 | 0,x,y,hx,hy=>by
  obtain rfl:=Option.some.inj hx;obtain rfl:=Option.some.inj hy;exact h
 | i+1,x,y,hx,_=>by cases hx
theorem aBp {P:Core→Core→Prop}{a b q b':Core}(h:P a q) (h2:P b b'):∀(i:Nat) (x y:Core),[a,b][i]?=some x→[q,b'][i]?=some y→P x y
 | 0,x,y,hx,hy=>by
  obtain rfl:=Option.some.inj hx;obtain rfl:=Option.some.inj hy;exact h
 | i+1,x,y,hx,hy=>gT h2 i x y hx hy
theorem bC {α:Type}{P:α→Prop}:∀x∈([]:List α),P x:=fun x hx=>by cases hx
theorem s8 {P:Core→Core→Prop}:∀(i:Nat) (x y:Core),([]:List Core)[i]?=some x→([]:List Core)[i]?=some y→P x y:=fun i x y hx=>by cases hx
theorem GC.refl {u:Str}{L:List Str}{m:Nat}{c:Core}(h:GC L m c):∀{L':List Str},(∀s∈nm6,s∈L→s∈L')→RV u (dg L') (tE c) (tE c):=by
 have bind:∀{L L':List Str} {s:Str},(∀x∈nm6,x∈L→x∈L')→∀x∈nm6,x∈L++[s]→x∈s::L':=fun hm x hx h=>by
  rcases χ.1 h with h | h
  ·exact κ _ (hm x hx h)
  ·rw[Aa.1 h];exact ζ
 have vars:∀{L L' vs:List Str},(∀x∈nm6,x∈L→x∈L')→∀x∈nm6,x∈L++vs→x∈vs++L':=fun hm x hx h=>by
  rcases χ.1 h with h | h
  ·exact χ.2 (.inr (hm x hx h))
  ·exact χ.2 (.inl h)
 induction h with
 | var h hL=>exact fun hm=>by rw[iX];exact .var (AV.dg (hm _ h hL))
 | con h=>exact fun _=>.mk' (by decide) (by decide) (.inr rfl) rfl bC s8 bC bC
 | int h=>exact fun _=>.mk' (by decide) (by decide) (.inr rfl) rfl bC s8 bC bC
 | app _ _ q I=>exact fun hm=>.mk' (by decide) (by decide) (.inr rfl) rfl bC (aBp (q hm) (I hm)) bC bC
 | lam h _ _ _ q=>exact fun hm=>.lam' ⟨h,.inl rfl⟩ (q (L':=_::_) (bind hm))
 | tc _ _ _=>exact fun _=>.mk' (by decide) (by decide) (.inr rfl) rfl bC (gT (.mk' (by decide) (by decide) (.inr rfl) rfl bC s8 bC bC)) bC bC
 | tc2 _ _ _ _ _=>exact fun _=>.mk' (by decide) (by decide) (.inr rfl) rfl bC (gT (.mk' (by decide) (by decide) (.inr rfl) rfl bC (gT (.mk' (by decide) (by decide) (.inr rfl) rfl bC s8 bC bC)) bC bC)) bC bC
 | tr _ _ _ hx _ _ _ _ q I=>
  exact fun hm=>.mk' (by decide) (by decide) (.inr rfl) rfl bC (aBp (.mk' (by decide) (by decide) (.inr rfl) rfl bC (gT (.mk' (by decide) (by decide) (.inl rfl) rfl bC (gT (.lam' ⟨hx,.inl rfl⟩ (q (L':=_::_) (bind hm)))) bC bC)) bC bC) (I hm)) bC bC
 | tlam _ _ q=>exact fun hm=>.mk' (by decide) (by decide) (.inl rfl) rfl bC (gT (q hm)) bC bC
 | lt h _ _ _ _ q I=>exact fun hm=>.mk' (by decide) (by decide) (.inr rfl) rfl (j1 h) (gT (q (bind hm))) (j1 (I (bind hm))) bC
 | case1 _ _ _ _ h1 h2 h3 h4 h5 h6 q I=>exact fun hm=>.mk' (by decide) (by decide) (.inr rfl) rfl bC (gT (q hm)) bC (j1 ⟨h6,h4,I (vars hm)⟩)
 | case2 _ _ _ _ _ h1 h2 h3 h4 h5 h6 h1' h2' h3' h4' h5' h6' q I J=>exact fun hm=>.mk' (by decide) (by decide) (.inr rfl) rfl bC (gT (q hm)) bC (aD1 ⟨h6,h4,I (vars hm)⟩ ⟨h6',h4',J (vars hm)⟩)
 | prim _ _ _ q I=>exact fun hm=>.mk' (by decide) (by decide) (.inr rfl) rfl bC (aBp (q hm) (I hm)) bC bC
 | fail _ _=>exact fun _=>.mk' (by decide) (by decide) (.inr rfl) rfl bC s8 bC bC
theorem MW.re {V:List Str}{f n:Int}{s s':Str}{t:Ty}{ks ks':List Core}{bs:List Bind}{al:List Alt}(h:MW V (.mk f n s t ks bs al)) (J:QL 403 f s' t ks'.length (bs.map bhd) (al.map ahd)) (hk:∀x∈ks',MW V x):MW V (.mk f n s' t ks' bs al):=by
 obtain⟨_,_,N,O⟩:=aT.1 h.q;refine⟨aT.2 ⟨J,fun x hx=>(hk x hx).q,N,O⟩,fun E ρ I=>?_,fun x hx=>?_⟩
 ·obtain⟨W,Y,_,Z,w5⟩:=fG.1 (h.w E ρ I);refine fG.2 ⟨W,Y,fun x hx=>(hk x hx).w E _ fun y=>?_,Z,w5⟩;split
  ·unfold fP;split
   ·exact le_refl _
   ·exact I y
  ·exact I y
 ·rcases bK.1 hx with h1 | ⟨y,hy,h1,_⟩ | h1
  ·exact h.v x (bK.2 (.inl h1))
  ·exact(hk y hy).v x h1
  ·exact h.v x (bK.2 (.inr (.inr h1)))
structure RR (u:Str) (k:Nat) (V L:List Str) (c r:Core):Prop where
 imp:aU Tryz.prog 15 [.pa (aB c),I .i64 (k:Int)] [] (.pa (aB r)) []
 mw:MW V r
 tl:tlC r≤tlC c
 sz:m30 r≤m30 c
 rv:∀L',(∀s∈L',s∈nm6)→(∀s∈nm6,s∈L→s∈L')→RV u (dg L') (tE c) (tE r)
theorem sF {α β:Type}{P:α→β→Prop}:∀{l:List α},(∀x∈l,∃y,P x y)→∃m:List β,m.length=l.length∧∀(i:Nat) (x:α) (y:β),l[i]?=some x→m[i]?=some y→P x y
 | [],_=>⟨[],rfl,fun i x y hx=>by cases hx⟩
 | a::l,h=>by
  obtain⟨b,hb⟩:=h a ζ;obtain⟨m,h1,h2⟩:=sF (l:=l) fun x hx=>h x (κ _ hx)
  refine⟨b::m,by rw[Ag,Ag,h1],fun i x y hx hy=>?_⟩;cases i with
  | zero=>
   obtain rfl:=Option.some.inj hx;obtain rfl:=Option.some.inj hy;exact hb
  | succ i=>exact h2 i x y hx hy
theorem aLi {k:Nat}{V L:List Str}{u:Str}:∀{ks rs:List Core},rs.length=ks.length→(∀(i:Nat) (x r:Core),ks[i]?=some x→rs[i]?=some r→RR u k V L x r)→iJ rs≤iJ ks∧cK rs≤cK ks
 | [],[],_,_=>⟨le_refl _,le_refl _⟩
 | [],_::_,h,_=>by cases h
 | _::_,[],h,_=>by cases h
 | x::ks,r::rs,h,I=>by
  have h0:=I 0 x r rfl rfl;obtain⟨g1,g2⟩:=aLi (ks:=ks) (rs:=rs) (by simpa using h) fun i p q hp J=>I (i+1) p q hp J
  have h1:=h0.tl;have h2:=h0.sz;rw[iJ,iJ,cK,cK];omega
section
variable {k:Nat}{V L:List Str}{f n:Int}{s:Str}{t:Ty}{bs:List Bind}{al:List Alt}
theorem RR.node (hk:k≤100) (hf:¬f=1∧¬f=5∧¬f=7) {ks:List Core}(hs:s.length≤1000) (hl:ks.length≤1000) (hm:MW V (.mk f n s t ks bs al)) (h:∀x∈ks,∃r,RR (iG k) k V (L++bs.map Bind.name) x r) (hbn:∀b∈bs,b.name∈nm6)
  (kb:∀b∈bs,∀L',(∀s∈nm6,s∈L++bs.map Bind.name→s∈L')→RV (iG k) (dg L') (tE b.body) (tE b.body))
  (ka:∀a∈al,(a.form=1∨a.vars=[])∧(∀v∈a.vars,v∈nm6)∧∀L',(∀s∈nm6,s∈L++a.vars→s∈L')→RV (iG k) (dg L') (tE a.body) (tE a.body)):∃r,RR (iG k) k V L (.mk f n s t ks bs al) r:=by
 obtain⟨rs,h1,h2⟩:=sF h;have vars:∀{L' vs:List Str},(∀x∈nm6,x∈L→x∈L')→∀x∈nm6,x∈L++vs→x∈vs++L':=fun hm x hx h=>by
  rcases χ.1 h with h | h
  ·exact χ.2 (.inr (hm x hx h))
  ·exact χ.2 (.inl h)
 obtain⟨g1,g2⟩:=aLi h1 h2;refine⟨.mk f n s t rs bs al,mU k hk hs hl h1 (fun i x r hx N=>(h2 i x r hx N).imp) (fun e=>absurd e hf.2.1) (fun e=>absurd e hf.2.2) (fun _ _=>rfl),hm.re ?_ fun r N=>?_,?_,?_,fun L' h6 I=>.mk' hf.1 hf.2.1 (.inr rfl) h1.symm hbn (fun i x y hx hy=>(h2 i x y hx hy).rv _ (fun z J=>?_) (vars I)) (fun b hb=>kb b hb _ (vars I)) fun a ha=>?_⟩
 ·rw[h1];exact(aT.1 hm.q).1
 ·obtain⟨i,hi⟩:=List.mem_iff_getElem?.1 N;obtain⟨x,hx⟩:=eZ h1 hi;exact(h2 i x r hx hi).mw
 ·rw[tlC,tlC];omega
 ·rw[m30,m30];omega
 ·rcases χ.1 J with J | J
  ·obtain⟨b,hb,rfl⟩:=Ad.1 J;exact hbn b hb
  ·exact h6 z J
 ·obtain⟨O,a2,a3⟩:=ka a ha;exact⟨O,a2,a3 _ (vars I)⟩
theorem RR.leaf (hk:k≤100) (hf:¬f=1∧¬f=5∧¬f=7) (hs:s.length≤1000) (hm:MW V (.mk f n s t [] [] [])):∃r,RR (iG k) k V L (.mk f n s t [] [] []) r:=RR.node hk hf hs (by simp) hm bC bC bC bC
end
section
variable {k:Nat}{V L:List Str}{n:Int}{s:Str}{t:Ty}{a r:Core}
theorem RR.lam (Y:cQ 540000000000) (hk:k≤100) (hu:UO (iG k)) (hs:s∈nm6) (Z:nh (s++iG k)) (I:(s++iG k).length≤30) (hV:V.length≤480000) (hm:MW V (.mk 5 n s t [a] [] [])) (ht:tlC a≤6000) (hsz:m30 a≤3500000) (h:RR (iG k) k V (L++[s]) a r):∃r,RR (iG k) k V L (.mk 5 n s t [a] [] []) r:=by
 have O:CG 400 650000 403 r:=(ST.of h.mw (le_trans h.tl ht) (le_trans h.sz hsz) 0).cg (by decide) hV;have J:MW V (vC (s++iG k)):=pL (eL rfl (fun h=>by cases h) rfl I (fun h=>by cases h)) .z (by simp) (by simp) (by simp);have hw:=aGv I;have hw2:=aGv (s7 _ hs);have hm30:m30 (vC (s++iG k))=31:=by unfold vC;rw[m30,cK,fR,iC];omega
 have W:CG 400 650000 403 (vC (s++iG k)):=(ST.of J (by rw[aOc];decide) (by omega) 0).cg (by decide) hV;have hS:=aYu Y (D:=400) (M:=650000) (X:=403) (by decide) (by decide) (m30 r) r (le_refl _) O s _ W;have N:=sS Y (D:=400) (M:=650000) (X:=403) (by decide) (by decide) (m30 r) r (le_refl _) O s _ W;have tz:=N.sz 1 (le_refl _) (by omega);have tt:=N.rx.tl;rw[aOc] at tt;have h1:=h.tl;have h2:=h.sz;have hrv:=h.rv;obtain⟨d,hd⟩:∃d,d=cB (m30 r) r s (vC (s++iG k)):=⟨_,rfl⟩
 have hmd:MW V d:=by
  rw[hd];refine⟨N.rx.q,fun E ρ hρ=>?_,fun x hx=>?_⟩
  ·have g1:=N.rx.cw fD E ρ;have g2:=h.mw.w E ρ hρ;have g3:=J.w E ρ hρ;omega
  ·rcases N.rx.ty x hx with g | g
   ·exact h.mw.v x g
   ·exact J.v x g
 rw[←hd] at hS tz tt;refine⟨.mk 5 n (s++iG k) t [d] [] [],mU k hk (by have:=aKn s hs;omega) (by simp) rfl (rs:=[r]) (gT h.imp) (fun _=>⟨r,d,rfl,hS,rfl⟩) (fun e=>absurd e (by decide)) (fun e=>absurd rfl e),hm.re (eL rfl (fun h=>by cases h) (aT.1 hm.q).1.2.2.1 I fun _=>Z) (j1 hmd),?_,?_,fun L' h6 hm'=>.lam' ⟨hs,.inr rfl⟩ ?_⟩
 ·rw[tlC,tlC,iJ,iJ,iJ];omega
 ·rw[m30,m30,cK,cK,cK];omega
 ·have g:=hrv (s::L') (fun x hx=>(Ao.1 hx).elim (fun e=>by rw[e];exact hs) (h6 x)) fun x hx h=>by
   rcases χ.1 h with h | h
   ·exact κ _ (hm' x hx h)
   ·rw[Aa.1 h];exact ζ
  have hcf:=g.cf hu hs (a0r fun x hx=>(Ao.1 hx).elim (fun e=>by rw[e];exact hs) (h6 x));have e:=aQ6 (X:=403) (s:=s) (b:=vC (s++iG k)) (m30 r) r (le_trans (bV _) (zR r)) (tZ _ r (le_refl _) h.mw.q) hcf;rw[aWn] at e;rw[hd,e];have g':RV (iG k) ([]++(s,s)::dg L') (tE a) (tE r):=g;have:=g'.ren hu hs rfl (fun p hp=>by cases hp) (by rw[aYp];exact fun hx=>hu s hs (h6 _ hx));exact this
theorem RR.tlam (W:cQ 540000000000) (hk:k≤100) (I:(s++iG k).length≤30) (hs:s.length≤30) (hV:V.length≤480000) (Y:s++iG k∈V) (hm:MW V (.mk 7 n s zTy [a] [] [])) (ht:tlC a≤6000) (Z:m30 a≤3500000) (h:RR (iG k) k V L a r):∃r,RR (iG k) k V L (.mk 7 n s zTy [a] [] []) r:=by
 have J:CG 400 650000 403 r:=(ST.of h.mw (le_trans h.tl ht) (le_trans h.sz Z) 0).cg (by decide) hV;have hw:=aGv I;have hw2:=aGv hs;have O:∀ρ,tW fD (vT (s++iG k)) ρ=ρ (s++iG k):=fun ρ=>by unfold vT;rw[tW,ξ rfl]
 have hS:=aYv W (D:=400) (M:=650000) (X:=403) (by decide) (m30 r) r (le_refl _) J s _ (UOk.var (s++iG k)) (by rw[O];exact Aj _);have N:=tQ W (D:=400) (M:=650000) (X:=403) (by decide) (m30 r) r (le_refl _) J s _ (UOk.var (s++iG k));have hty:=aRa W (D:=400) (M:=650000) (X:=403) (by decide) (m30 r) r (le_refl _) J s _ (UOk.var (s++iG k));have tz:=N.sz;have tt:=N.tl;have h1:=h.tl;have h2:=h.sz;have hrv:=h.rv;have hne:¬s++iG k=[]:=fun e=>by
  have:=(List.append_eq_nil_iff.1 e).2
  cases this
 obtain⟨d,hd⟩:∃d,d=sTR (m30 r) r s (vT (s++iG k)):=⟨_,rfl⟩
 have hmd:MW V d:=by
  rw[hd];refine⟨N.q,fun E ρ hρ=>?_,fun x hx=>?_⟩
  ·refine le_trans (N.cw fD E ρ) (h.mw.w E _ fun x=>?_);unfold fP;split
   ·rw[O];exact hρ _
   ·exact hρ x
  ·rcases hty x hx with⟨g,_⟩ | g
   ·exact h.mw.v x g
   ·have e:tfR (vT (s++iG k))=[s++iG k]:=by unfold vT;rw[tfR,ξ rfl]
    rw[e,Aa] at g;rw[g];exact Y
 rw[←hd] at hS tz tt;refine⟨.mk 7 n (s++iG k) zTy [d] [] [],mU k hk (by omega) (by simp) rfl (rs:=[r]) (gT h.imp) (fun e=>absurd e (by decide)) (fun _=>⟨r,d,rfl,hS,rfl⟩) (fun _ e=>absurd rfl e),hm.re (eL rfl (fun _=>⟨rfl,hne⟩) rfl I (fun h=>by cases h)) (j1 hmd),?_,?_,fun L' h6 hm'=>.mk' (by decide) (by decide) (.inl rfl) rfl bC (gT ?_) bC bC⟩
 ·rw[tlC,tlC,iJ,iJ,iJ];omega
 ·rw[m30,m30,cK,cK,cK];omega
 ·have g:=hrv L' h6 hm';rw[hd,wB];exact g
end
def V1 (k:Nat):List Str:=tvN++tvN.map (· ++iG k)
theorem a0q (hI:cQ 540000000000) {k:Nat}(hk:k≤100) (hu:UO (iG k)) (hnh:∀s∈nm6,nh (s++iG k)) (W:∀s:Str,s.length≤8→(s++iG k).length≤30) {L:List Str}{m:Nat}{c:Core}(h:GC L m c):m≤110000→∃r,RR (iG k) k (V1 k) L c r:=by
 have up:∀{L:List Str} {m:Nat} {c:Core},GC L m c→MW (V1 k) c:=fun h=>(aYc h).1.mono fun x hx=>χ.2 (.inl hx)
 have upq:∀{m:Nat} {c:Core},gQ m c→MW (V1 k) c:=fun h=>h.1.mono fun x hx=>χ.2 (.inl hx)
 have hV:(V1 k).length≤480000:=by unfold V1;rw[ω,θ];decide
 have l8:∀s∈nm6,s.length≤8:=by decide
 have inV:∀s∈tvN,s++iG k∈V1 k:=fun s hs=>χ.2 (.inr (Ad.2 ⟨s,hs,rfl⟩))
 have one:∀{L:List Str} {x:Core},(∃r,RR (iG k) k (V1 k) L x r)→∀y∈[x],∃r,RR (iG k) k (V1 k) (L++[]) y r:=fun h y hy=>by rw[Aa.1 hy,A0];exact h
 have two:∀{L:List Str} {x z:Core},(∃r,RR (iG k) k (V1 k) L x r)→(∃r,RR (iG k) k (V1 k) L z r)→∀y∈[x,z],∃r,RR (iG k) k (V1 k) (L++[]) y r:=fun h h2 y hy=>by
  rcases Ao.1 hy with rfl | hy
  ·rw[A0];exact h
  ·exact one h2 y hy
 have Y:∀{L:List Str} {m:Nat} {c:Core},GC L m c→m≤110000→tlC c≤6000∧m30 c≤3500000:=fun h hm=>by have:=aYc h;omega
 induction h with
 | @var L s h hL=>
  intro _;refine⟨.mk 1 0 s zTy [] [] [],mU k hk (by have:=aKn s h;omega) (by simp) (rs:=[]) rfl (fun i x y hx=>by cases hx) (fun e=>by cases e) (fun e=>by cases e) (fun _ _=>rfl),up (.var h hL),le_refl _,le_refl _,fun L' h6 hm'=>GC.refl (.var h hL) hm'⟩
 | con h=>exact fun _=>RR.leaf hk (by decide) (by omega) (up (L:=[]) (.con h))
 | int h=>exact fun _=>RR.leaf hk (by decide) (by decide) (up (L:=[]) (.int h))
 | app ha hb I J=>exact fun hm=>RR.node hk (by decide) (by decide) (by simp) (up (.app ha hb)) (two (I (by omega)) (J (by omega))) bC bC bC
 | @lam L m _ s t a h ht q ha I=>
  intro hm;obtain⟨Z,l2⟩:=Y ha (by omega);obtain⟨r,hr⟩:=I (by omega);exact RR.lam hI hk hu h (hnh s h) (W s (l8 s h)) hV (up (.lam h ht q ha)) Z l2 hr
 | @tc L _ t s h ht q=>exact fun _=>RR.node hk (by decide) (by decide) (by simp) (up (L:=[]) (.tc h ht q)) (one (RR.leaf hk (by decide) (by omega) (up (L:=[]) (.con h)))) bC bC bC
 | @tc2 L _ _ w t s h hw hj ht q=>
  exact fun _=>RR.node hk (by decide) (by decide) (by simp) (up (L:=[]) (.tc2 h hw hj ht q)) (one (RR.node hk (by decide) (by decide) (by simp) (up (L:=[]) (.tc h hw hj)) (one (RR.leaf hk (by decide) (by omega) (up (L:=[]) (.con h)))) bC bC bC)) bC bC bC
 | @tr L m n _ _ w t s x a b hw hj hs hx ht q ha hb I J=>
  intro hm;obtain⟨Z,l2⟩:=Y ha (by omega);obtain⟨r,hr⟩:=I (by omega);have O:GC L (m+4) (.mk 5 0 x t [a] [] []):=.lam hx ht q ha;obtain⟨l3,l4⟩:=Y O (by omega);obtain⟨r1,hr1⟩:=RR.lam hI hk hu hx (hnh x hx) (W x (l8 x hx)) hV (up O) Z l2 hr;have htl:GC L (m+4+20) (.mk 7 0 s zTy [.mk 5 0 x t [a] [] []] [] []):=.tlam hs O;have h8:=aZn s hs;have hr2:=RR.tlam hI hk (W s h8) (by omega) hV (inV s hs) (up htl) l3 l4 hr1;have hq6:=sH hw (aYc htl);exact RR.node hk (by decide) (by decide) (by simp) (up (.tr hw hj hs hx ht q ha hb)) (two (RR.node hk (by decide) (by decide) (by simp) (upq hq6) (one hr2) bC bC bC) (J (by omega))) bC bC bC
 | @tlam L m s a hs ha I=>
  intro hm;obtain⟨Z,l2⟩:=Y ha (by omega);obtain⟨r,hr⟩:=I (by omega);have h8:=aZn s hs;exact RR.tlam hI hk (W s h8) (by omega) hV (inV s hs) (up (.tlam hs ha)) Z l2 hr
 | @lt L m n _ s t a b h ht q ha hb I J=>
  exact fun hm=>RR.node hk (by decide) (by decide) (by simp) (up (.lt h ht q ha hb)) (j1 (I (by omega))) (j1 h) (j1 fun L' N=>GC.refl hb N) bC
 | case1 ht q ha hb h1 h2 h3 h4 h5 h6 I J=>
  exact fun hm=>RR.node hk (by decide) (by decide) (by simp) (up (.case1 ht q ha hb h1 h2 h3 h4 h5 h6)) (one (I (by omega))) bC bC (j1 ⟨h6,h4,fun L' N=>GC.refl hb N⟩)
 | case2 ht q ha hb hc h1 h2 h3 h4 h5 h6 h1' h2' h3' h4' h5' h6' I J ihc=>
  exact fun hm=>RR.node hk (by decide) (by decide) (by simp) (up (.case2 ht q ha hb hc h1 h2 h3 h4 h5 h6 h1' h2' h3' h4' h5' h6')) (one (I (by omega))) bC bC (aD1 ⟨h6,h4,fun L' N=>GC.refl hb N⟩ ⟨h6',h4',fun L' N=>GC.refl hc N⟩)
 | prim h ha hb I J=>exact fun hm=>RR.node hk (by decide) (by have:=aCg _ h;omega) (by simp) (up (.prim h ha hb)) (two (I (by omega)) (J (by omega))) bC bC bC
 | fail ht q=>exact fun _=>RR.leaf hk (by decide) (by decide) (up (L:=[]) (.fail ht q))
mutual
theorem rJ:∀c:Core,dQ (tE c)=dQ c
 | .mk f n s t ks bs al=>by rw[tE,dQ,dQ,aEg,aEh,aEi]
theorem aEg:∀l:List Core,c6 (tEs l)=c6 l
 | []=>by rw[tEs]
 | c::l=>by rw[tEs,c6,c6,rJ c,aEg l]
theorem aEh:∀l:List Bind,fN (tEb l)=fN l
 | []=>by rw[tEb]
 | .mk s t c::l=>by rw[tEb,fN,fN,rJ c,aEh l]
theorem aEi:∀l:List Alt,fO (tEa l)=fO l
 | []=>by rw[tEa]
 | .mk f n s v c::l=>by rw[tEa,fO,fO,rJ c,aEi l]
end
theorem u6:∀{l l':List Core},l.length=l'.length→(∀(i:Nat) (x y:Core),l[i]?=some x→l'[i]?=some y→dQ x=dQ y)→c6 l=c6 l'
 | [],[],_,_=>rfl
 | [],_::_,h,_=>by cases h
 | _::_,[],h,_=>by cases h
 | x::l,y::l',h,hg=>by rw[c6,c6,hg 0 x y rfl rfl,u6 (l:=l) (l':=l') (by simpa using h) fun i p q hp I=>hg (i+1) p q hp I]
theorem u7:∀{l l':List Bind},l.length=l'.length→(∀(i:Nat) (x y:Bind),l[i]?=some x→l'[i]?=some y→dQ x.body=dQ y.body)→fN l=fN l'
 | [],[],_,_=>rfl
 | [],_::_,h,_=>by cases h
 | _::_,[],h,_=>by cases h
 | .mk s t x::l,.mk s' t' y::l',h,hg=>by
  have e:dQ x=dQ y:=hg 0 _ _ rfl rfl;rw[fN,fN,e,u7 (l:=l) (l':=l') (by simpa using h) fun i p q hp I=>hg (i+1) p q hp I]
theorem uA:∀{l l':List Alt},l.length=l'.length→(∀(i:Nat) (x y:Alt),l[i]?=some x→l'[i]?=some y→dQ x.body=dQ y.body)→fO l=fO l'
 | [],[],_,_=>rfl
 | [],_::_,h,_=>by cases h
 | _::_,[],h,_=>by cases h
 | .mk f n s v x::l,.mk f' n' s' v' y::l',h,hg=>by
  have e:dQ x=dQ y:=hg 0 _ _ rfl rfl;rw[fO,fO,e,uA (l:=l) (l':=l') (by simpa using h) fun i p q hp I=>hg (i+1) p q hp I]
section
variable {H:Core→Core→Prop}
theorem RA.size (hn:∀b x,¬H b x) {ρ:List (Str×Str)}{c c':Core}(h:RA H ρ c c'):dQ c=dQ c':=by
 induction h with
 | hole h=>exact absurd h (hn _ _)
 | var h=>rw[dQ,dQ]
 | node h1 hs lk lb la _ _ ha _ q I J=>rw[dQ,dQ,u6 lk q,u7 lb I,uA la J]
theorem RE.size (hn:∀b x,¬H b x) {c c':Core}(h:RA H [] (tE c) (tE c')):dQ c=dQ c':=by
 have:=RA.size hn h;rwa [rJ,rJ] at this
theorem nsh {c:Core}(h:shC c=false):¬shC c=true:=by rw[h];exact Aw
variable {bd bd':List Bind}{U U':List Str}{n n':Nat}
theorem aIb (hI:cQ 540000000000) (hH:HOK H bd) (O:∀b x,¬H b x) (hU:U.length≤480000) (hU':U'.length≤480000) (hB:BI U bd) (hB':BI U' bd'):∀(k j:Nat) (c c':Core),n+j+k≤99→n'+j+k≤99→ST (n+j) U c→ST (n'+j) U' c'→RA H [] (tE c) (tE c')→
  (bN bd k j c).2=(bN bd' k j c').2∧((bN bd k j c).2.2=0→RA H [] (tE (bN bd k j c).1) (tE (bN bd' k j c').1)):=by
 have N:∀(k j:Nat) (c c':Core),ST (n+j) U c→RA H [] (tE c) (tE c')→shC c=true→(bN bd k j c).2=(bN bd' k j c').2∧((bN bd k j c).2.2=0→RA H [] (tE (bN bd k j c).1) (tE (bN bd' k j c').1)):=fun k j c c' hc I hs=>by
  obtain⟨hs',_⟩:=RA.sh hH.sh hc.q I hs;have e:bN bd k j c=(c,j,0):=by cases k<;>rw[bN,ξ hs]
  have e':bN bd' k j c'=(c',j,0):=by cases k<;>rw[bN,ξ hs']
  rw[e,e'];exact⟨rfl,fun _=>I⟩
 have Y:∀(j:Nat) (c c':Core),ST (n+j) U c→ST (n'+j) U' c'→RA H [] (tE c) (tE c')→shC c=false→shC c'=false∧(dC bd (m30 c) c).2=(dC bd' (m30 c') c').2∧((dC bd (m30 c) c).2=0→RA H [] (tE (dC bd (m30 c) c).1) (tE (dC bd' (m30 c') c').1)):=fun j c c' hc J I hs=>by
  rcases aOm (bd':=bd') hH (m30 c) c c' (m30 c') (le_refl _) (le_refl _) hc.q J.q I hs with h | ⟨⟨b,x,h⟩,_⟩
  ·exact h
  ·exact absurd h (O _ _)
 intro k
 induction k with
 | zero=>
  intro j c c' _ _ hc J I;cases hs:shC c with
  | true=>exact N 0 j c c' hc I hs
  | false=>
   obtain⟨g1,_⟩:=Y j c c' hc J I hs;rw[bN,bN,φ (nsh hs),φ (nsh g1)];exact⟨rfl,fun h=>by cases h⟩
 | succ k ih=>
 intro j c c' hn hn' hc J I;cases hs:shC c with
 | true=>exact N (k+1) j c c' hc I hs
 | false=>
 obtain⟨g1,g2,g3⟩:=Y j c c' hc J I hs;have hst:=nP hI (n:=n+j) (by omega) hU hB (m30 c) c (le_refl _) hc;have Z:=nP hI (n:=n'+j) (by omega) hU' hB' (m30 c') c' (le_refl _) J;rw[bN,bN,φ (nsh hs),φ (nsh g1),←g2];by_cases e:(dC bd (m30 c) c).2=0
 ·rw[ξ e,ξ e,←RE.size O (g3 e)];by_cases W:6000<dQ (dC bd (m30 c) c).1
  ·rw[ξ W,ξ W];exact⟨rfl,fun h=>by cases h⟩
  ·rw[φ W,φ W];exact ih (j+1) _ _ (by omega) (by omega) ((hst e).st (by omega)) ((Z (by rw[←g2];exact e)).st (by rw[←RE.size O (g3 e)];omega)) (g3 e)
 ·rw[φ e,φ e];exact⟨rfl,fun h=>absurd h e⟩
end
def VH (m:Mod) (F:Nat) (c:Core):Prop:=∃n U,VG m n U F c
theorem VH.mono {m:Mod}{F G:Nat}{c:Core}(h:VH m F c) (q:G≤F):VH m G c:=by
 obtain⟨n,U,hv⟩:=h;have h1:=hv.nF;have h2:=hv.u;exact⟨n,U,by omega,hv.st,hv.z,hv.bi,by omega⟩
theorem VH.next (J:cQ 540000000000) {m:Mod}{F:Nat}{c:Core}(h:VH m F c) (h0:(bN m.binds F 0 c).2.2=0):
  cE (QL 403) (bN m.binds F 0 c).1∧shC (bN m.binds F 0 c).1=true∧((bN m.binds F 0 c).1.form=7→VH m (F-(bN m.binds F 0 c).2.1) ((bN m.binds F 0 c).1.kids.headD zC))∧
   ∀s l,gvC (bN m.binds F 0 c).1=some (s,l)→∀y∈l,∀G,G≤F-(bN m.binds F 0 c).2.1→VH m G y:=by
 obtain⟨n,U,hv⟩:=h;have N:U.length≤480000:=by have:=hv.u;omega
 obtain⟨g1,g2,g3⟩:=aBn (n:=n) J N hv.bi F 0 c (by have:=hv.nF;omega) hv.st h0;obtain⟨_,I⟩:=vS (bd:=m.binds) F 0 c h0;generalize bN m.binds F 0 c=w at *;obtain⟨x,j,e⟩:=w;dsimp only at g1 g2 g3 I ⊢;have Y:=hv.nF;have O:U.length+tlC x+6000*(F-j)≤480000:=by
  have h1:=hv.u;by_cases h0:j=0
  ·rw[g3 h0];omega
  ·have h2:=g1.tl;omega
 refine⟨g1.q,g2,fun h7=>?_,fun s l hg y hy G Z=>?_⟩
 ·obtain⟨f,i,s,t,ks,bs,al⟩:=x;have h7:f=7:=h7;subst h7;obtain⟨⟨a,rfl⟩,rfl,rfl⟩:=cO g1.q (.inr (.inr rfl));obtain⟨t1,t2,_⟩:=g1.tkid (x:=a) ζ;have hs:¬s=[]:=((aT.1 g1.q).1.2.1 rfl).2
  refine⟨n+j,s::U,by omega,t1,fun hm=>?_,hv.bi.monoU fun v hv=>κ _ hv,?_⟩
  ·rcases Ao.1 hm with e | hm
   ·exact hs e.symm
   ·exact hv.z hm
  ·show(s::U).length+tlC a+6000*(F-j)≤480000;rw[Ag];omega
 ·obtain⟨W,_⟩:=aUf _ _ (le_refl _) g1 s l hg;have k2:=aX4 _ _ (le_refl _) g1 s l hg y hy;exact⟨n+j,U,by omega,W y hy,hv.z,hv.bi,by omega⟩
section
variable {H:Core→Core→Prop}
theorem VH.le {m:Mod}{F:Nat}{c:Core}(h:VH m F c):∃n U,n+F≤99∧ST n U c∧U.length≤480000∧BI U m.binds:=by
 obtain⟨n,U,hv⟩:=h;exact⟨n,U,hv.nF,hv.st,by have:=hv.u;omega,hv.bi⟩
theorem u2 {f f':Nat→Core→VE}{R:Nat→Core→Core→Prop}(hf:∀F c c',R F c c'→f F c=f' F c') (hle:∀F c,(f F c).2.1≤F) (I:∀F G c c',R F c c'→G≤F→R G c c'):
  ∀(l l':List Core) (F:Nat),l.length=l'.length→(∀(i:Nat) (p q:Core),l[i]?=some p→l'[i]?=some q→R F p q)→dB f F l=dB f' F l'
 | [],[],_,_,_=>rfl
 | [],_::_,_,h,_=>by cases h
 | _::_,[],_,h,_=>by cases h
 | c::l,c'::l',F,h,hl=>by
  have e:=hf F c c' (hl 0 c c' rfl rfl);have J:=u2 hf hle I l l' (f F c).2.1 (by simpa using h) fun i p q hp N=>I F _ p q (hl (i+1) p q hp N) (hle F c)
  rw[dB,dB,←e,J]
theorem rA (J:cQ 540000000000) {m m':Mod}(W:HOK H m.binds) (I:∀b x,¬H b x) (hf:m.fields=m'.fields):∀(g d F:Nat) (c c':Core),VH m F c→VH m' F c'→RA H [] (tE c) (tE c')→eO m g d F c=eO m' g d F c'
 | 0,d,F,c,c',_,_,_=>rfl
 | g+1,d,F,c,c',hv,Y,hr=>by
  obtain⟨n,U,a1,a2,a3,a4⟩:=hv.le;obtain⟨n',U',b1,b2,b3,b4⟩:=Y.le;obtain⟨Z,e2⟩:=aIb (n:=n) (n':=n') J W I a3 b3 a4 b4 F 0 c c' (by omega) (by omega) a2 b2 hr;have nx:=hv.next J
  have nx':=Y.next J
  rw[eO,eO];by_cases hd:d=0
  ·rw[ξ hd,ξ hd]
  rw[φ hd,φ hd,←Z];by_cases h0:¬(bN m.binds F 0 c).2.2=0
  ·rw[ξ h0,ξ h0]
  rw[φ h0,φ h0];have h0:(bN m.binds F 0 c).2.2=0:=by omega
  obtain⟨q1,q2,q3,q4⟩:=nx h0;obtain⟨p1,p2,p3,p4⟩:=nx' (by rw[←Z];exact h0);have N:=e2 h0;rw[←Z] at p3 p4;obtain⟨_,s1,s2⟩:=RA.sh W.sh q1 N q2;have hgv:∀b x,H b x→gvC b=none:=fun b x h=>absurd h (I _ _)
  have hg:=RA.gv hgv _ _ _ (le_refl _) q1 N;generalize (bN m'.binds F 0 c').1=x' at *;generalize bN m.binds F 0 c=w at *;obtain⟨x,j,e⟩:=w;dsimp only at *;rw[←s1];by_cases h3:x.form=3
  ·rw[ξ h3,ξ h3,s2]
  rw[φ h3,φ h3];by_cases h7:x.form=7
  ·rw[ξ h7,ξ h7];refine rA J W I hf g d (F-j) _ _ (q3 h7) (p3 (by rw[←s1];exact h7)) ?_;obtain⟨fx,nx,sx,tx,kx,bx,ax⟩:=x;obtain⟨fy,ny,sy,ty',ky,by',ay⟩:=x';have h7:fx=7:=h7;have h7':fy=7:=by have:fx=fy:=s1;omega
   subst h7 h7';obtain⟨⟨u,rfl⟩,rfl,rfl⟩:=cO q1 (.inr (.inr rfl));obtain⟨⟨u',rfl⟩,rfl,rfl⟩:=cO p1 (.inr (.inr rfl));rcases N.inv with hh | ⟨h0,_⟩ | ⟨_,hxn⟩
   ·exact absurd hh (I _ _)
   ·cases h0
   ·exact hxn.kk 0 u u' rfl rfl
  rw[φ h7,φ h7];cases O:gvC x with
  | none=>
   have hfx:=uT q2 O;rw[aCo (by rw[←s1];exact hfx)];rfl
  | some p=>
   obtain⟨s,l⟩:=p;obtain⟨l',g1,g2,g3⟩:=hg s l O;rw[g1];unfold aBy;dsimp only;rw[←hf,←g2];have ht:=u2 (f:=fun F c=>eO m g (d-1) F c) (f':=fun F c=>eO m' g (d-1) F c) (R:=fun G p q=>VH m G p∧VH m' G q∧RA H [] (tE p) (tE q)) (fun G p q h=>rA J W I hf g (d-1) G p q h.1 h.2.1 h.2.2) (fun G p=>w3 g (d-1) G p)
    (fun G G' p q h hG=>⟨h.1.mono hG,h.2.1.mono hG,h.2.2⟩) l l' (F-j) g2 fun i p q hp hq=>⟨q4 s l O p (η hp) _ (le_refl _),p4 s l' g1 q (η hq) _ (le_refl _),g3 i p q hp hq⟩
   rw[ht]
end
theorem aQ2 {n B:Int}(h1: -(10*B)<n) (h2:n<10*B): -B<n.tdiv 10∧n.tdiv 10<B:=by
 rcases Int.le_total 0 n with h | h
 ·rw[Int.tdiv_eq_ediv_of_nonneg h];omega
 ·obtain⟨m,rfl⟩:∃m,n= -m:=⟨-n,by omega⟩
  rw[Int.neg_tdiv,Int.tdiv_eq_ediv_of_nonneg (by omega)];omega
theorem aWg (n:Int): -10<n.tmod 10∧n.tmod 10<10:=by
 rcases Int.le_total 0 n with h | h
 ·rw[Int.tmod_eq_emod_of_nonneg h];omega
 ·obtain⟨m,rfl⟩:∃m,n= -m:=⟨-n,by omega⟩
  rw[Int.neg_tmod,Int.tmod_eq_emod_of_nonneg (by omega)];omega
theorem aPp {n:Int}(h:i64 n):i64 (n.tdiv 10):=by
 have:=aQ2 (n:=n) (B:=922337203685477581) (by unfold i64 at h;omega) (by unfold i64 at h;omega);unfold i64;omega
theorem aYm (k:Nat) (J:∀n:Int,-((10:Int)^k)<n→n<(10:Int)^k→i64 n→k≤30→1≤k→∃s:Str,s.length≤k+1∧aU Tryz.prog 45 [I .i64 n] [] (Go.AM.T s) []) (n:Int) (h1: -((10:Int)^(k+1))<n) (h2:n<(10:Int)^(k+1)) (hn:i64 n) (hk:k+1≤30):
  ∃s:Str,s.length≤k+2∧aU Tryz.prog 45 [I .i64 n] [] (Go.AM.T s) []:=by
 obtain⟨r1,r2⟩:=aWg n;have N:=aPp hn;have hM:1000000000≤maxLen:=by decide
 obtain⟨r',q,hr0⟩:∃r':Int,(r'=if n.tmod 10<0 then 0-n.tmod 10 else n.tmod 10)∧0≤r'∧r'<10:=⟨_,rfl,by split<;>omega⟩
 obtain⟨d,hd⟩:∃d:UInt8,d=UInt8.ofNat (IntKind.u8.wrap (48+r')).toNat:=⟨_,rfl⟩
 by_cases O: -10<n∧n<10
 ·refine⟨if n<0 then [45,d] else [d],by split<;>simp,?_⟩;refine bO (n:=32) tok Tryz.func45 rfl rfl rfl ?_;refine sg rfl (sk 1 rfl (kw (op:=.rem) (a:=n) (b:=10) (n.tmod 10) rfl ?_));refine kz 1 rfl (a8 (sg rfl (AWp.cut (mk [(0,I .i64 n),(3,I .i64 r')] []) ?_ ?_)))
  ·refine aA rfl (fun hb=>?_) (fun hb=>?_)
   ·have hb:n.tmod 10<0:=ψ hb;rw[ξ hb] at q;subst q;exact ag [] rfl sl
   ·have hb:¬n.tmod 10<0:=δ hb;rw[φ hb] at q;subst q;exact aD sl
  refine sg rfl (AWp.sub (st2:=mk [(0,I .i64 n),(4,Go.AM.T [d])] []) (sl (he:=⟨rfl,by rw[hd];rfl,trivial⟩)) ?_);refine a8 (a8 (agF 3 [] rfl rfl rfl (aA rfl (fun _=>a8 (sg rfl ?_)) (fun hb=>by simp at hb;omega))));by_cases h0:n<0
  ·rw[ξ h0];exact aA rfl (fun _=>sg rfl (aI rtT)) (fun hb=>absurd h0 (δ hb))
  ·rw[φ h0];exact aA rfl (fun hb=>absurd (ψ hb) h0) (fun _=>aD (sg rfl (aI rtT)))
 ·have W:1≤k:=by
   cases k with
   | zero=>simp at h1 h2;omega
   | succ k=>omega
  have Y:(10:Int)^(k+1)=10*(10:Int)^k:=by rw[Int.pow_succ,Int.mul_comm]
  rw[Y] at h1 h2;obtain⟨Z,q2⟩:=aQ2 h1 h2;obtain⟨s,hs,hc⟩:=J (n.tdiv 10) Z q2 N (by omega) W;refine⟨s++[d],by rw[ω];simp;omega,?_⟩;refine bO (n:=32) tok Tryz.func45 rfl rfl rfl ?_;refine sg rfl (sk 1 rfl (kw (op:=.rem) (a:=n) (b:=10) (n.tmod 10) rfl ?_));refine kz 1 rfl (a8 (sg rfl (AWp.cut (mk [(0,I .i64 n),(3,I .i64 r')] []) ?_ ?_)))
  ·refine aA rfl (fun hb=>?_) (fun hb=>?_)
   ·have hb:n.tmod 10<0:=ψ hb;rw[ξ hb] at q;subst q;exact ag [] rfl sl
   ·have hb:¬n.tmod 10<0:=δ hb;rw[φ hb] at q;subst q;exact aD sl
  refine sg rfl (AWp.sub (st2:=mk [(0,I .i64 n),(4,Go.AM.T [d])] []) (sl (he:=⟨rfl,by rw[hd];rfl,trivial⟩)) ?_);refine a8 (a8 (agF 3 [] rfl rfl rfl (aA rfl (fun hb=>by simp at hb;exact absurd ⟨hb.1,hb.2⟩ O) (fun _=>aD (sk 1 rfl (kw (op:=.quo) (a:=n) (b:=10) (n.tdiv 10) (by show(if(10:Int)=0 then none else some (IntKind.i64.wrap (n.tdiv 10)))=some (n.tdiv 10);rw[φ (by decide),Cc _ N]) ?_))))));refine kc hc ?_;exact kz 3 rfl (aI (rtT (hc:=.refl)))
theorem aYn:∀(k:Nat) (n:Int),-((10:Int)^k)<n→n<(10:Int)^k→i64 n→k≤30→1≤k→∃s:Str,s.length≤k+1∧aU Tryz.prog 45 [I .i64 n] [] (Go.AM.T s) []
 | 0,n,_,_,_,_,h=>absurd h (by decide)
 | k+1,n,h1,h2,h3,h4,_=>aYm k (fun n=>aYn k n) n h1 h2 h3 h4
theorem aSa (n:Int) (h:i64 n):∃s:Str,s.length≤21∧aU Tryz.prog 45 [I .i64 n] [] (Go.AM.T s) []:=by
 have J:(10:Int)^20=100000000000000000000:=rfl;have q:=h;unfold i64 at q;exact aYn 20 n (by omega) (by omega) h (by omega) (by omega)
inductive KC:Core→Prop
 | mk {f n:Int} {s:Str} {ks:List Core} (h1:¬f=1) (h5:¬f=5) (h7:¬f=7) (hf:i64 f) (hn:i64 n) (hk:∀x∈ks,KC x):KC (.mk f n s zTy ks [] [])
theorem aMd {ks:List Core}:∀i,bR (ks.take i)≤bR ks:=by
 induction ks with
 | nil=>intro i;simp
 | cons c l q=>
  intro i;cases i with
  | zero=>rw[Bp,bR];omega
  | succ i=>rw[Ax,bR,bR];have:=q i;omega
theorem aAg {S:Core→Str}{K:Nat}:∀{l:List Core},(∀x∈l,(S x).length≤K*b7 x)→(l.flatMap S).length≤K*bR l
 | [],_=>by simp
 | c::l,h=>by
  rw[B9,ω,bR,Cz];have:=h c ζ;have:=aAg (l:=l) fun x hx=>h x (κ _ hx)
  omega
theorem a1t:∀(k:Nat) (c:Core),b7 c≤k→KC c→b7 c≤1000000→∃s:Str,s.length≤100*b7 c∧aU Tryz.prog 39 [.pa (aB c),aY [],aY []] [] (Go.AM.T s) []:=by
 intro k
 induction k with
 | zero=>intro c h;have:=c9 c;omega
 | succ k Z=>
 intro c h hc hsz;obtain⟨h1,h5,h7,hf,hn,O⟩:=hc;rename_i f n nm ks;have hM:1000000000≤maxLen:=by decide
 have hcs:b7 (.mk f n nm zTy ks [] [])=1+nm.length+bR ks:=by rw[b7,eT,eU];rfl
 obtain⟨S1,l1,c1⟩:=aSa f hf;obtain⟨S2,l2,c2⟩:=aSa n hn;have J:∀x:Core,∃s:Str,x∈ks→s.length≤100*b7 x∧aU Tryz.prog 39 [.pa (aB x),aY [],aY []] [] (Go.AM.T s) []:=fun x=>by
  by_cases hx:x∈ks
  ·have:=mR hx;obtain⟨s,g1,g2⟩:=Z x (by omega) (O x hx) (by omega);exact⟨s,fun _=>⟨g1,g2⟩⟩
  ·exact⟨[],fun h=>absurd h hx⟩
 obtain⟨S,hS⟩:=Classical.axiomOfChoice J;have q:∀i,((ks.take i).flatMap S).length≤100*bR ks:=fun i=>by
  have:=aAg (S:=S) (K:=100) (l:=ks.take i) fun x hx=>(hS x (Bl hx)).1
  have:=aMd (ks:=ks) i;omega
 have N:(aM ks).length=ks.length:=by rw[aR,θ]
 have hkc:ks.length≤bR ks:=by
  clear J hS q N hcs hsz O h Z
  induction ks with
  | nil=>simp
  | cons c l Z=>rw[bR,Ag];have:=c9 c;omega
 refine⟨([40]++S1++[32]++S2++[32])++nm++(ks.take ks.length).flatMap S++[41],?_,?_⟩
 ·have:=q ks.length;simp only[ω,Ag,length_nil];omega
 have hl0:([40]++S1++[32]++S2++[32]:Str).length≤50:=by simp only[ω,Ag,length_nil];omega
 refine bO (n:=200) tok Tryz.func39 rfl rfl rfl ?_;refine sg rfl (sk 2 rfl (kc c1 ?_));refine ak 4 [] rfl ?_ (hc:=by repeat (first | exact trivial | refine⟨by first | rfl | (simp;omega),?_⟩));refine kc c2 ?_;refine ak 3 [] rfl ?_ (hc:=by repeat (first | exact trivial | refine⟨by first | rfl | (simp;omega),?_⟩));refine az ?_;generalize hpre:([40]++S1++[32]++S2++[32]:Str)=pre at *;have hd5:(!decide (f=5))=true:=by simp[h5]
 refine a8 (sg rfl (aA rfl (fun hb=>absurd (ψ hb) h1) (fun _=>aD (a8 (sgh [(3,.bv true),(7,.bv true)] rfl (aA rfl (fun _=>ag [] rfl (a8 (sg rfl (aA rfl (fun hb=>absurd hb (by simp[Core.ty,zTy,Ty.form])) (fun _=>aD (sg rfl (AWp.sub (Sub.own (t:=8) (id:=720) 9 1 rfl rfl) ?_)))))) (hc:=⟨by show pre.length+nm.length≤maxLen;omega,trivial⟩)) (fun hb=>absurd hb (by simp[Core.form,h7]))))))));refine sgh [(2,.all)] rfl (sg rfl (AWp.sub (Sub.own (t:=9) (id:=721) 9 1 rfl rfl) ?_));refine sgh [(2,.all)] rfl (a8 (sg rfl (aA rfl (fun hb=>absurd (ψ hb) h5) (fun _=>aD (a8 (sg rfl (aA rfl (fun hb=>absurd (ψ hb) h7) (fun _=>aD (AWp.sub (Sub.freeze (id:=720) rfl) (AWp.sub (Sub.freeze (id:=721) rfl) (AWp.sub (cv 8 []) (AWp.sub (cv 9 []) ?_))))))))))));refine a8 (sg rfl (aC (aL (fun _:Unit=>mk [(3,.one (.vp 3 0)),(7,Go.AM.T (pre++nm)),(8,aY []),(9,aY []),(10,I .i64 0)] [(3,.var 37 (bA (.mk f n nm zTy ks [] [])))]) (fun _=>True) (fun _=>0) () trivial sl ?_)));intro _ _;refine a8 (sg rfl (aA rfl (fun hb=>by simp[nH,aS,iQ,bS] at hb) (fun _=>aO (a8 (sg rfl (aC (aL (fun i:Nat=>mk [(3,.one (.vp 3 0)),(7,Go.AM.T (pre++nm++(ks.take i).flatMap S)),(8,aY []),(9,aY []),(11,I .i64 i)] [(3,.var 37 (bA (.mk f n nm zTy ks [] [])))]) (fun i=>i≤ks.length) (fun i=>ks.length-i) 0 (Aj _) (sl (he:=⟨rfl,by rw[Bp,Cx,A0];rfl,rfl,rfl,rfl,trivial⟩)) ?_)))))));intro i hi;refine a8 (sg rfl (aA rfl (fun hb=>?_) (fun hb=>?_)))
 ·have W:i<ks.length:=ltD hb N;obtain⟨x,hx⟩:=aJ W;have Y:=η hx;have hx':(aM ks)[i]?=some (aB x):=by rw[aR];exact bM aB hx
  obtain⟨g1,g2⟩:=hS x Y;have hst:(ks.take (i+1)).flatMap S=(ks.take i).flatMap S++S x:=by rw[Bh,hx,Cl];simp
  have h3:=q i;have h4:=mR Y;refine aD (a8 (aC (aE mixed (ak 8 [(4,.row i (aB x))] rfl (kc g2 ?_)))));refine kz 2 rfl (ag [] rfl ⟨i+1,W,by dsimp only;omega,sl (he:=⟨rfl,by rw[hst,←At];rfl,rfl,rfl,rfl,trivial⟩)⟩) (hc:=⟨by simp only[ω];omega,trivial⟩)
 have hge:=geD hb N hi;subst hge;have h3:=q ks.length;refine aO (a8 (sg rfl (aC (aL (fun _:Unit=>mk [(3,.one (.vp 3 0)),(7,Go.AM.T (pre++nm++(ks.take ks.length).flatMap S)),(12,I .i64 0)] [(3,.var 37 (bA (.mk f n nm zTy ks [] [])))]) (fun _=>True) (fun _=>0) () trivial sl ?_))));intro _ _;refine a8 (sg rfl (aA rfl (fun hb=>by simp[nH,aS,iQ,bS] at hb) (fun _=>aO (a8 (sg rfl (aC (aL (fun _:Unit=>mk [(3,.one (.vp 3 0)),(7,Go.AM.T (pre++nm++(ks.take ks.length).flatMap S)),(13,I .i64 0)] [(3,.var 37 (bA (.mk f n nm zTy ks [] [])))]) (fun _=>True) (fun _=>0) () trivial sl ?_)))))));intro _ _;exact a8 (sg rfl (aA rfl (fun hb=>by simp[nH,aS,iQ,bS] at hb) (fun _=>aO (sg rfl (aI (rtT (hc:=.refl))) (hc:=⟨by simp only[ω,Ag,length_nil];omega,trivial⟩)))))
theorem aP7 {c:Core}(hc:KC c) (q:b7 c≤1000000):aU Tryz.prog 12 [.pa (aB c),.pa (aB c)] [] (B true) []:=by
 obtain⟨s,_,hs⟩:=a1t _ c (le_refl _) hc q;refine bO (n:=10) tok Tryz.func12 rfl rfl rfl ?_;refine sg rfl (sk 1 rfl (kc hs ?_));refine ak 1 [] rfl (kc hs ?_);refine kz 2 rfl ?_;have e:decide (s=s)=true:=Ak rfl;exact aI (rtT (hv:=by show some (B (decide (s=s)))=some (B true);rw[e]))
end Go.Proofs.YtockgoadliilhaaGreatDoor
