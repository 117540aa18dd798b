/-
  Texts Lx5 to Ch22 in one.
-/
import Derived.Test.YtglfogjcijokpaaGreatDoorM14
open List (drop_eq_getElem_cons drop_length length_append length_cons length_eq_one_iff length_map length_nil length_take map_append map_map mem_append mem_cons mem_cons_of_mem mem_cons_self mem_map mem_of_mem_take mem_singleton nodup_append take_append_drop take_length take_succ_cons)
open Nat (le_refl zero_le)
namespace Go.Proofs.YtglfogjcijokpaaGreatDoor
open Go Go.AM
set_option maxRecDepth 20000
def pos (left:Int):Int:=((left-1).toNat:Int)
def rJ (F:Int):Prop:=∀(v:Gv) (t:Ty) (n:Nat) (l:List Int) (left:Int),Gok v→7≤v.deep+F→v.deep≤8→GTW v.vars n t→(n:Int)≤33+8*v.deep→Ok l→left≤100→ -1000≤left-3*pos left→
 ∃(c:Core) (l':List Int) (left':Int) (m:Nat),GCW v m c t∧Ok l'∧(left'≤left∧left-3*pos left-1≤left'-3*pos left'∧(m:Int)+4100*pos left'≤2000+4100*pos left)∧
  aQ Tryz.prog 24 [.one (.vp 700 0),.pa (xV v),tyV t] (mO l left) (.pa (aC c)) (mO l' left')
theorem aVx (F:Int) (Z:rJ F) (v:Gv) (t:Ty) (n:Nat) (l:List Int) (left:Int) (hv:Gok v) (hF:7≤v.deep+1+F) (hd:v.deep≤6) (I:GTW v.vars n t) (hn:(n:Int)≤33+8*v.deep) (hl:Ok l) (hle:left≤100) (hlo: -1000≤left-3*pos left-2):
  ∃(c:Core) (l':List Int) (J:Int) (m:Nat),GCW v m c t∧Ok l'∧(J≤left∧left-3*pos left-3≤J-3*pos J∧(m:Int)+4100*pos J≤6050+4100*pos left)∧
   aQ Tryz.prog 55 [.one (.vp 700 0),.pa (xV v),tyV t] (mO l left) (.pa (aC c)) (mO l' J):=by
 have h0:=hv.d0;have hlen:=hv.len;have hvlen:=hv.vlen;obtain⟨tf,tn,ts,q⟩:=t;obtain⟨i,l1,hi,hl1,cN⟩:=jE l left 4 (by decide) hl;have more:∀(v:Gv) (s:Str) (u:Ty) (k:Nat),Gok v→0≤v.deep→v.deep≤8→GTW v.vars k u→k≤100→(s=[]∨s∈nm6)→Gok (dF v s u)∧aQ Tryz.prog 53 [.pa (xV v),Go.AM.T s,tyV u] [] (.pa (xV (dF v s u))) []:=fun v s u k h h0 h8 hu hk hs=>by
  have:=h.len;exact⟨h.more hs hu hk,y7 v s u (by omega) ⟨h0,by omega⟩⟩
 obtain⟨N,cM⟩:=more v [] (.mk tf tn ts q) n hv h0 (by omega) I (by omega) (.inl rfl);have hd1:(dF v [] (.mk tf tn ts q)).deep=v.deep+1:=rfl;by_cases h1:i=0
 ·subst h1;obtain⟨c1,l2,le2,m1,g1,aa,⟨b1,b1',b1''⟩,ab⟩:=Z (dF v [] (.mk tf tn ts q)) eU 1 l1 left N (by omega) (by omega) ⟨.con _ (by decide),.bool⟩ (by omega) hl1 hle (by omega);obtain⟨c2,l3,ac,m2,g2,ad,⟨b2,b2',b2''⟩,ae⟩:=Z (dF v [] (.mk tf tn ts q)) (.mk tf tn ts q) n l2 le2 N (by omega) (by omega) I (by omega) aa (by omega) (by omega);obtain⟨Y,l4,ah,m3,g3,ai,⟨b3,b3',b3''⟩,cS3⟩:=Z (dF v [] (.mk tf tn ts q)) (.mk tf tn ts q) n l3 ac N (by omega) (by omega) I (by omega) ad (by omega) (by omega);refine⟨.mk 9 0 [] (.mk tf tn ts q) [c1] [] [.mk 1 0 [84,114,117,101] [] c2,.mk 1 0 [70,97,108,115,101] [] Y],l4,ah,m1+m2+m3+40,⟨.case2 I.g (by omega) g1.g g2.g g3.g (by decide) (by decide) (by decide) (by simp) (by decide) (by decide) (by decide) (by decide) (by simp) (by decide),.cbool I.w g1.less.w g2.less.w g3.less.w⟩,ai,⟨by omega,by omega,by omega⟩,?_⟩;refine bM (n:=152) tok Tryz.func55 rfl rfl rfl ?_;refine sg rfl (sg rfl (a8 (sk 1 rfl (kc cN ?_))));refine az (aB (sg rfl (aA rfl (fun _=>sk 3 rfl (kc cM ?_)) nofun)));refine kc (gR [66,111,111,108]) ?_;refine kc ab ?_;refine ak 3 [(6,.all)] rfl (az (aE mixed (ak 3 [] rfl (kc cM ?_))));refine ak 1 [] rfl (kc ae ?_);refine ak 4 [] rfl (kc cM ?_);refine ak 1 [] rfl (kc cS3 ?_);refine kz 4 rfl (AWp.sub (Sub.freeze (id:=76) rfl) ?_);refine AWp.sub (aw 76 ([.mk 1 0 [84,114,117,101] [] c2,.mk 1 0 [70,97,108,115,101] [] Y].map c6)) ?_;refine AWp.sub (vp 7 (aC (.mk 9 0 [] (.mk tf tn ts q) [c1] [] [.mk 1 0 [84,114,117,101] [] c2,.mk 1 0 [70,97,108,115,101] [] Y]))) ?_;exact sg rfl (aF (rtC trw))
 by_cases h2:i=1
 ·subst h2;obtain⟨c1,l2,le2,m1,g1,aa,⟨b1,b1',b1''⟩,ab⟩:=Z (dF v [] (.mk tf tn ts q)) fM 1 l1 left N (by omega) (by omega) ⟨.con _ (by decide),.int⟩ (by omega) hl1 hle (by omega);obtain⟨j,l2b,hj,hl2b,cJ⟩:=jE l2 le2 5 (by decide) aa;obtain⟨c2,l3,ac,m2,g2,ad,⟨b2,b2',b2''⟩,ae⟩:=Z (dF v [] (.mk tf tn ts q)) (.mk tf tn ts q) n l2b le2 N (by omega) (by omega) I (by omega) hl2b (by omega) (by omega);obtain⟨Y,l4,ah,m3,g3,ai,⟨b3,b3',b3''⟩,cS3⟩:=Z (dF v [] (.mk tf tn ts q)) (.mk tf tn ts q) n l3 ac N (by omega) (by omega) I (by omega) ad (by omega) (by omega);refine⟨.mk 9 0 [] (.mk tf tn ts q) [c1] [] [.mk 2 ((j:Int)-1) [] [] c2,.mk 3 0 [] [] Y],l4,ah,m1+m2+m3+40,⟨.case2 I.g (by omega) g1.g g2.g g3.g (by decide) (by omega) (by decide) (by simp) (by decide) (by decide) (by decide) (by decide) (by simp) (by decide),.cint I.w g1.less.w g2.less.w g3.less.w⟩,ai,⟨by omega,by omega,by omega⟩,?_⟩;refine bM (n:=152) tok Tryz.func55 rfl rfl rfl ?_;refine sg rfl (sg rfl (a8 (sk 1 rfl (kc cN ?_))));refine az (aB (sg rfl (aA rfl nofun (fun _=>sg rfl (aA rfl (fun _=>sk 3 rfl (kc cM ?_)) nofun)))));refine kc (gR [73,110,116]) ?_;refine kc ab ?_;refine ak 3 [(6,.all)] rfl (az (aE mixed (ak 1 [] rfl (kc cJ ?_))));refine ak 4 [] rfl ?_ (hc:=by repeat (first | exact trivial | refine⟨by first | rfl | omega | (simp;omega) | (unfold Ty.name;simp;omega) | (simp;done),?_⟩));refine kc cM ?_;refine ak 1 [] rfl (kc ae ?_);refine ak 4 [] rfl (kc cM ?_);refine ak 1 [] rfl (kc cS3 ?_);refine kz 4 rfl (AWp.sub (Sub.freeze (id:=105) rfl) ?_);refine AWp.sub (aw 105 ([.mk 2 ((j:Int)-1) [] [] c2,.mk 3 0 [] [] Y].map c6)) ?_;refine AWp.sub (vp 7 (aC (.mk 9 0 [] (.mk tf tn ts q) [c1] [] [.mk 2 ((j:Int)-1) [] [] c2,.mk 3 0 [] [] Y]))) ?_;exact sg rfl (aF (rtC trw))
 by_cases h3:i=2
 ·subst h3;obtain⟨⟨O,un,us,W⟩,l2,k,gu,hk,aa,cU⟩:=xX v.vars hv.vars (by omega) 1 2 (by omega) (by omega) l1 left hl1;have hk:k≤5:=hk;have gL:GTW v.vars (1+k+1) (.mk 4 0 [] [.mk 3 0 [76] [],(.mk O un us W)]):=⟨.app (.nm (by decide)) gu.g,.lst gu.w⟩
  obtain⟨c1,l3,ac,m1,g1,ad,⟨b1,b1',b1''⟩,ab⟩:=Z (dF v [] (.mk tf tn ts q)) (.mk 4 0 [] [.mk 3 0 [76] [],(.mk O un us W)]) _ l2 left N (by omega) (by omega) gL (by omega) aa hle (by omega);obtain⟨hvx,cX⟩:=more v [120] (.mk O un us W) k hv h0 (by omega) gu (by omega) (.inr (by decide));obtain⟨hvy,cY⟩:=more (dF v [120] (.mk O un us W)) [121] (.mk 4 0 [] [.mk 3 0 [76] [],(.mk O un us W)]) _ hvx (by show 0≤v.deep+1;omega) (by show v.deep+1≤8;omega) gL (by omega) (.inr (by decide));have hdy:(dF (dF v [120] (.mk O un us W)) [121] (.mk 4 0 [] [.mk 3 0 [76] [],(.mk O un us W)])).deep=v.deep+1+1:=rfl;obtain⟨c2,l4,ah,m2,g2,ai,⟨b2,b2',b2''⟩,ae⟩:=Z _ (.mk tf tn ts q) n l3 ac hvy (by omega) (by omega) I (by omega) ad (by omega) (by omega);obtain⟨Y,l5,le5,m3,g3,hl5,⟨b3,b3',b3''⟩,cS3⟩:=Z (dF v [] (.mk tf tn ts q)) (.mk tf tn ts q) n l4 ah N (by omega) (by omega) I (by omega) ai (by omega) (by omega);obtain⟨j,l6,hj,hl6,cJ⟩:=jE l5 le5 3 (by decide) hl5;have walk:∀c:Core,c=(if j=0 then .mk 9 0 [] (.mk tf tn ts q) [c1] [] [.mk 1 0 [67] [[120],[121]] c2] else .mk 9 0 [] (.mk tf tn ts q) [c1] [] [.mk 1 0 [67] [[120],[121]] c2,.mk 1 0 [78] [] Y])→aQ Tryz.prog 55 [.one (.vp 700 0),.pa (xV v),tyV (.mk tf tn ts q)] (mO l left) (.pa (aC c)) (mO l6 le5):=by
   intro c hc;refine bM (n:=152) tok Tryz.func55 rfl rfl rfl ?_;refine sg rfl (sg rfl (a8 (sk 1 rfl (kc cN ?_))));refine az (aB (sg rfl (aA rfl nofun (fun _=>sg rfl (aA rfl nofun (fun _=>sg rfl (aA rfl (fun _=>sk 3 rfl (kc cU ?_)) nofun)))))));refine kz 2 rfl (a8 (aE mixed (kc (gR [76]) ?_)));refine ak 5 [(2,.all)] rfl (az (sk 3 rfl (kc cM ?_)));refine ak 1 [] rfl (kc ab ?_);refine ak 3 [(6,.all)] rfl (az (skh 4 [(0,.all)] rfl (kc cX ?_)));refine ak 1 [] rfl (kc cY ?_);refine ak 1 [] rfl (kc ae ?_);refine ak 4 [] rfl (kc cM ?_);refine ak 1 [] rfl (kc cS3 ?_);refine kz 4 rfl (AWp.sub (Sub.freeze (id:=142) rfl) ?_);refine AWp.sub (aw 142 ([.mk 1 0 [67] [[120],[121]] c2,.mk 1 0 [78] [] Y].map c6)) ?_;refine AWp.sub (vp 7 (aC (.mk 9 0 [] (.mk tf tn ts q) [c1] [] [.mk 1 0 [67] [[120],[121]] c2,.mk 1 0 [78] [] Y]))) ?_;refine sk 1 rfl (kc cJ ?_);refine kz 1 rfl (aA rfl (fun hb=>?_) (fun hb=>?_))
   ·have aj:j=0:=by have:=ψ hb;omega
    rw[ξ aj] at hc;subst hc;exact ag [] rfl (sg rfl (aF (rtC trw))) (hc:=⟨by rw[aDe];simp[Core.alts],by decide,trivial⟩)
   ·have aj:¬j=0:=by have:=χ hb;omega
    rw[φ aj] at hc;subst hc;exact aD (sg rfl (aF (rtC trw)))
  by_cases aj:j=0
  ·refine⟨.mk 9 0 [] (.mk tf tn ts q) [c1] [] [.mk 1 0 [67] [[120],[121]] c2],l6,le5,m1+m2+20,⟨.case1 I.g (by omega) g1.g g2.g (by decide) (by decide) (by decide) (by decide) (by decide),.cl1 (by decide) I.w g1.less.w (g2.in2 (by decide) (by decide))⟩,hl6,⟨by omega,by omega,by omega⟩,walk _ (by rw[ξ aj])⟩
  ·refine⟨.mk 9 0 [] (.mk tf tn ts q) [c1] [] [.mk 1 0 [67] [[120],[121]] c2,.mk 1 0 [78] [] Y],l6,le5,m1+m2+m3+40,⟨.case2 I.g (by omega) g1.g g2.g g3.g (by decide) (by decide) (by decide) (by decide) (by decide) (by decide) (by decide) (by decide) (by simp) (by decide),.cl2 (by decide) I.w g1.less.w (g2.in2 (by decide) (by decide)) g3.less.w⟩,hl6,⟨by omega,by omega,by omega⟩,walk _ (by rw[φ aj])⟩
 obtain⟨⟨O,un,us,W⟩,l2,k,gu,hk,aa,cU⟩:=xX v.vars hv.vars (by omega) 1 2 (by omega) (by omega) l1 left hl1;have hk:k≤5:=hk;obtain⟨⟨wf,wn,ws,wa⟩,l2b,kw,gw,hkw,hl2b,cW⟩:=xX v.vars hv.vars (by omega) 1 2 (by omega) (by omega) l2 left aa;have hkw:kw≤5:=hkw;have gL:GTW v.vars (1+k+1+kw+1) (.mk 4 0 [] [.mk 4 0 [] [.mk 3 0 [80] [],(.mk O un us W)],(.mk wf wn ws wa)]):=⟨.app (.app (.nm (by decide)) gu.g) gw.g,.pr gu.w gw.w⟩
 obtain⟨c1,l3,ac,m1,g1,ad,⟨b1,b1',b1''⟩,ab⟩:=Z (dF v [] (.mk tf tn ts q)) (.mk 4 0 [] [.mk 4 0 [] [.mk 3 0 [80] [],(.mk O un us W)],(.mk wf wn ws wa)]) _ l2b left N (by omega) (by omega) gL (by omega) hl2b hle (by omega);obtain⟨hvx,cX⟩:=more v [121] (.mk O un us W) k hv h0 (by omega) gu (by omega) (.inr (by decide));obtain⟨hvy,cY⟩:=more (dF v [121] (.mk O un us W)) [97] (.mk wf wn ws wa) kw hvx (by show 0≤v.deep+1;omega) (by show v.deep+1≤8;omega) gw (by omega) (.inr (by decide));have hdy:(dF (dF v [121] (.mk O un us W)) [97] (.mk wf wn ws wa)).deep=v.deep+1+1:=rfl;obtain⟨c2,l4,ah,m2,g2,ai,⟨b2,b2',b2''⟩,ae⟩:=Z _ (.mk tf tn ts q) n l3 ac hvy (by omega) (by omega) I (by omega) ad (by omega) (by omega);refine⟨.mk 9 0 [] (.mk tf tn ts q) [c1] [] [.mk 1 0 [80] [[121],[97]] c2],l4,ah,m1+m2+20,⟨.case1 I.g (by omega) g1.g g2.g (by decide) (by decide) (by decide) (by decide) (by decide),.cp (by decide) I.w g1.less.w (g2.in2 (by decide) (by decide))⟩,ai,⟨by omega,by omega,by omega⟩,?_⟩;refine bM (n:=152) tok Tryz.func55 rfl rfl rfl ?_;refine sg rfl (sg rfl (a8 (sk 1 rfl (kc cN ?_))));refine az (aB (sg rfl (aA rfl (fun hb=>absurd (by have:=ψ hb;omega) h1) (fun _=>sg rfl (aA rfl (fun hb=>absurd (by have:=ψ hb;omega) h2) (fun _=>sg rfl (aA rfl (fun hb=>absurd (by have:=ψ hb;omega) h3) (fun _=>sk 3 rfl (kc cU ?_)))))))));refine kz 2 rfl (sk 3 rfl (kc cW ?_));refine kz 2 rfl (a8 (aE mixed (kc (gR [80]) ?_)));refine ak 8 [(2,.all),(5,.all)] rfl (az (sk 3 rfl (kc cM ?_)));refine ak 1 [] rfl (kc ab ?_);refine ak 3 [(6,.all)] rfl (az (aE mixed (ak 4 [(0,.all)] rfl (kc cX ?_))));refine ak 1 [] rfl (kc cY ?_);refine ak 1 [] rfl (kc ae ?_);refine ak 4 [(10,.all)] rfl (az (AWp.sub (vp 7 (aC (.mk 9 0 [] (.mk tf tn ts q) [c1] [] [.mk 1 0 [80] [[121],[97]] c2]))) ?_));exact sg rfl (aF (rtC trw))
set_option maxHeartbeats 4000000
theorem z6 (F:Int) (hS:0≤F→rJ F):rJ (F+1):=by
 intro v t n l left hv hF hd hg hn hl hle hlo;have hM:1000000000≤maxLen:=by decide
 have h0:=hv.d0;have hlen:=hv.len;have hvlen:=hv.vlen;have hp0:0≤pos left:=by unfold pos;omega
 by_cases hlf:left-1<1∨6<v.deep
 ·obtain⟨c,l',m,gc,hm,hl',cL⟩:=aGm n n t (le_refl _) hg.g (by omega) v l (left-1) hv hg.w (by omega) hl;have hp1:pos (left-1)≤pos left∧pos left≤pos (left-1)+1:=by unfold pos;omega
  refine⟨c,l',left-1,m,gc,hl',⟨by omega,by unfold pos at *;omega,by omega⟩,?_⟩;refine bM (n:=374) tok Tryz.func24 rfl rfl rfl ?_;refine sg rfl (sg rfl ?_ (hc:=by repeat (first | exact trivial | refine⟨by first | rfl | omega | (simp;omega) | (unfold Ty.name;simp;omega) | (simp;done),?_⟩)));refine a8 (a8 (agF 6 [] rfl rfl rfl (aA rfl (fun _=>sk 3 rfl (kc cL ?_)) (fun hb=>absurd hlf (by simpa using hb)))));exact kz 1 rfl (aF (rtC trw))
 have hF0:0≤F:=by omega
 have hps:pos (left-1)=pos left-1:=by unfold pos;omega
 have hp1:0≤pos (left-1):=by unfold pos;omega
 have more:∀(v:Gv) (s:Str) (u:Ty) (k:Nat),Gok v→0≤v.deep→v.deep≤8→GTW v.vars k u→k≤100→(s=[]∨s∈nm6)→Gok (dF v s u)∧aQ Tryz.prog 53 [.pa (xV v),Go.AM.T s,tyV u] [] (.pa (xV (dF v s u))) []:=fun v s u k h h0 h8 hu hk hs=>by
  have:=h.len;exact⟨h.more hs hu hk,y7 v s u (by omega) ⟨h0,by omega⟩⟩
 obtain⟨hv1,cM⟩:=more v [] t n hv h0 (by omega) hg (by omega) (.inl rfl);have hd1:(dF v [] t).deep=v.deep+1:=rfl;obtain⟨i,l1,hi,hl1,cN⟩:=jE l (left-1) 12 (by decide) hl;by_cases hi0:i=0
 ·obtain⟨u,O,k,gu,hk,J,cU⟩:=xX v.vars hv.vars (by omega) 2 1 (by omega) (by omega) l1 (left-1) hl1;have hk:k≤13:=hk;obtain⟨s,l3,hs,Y,cNm⟩:=aGl O (left-1) v J;have hs6:s∈nm6:=δ.2 (.inl hs);obtain⟨hvs,cMs⟩:=more v s u k hv h0 (by omega) gu (by omega) (.inr hs6);have hds:(dF v s u).deep=v.deep+1:=rfl;obtain⟨c1,l4,N,m1,g1,W,⟨b1,b1',b1''⟩,cS1⟩:=hS (by omega) (dF v s u) t n l3 (left-1) hvs (by omega) (by omega) hg (by omega) Y (by omega) (by omega);obtain⟨c2,l5,le2,m2,g2,hl5,⟨b2,b2',b2''⟩,Z⟩:=hS (by omega) (dF v [] t) u k l4 N hv1 (by omega) (by omega) gu (by omega) W (by omega) (by omega);have cA:=gG (.mk 5 0 s u [c1] [] []) c2;refine⟨.mk 4 0 [] zTy [.mk 5 0 s u [c1] [] [],c2] [] [],l5,le2,m1+4+m2+1,⟨.app (.lam hs6 gu.g (by omega) g1.g) g2.g,.app (.lam gu.w (g1.in hs6)) g2.less.w⟩,hl5,⟨by omega,by omega,by omega⟩,?_⟩;refine bM (n:=374) tok Tryz.func24 rfl rfl rfl ?_;refine sg rfl (sg rfl ?_ (hc:=by repeat (first | exact trivial | refine⟨by first | rfl | omega | (simp;omega) | (unfold Ty.name;simp;omega) | (simp;done),?_⟩)));refine a8 (a8 (agF 6 [] rfl rfl rfl (aA rfl (fun hb=>absurd (by simpa using hb) hlf) (fun _=>aD (a8 (sk 1 rfl (kc cN ?_)))))));refine az (aB (sg rfl (aA rfl (fun _=>sk 3 rfl (kc (cU) ?_)) (fun hb=>absurd (χ hb) (by omega)))));refine kz 2 rfl (sk 2 rfl (kc (cNm) ?_));refine kz 1 rfl (sk 6 rfl (kc (cMs) ?_));refine ak 1 [] rfl (kc (cS1) ?_);refine ak 4 [(9,.all)] rfl (az (AWp.sub (vp 9 (aC (.mk 5 0 s u [c1] [] []))) ?_));refine sk 4 rfl (kc (cM) ?_);refine ak 1 [] rfl (kc (Z) ?_);refine kc (cA) ?_;exact kz 1 rfl (aF (rtC trw))
 by_cases hi1:i=1
 ·obtain⟨u,O,k,gu,hk,J,cU⟩:=xX v.vars hv.vars (by omega) 2 1 (by omega) (by omega) l1 (left-1) hl1;have hk:k≤13:=hk;obtain⟨s,l3,hs,Y,cNm⟩:=aGl O (left-1) v J;have hs6:s∈nm6:=δ.2 (.inl hs);obtain⟨hvs,cMs⟩:=more v s u k hv h0 (by omega) gu (by omega) (.inr hs6);have hds:(dF v s u).deep=v.deep+1:=rfl;obtain⟨c1,l4,N,m1,g1,W,⟨b1,b1',b1''⟩,cS1⟩:=hS (by omega) (dF v s u) u k l3 (left-1) hvs (by omega) (by omega) gu (by omega) Y (by omega) (by omega);obtain⟨c2,l5,le2,m2,g2,hl5,⟨b2,b2',b2''⟩,Z⟩:=hS (by omega) (dF v s u) t n l4 N hvs (by omega) (by omega) hg (by omega) W (by omega) (by omega);refine⟨.mk 8 0 [] zTy [c2] [.mk s u c1] [],l5,le2,m2+m1+5,⟨.lt hs6 gu.g (by omega) g2.g g1.g,.lt gu.w (g1.in hs6) (g2.in hs6)⟩,hl5,⟨by omega,by omega,by omega⟩,?_⟩;refine bM (n:=374) tok Tryz.func24 rfl rfl rfl ?_;refine sg rfl (sg rfl ?_ (hc:=by repeat (first | exact trivial | refine⟨by first | rfl | omega | (simp;omega) | (unfold Ty.name;simp;omega) | (simp;done),?_⟩)));refine a8 (a8 (agF 6 [] rfl rfl rfl (aA rfl (fun hb=>absurd (by simpa using hb) hlf) (fun _=>aD (a8 (sk 1 rfl (kc cN ?_)))))));refine az (aB (sg rfl (aA rfl (fun hb=>absurd (by have:=ψ hb;omega) hi0) (fun _=>sg rfl (aA rfl (fun _=>sk 3 rfl (kc (cU) ?_)) (fun hb=>absurd (χ hb) (by omega)))))));refine kz 2 rfl (sk 2 rfl (kc (cNm) ?_));refine kz 1 rfl (sk 3 rfl (kc (cMs) ?_));refine kz 2 rfl (sk 3 rfl (kc (cS1) ?_));refine kz 2 rfl (skh 8 [(4,.all)] rfl (kc (Z) ?_));exact ak 3 [(9,.all)] rfl (az (aF (rtC trw)))
 by_cases hi2:i=2
 ·obtain⟨c1,O,N,m1,g1,J,⟨b1,b1',b1''⟩,cC⟩:=aVx F (hS (by omega)) v t n l1 (left-1) hv (by omega) (by omega) hg (by omega) hl1 (by omega) (by omega);refine⟨c1,O,N,m1,g1,J,⟨by omega,by omega,by omega⟩,?_⟩;refine bM (n:=374) tok Tryz.func24 rfl rfl rfl ?_;refine sg rfl (sg rfl ?_ (hc:=by repeat (first | exact trivial | refine⟨by first | rfl | omega | (simp;omega) | (unfold Ty.name;simp;omega) | (simp;done),?_⟩)));refine a8 (a8 (agF 6 [] rfl rfl rfl (aA rfl (fun hb=>absurd (by simpa using hb) hlf) (fun _=>aD (a8 (sk 1 rfl (kc cN ?_)))))));refine az (aB (sg rfl (aA rfl (fun hb=>absurd (by have:=ψ hb;omega) hi0) (fun _=>sg rfl (aA rfl (fun hb=>absurd (by have:=ψ hb;omega) hi1) (fun _=>sg rfl (aA rfl (fun _=>sk 3 rfl (kc (cC) ?_)) (fun hb=>absurd (χ hb) (by omega)))))))));exact kz 1 rfl (aF (rtC trw))
 by_cases hi3:i=3
 ·obtain⟨u,O,k,gu,hk,J,cU⟩:=xX v.vars hv.vars (by omega) 2 1 (by omega) (by omega) l1 (left-1) hl1;have hk:k≤13:=hk;obtain⟨j,l3,hj,Y,cJ⟩:=jE O (left-1) 3 (by decide) J;have hj:j<3:=by omega
  obtain⟨s,hs⟩:∃s,([[97],[98],[99]]:List Str)[j]?=some s:=aJ (by simpa using hj);have hs':=bO bL hs;have hs1:s.length=1:=by
   have:j=0∨j=1∨j=2:=by omega
   rcases this with rfl | rfl | rfl<;>(simp at hs;subst hs;rfl)
  have hs8:s++[39]∈tvN:=by
   have:j=0∨j=1∨j=2:=by omega
   rcases this with rfl | rfl | rfl<;>(simp at hs;subst hs;decide)
  have hsub:∀x∈v.vars,x∈v.vars++[s++[39]]:=fun x hx=>δ.2 (.inl hx)
  have hg':GTW (v.vars++[s++[39]]) n t:=⟨hg.g,hg.w.weak hsub⟩
  have gX:GTW (v.vars++[s++[39]]) 1 (.mk 2 0 (s++[39]) []):=⟨.var _ hs8,.var (by simp)⟩
  have hvi:Gok ⟨v.l,v.vars++[s++[39]],v.deep+1⟩:=⟨fun x hx=>(by obtain⟨g1,k,g2,g3⟩:=hv.all x hx;exact⟨g1,k,g2,g3.g,g3.w.weak hsub⟩),fun x hx=>by
   rcases δ.1 hx with hx | hx
   ·exact hv.vars x hx
   ·rw[ζ.1 hx];exact hs8,by show 0≤v.deep+1;omega,by show(v.l.length:Int)≤v.deep+1;omega,by show((v.vars++[s++[39]]).length:Int)≤v.deep+1+1;rw[τ];simp only[Be,List.length_nil];omega⟩
  obtain⟨hvp,cP⟩:=more ⟨v.l,v.vars++[s++[39]],v.deep+1⟩ [112] _ 1 hvi (by show 0≤v.deep+1;omega) (by show v.deep+1≤8;omega) gX (by omega) (.inr (by decide));have hdp:(dF ⟨v.l,v.vars++[s++[39]],v.deep+1⟩ [112] (.mk 2 0 (s++[39]) [])).deep=v.deep+1+1:=rfl;obtain⟨c1,l4,N,m1,g1,W,⟨b1,b1',b1''⟩,cS1⟩:=hS (by omega) _ t n l3 (left-1) hvp (by omega) (by omega) hg' (by omega) Y (by omega) (by omega);have cH:=a2y v.vars (s++[39]) (by unfold Fits;omega);have head:∀(c:Core) (l':List Int) (le':Int),(s++[39]∈v.vars→aQ Tryz.prog 51 [.one (.vp 700 0),.pa (xV v),tyV t] (mO l4 N) (.pa (aC c)) (mO l' le'))→
    (¬s++[39]∈v.vars→∃c2:Core,c=.mk 4 0 [] zTy [.mk 6 0 [] u [.mk 7 0 (s++[39]) zTy [.mk 5 0 [112] (.mk 2 0 (s++[39]) []) [c1] [] []] [] []] [] [],c2] [] []∧aQ Tryz.prog 24 [.one (.vp 700 0),.pa (xV (dF v [] t)),tyV u] (mO l4 N) (.pa (aC c2)) (mO l' le'))→
    aQ Tryz.prog 24 [.one (.vp 700 0),.pa (xV v),tyV t] (mO l left) (.pa (aC c)) (mO l' le'):=by
   intro c l' le' hA hB;refine bM (n:=374) tok Tryz.func24 rfl rfl rfl ?_;refine sg rfl (sg rfl ?_ (hc:=by repeat (first | exact trivial | refine⟨by first | rfl | omega | (simp;omega) | (unfold Ty.name;simp;omega) | (simp;done),?_⟩)));refine a8 (a8 (agF 6 [] rfl rfl rfl (aA rfl (fun hb=>absurd (by simpa using hb) hlf) (fun _=>aD (a8 (sk 1 rfl (kc cN ?_)))))));refine az (aB (sg rfl (aA rfl (fun hb=>absurd (by have:=ψ hb;omega) hi0) (fun _=>sg rfl (aA rfl (fun hb=>absurd (by have:=ψ hb;omega) hi1) (fun _=>sg rfl (aA rfl (fun hb=>absurd (by have:=ψ hb;omega) hi2) (fun _=>sg rfl (aA rfl (fun _=>sk 3 rfl (kc (cU) ?_)) (fun hb=>absurd (χ hb) (by omega)))))))))));refine kz 2 rfl (sk 2 rfl (kc (cJ) ?_));refine ak 3 [(3,.row j []),(4,.row j (bL s))] rfl (az (sg rfl ?_ (hc:=by repeat (first | exact trivial | refine⟨by first | rfl | omega | (simp;omega) | (unfold Ty.name;simp;omega) | (simp;done),?_⟩))));refine sgh [(4,.all)] rfl (sg rfl ?_ (hc:=by repeat (first | exact trivial | refine⟨by first | rfl | omega | (simp;omega) | (unfold Ty.name;simp;omega) | (simp;done),?_⟩)));refine sg rfl ?_ (hc:=by repeat (first | exact trivial | refine⟨by first | rfl | omega | (simp;omega) | (unfold Ty.name;simp;omega) | (simp;done),?_⟩));refine AWp.sub (Sub.freeze (id:=132) rfl) ?_;rw[show v.vars.map bL++[[C.str (s++[39])]]=(v.vars++[s++[39]]).map bL by rw[A4];rfl];refine AWp.sub (vp 16 (xV ⟨v.l,v.vars++[s++[39]],v.deep+1⟩) (hp:=.c .refl (.hs rfl (by simp) (Go.AM.take_all (by simp)) (.c .refl .nil)))) ?_;refine AWp.sub (vp 17 (aO (.mk 2 0 (s++[39]) []))) ?_;refine sk 4 rfl (kc (cP) ?_);refine ak 1 [] rfl (kc (cS1) ?_);refine ak 4 [(7,.all)] rfl (az (AWp.sub (vp 18 (aC (.mk 5 0 [112] (.mk 2 0 (s++[39]) []) [c1] [] []))) ?_));refine a8 (sk 4 rfl ?_ (hc:=by repeat (first | exact trivial | refine⟨by first | rfl | omega | (simp;omega) | (unfold Ty.name;simp;omega) | (simp;done),?_⟩)));refine kc cH ?_;refine az (aA rfl (fun hb=>?_) (fun hb=>?_))
   ·have cLf:=hA (ψ hb);refine sk 3 rfl (kc (cLf) ?_);exact kz 1 rfl (aF (rtC trw))
   obtain⟨c2,rfl,Z⟩:=hB (χ hb);have cA:=gG (.mk 6 0 [] u [.mk 7 0 (s++[39]) zTy [.mk 5 0 [112] (.mk 2 0 (s++[39]) []) [c1] [] []] [] []] [] []) c2;refine aD (sgh [(3,.all)] rfl ?_ (hc:=by repeat (first | exact trivial | refine⟨by first | rfl | omega | (simp;omega) | (unfold Ty.name;simp;omega) | (simp;done),?_⟩)));refine AWp.sub (vp 19 (aC (.mk 7 0 (s++[39]) zTy [.mk 5 0 [112] (.mk 2 0 (s++[39]) []) [c1] [] []] [] []))) ?_;refine skh 7 [(2,.all)] rfl (kc (cM) ?_);refine ak 1 [] rfl (kc (Z) ?_);refine kc (cA) ?_;exact kz 1 rfl (aF (rtC trw))
  by_cases hH:s++[39]∈v.vars
  ·obtain⟨c2,l5,m2,g2,hm2,hl5,cLf⟩:=aGm n n t (le_refl _) hg.g (by omega) v l4 N hv hg.w (by omega) W;exact⟨c2,l5,N,m2,g2,hl5,⟨by omega,by omega,by omega⟩,head _ _ _ (fun _=>cLf) (fun h=>absurd hH h)⟩
  ·obtain⟨c2,l5,le2,m2,g2,hl5,⟨b2,b2',b2''⟩,Z⟩:=hS (by omega) (dF v [] t) u k l4 N hv1 (by omega) (by omega) gu (by omega) W (by omega) (by omega)
   exact⟨_,l5,le2,m1+4+20+1+m2+1,⟨.app (.tapp gu.g (by omega) (.tlam hs8 (.lam (by decide) gX.g (by omega) g1.g))) g2.g,.app (.tt (fun x hx=>hx) (fun x w hx=>⟨hx,hv.env hx⟩) hH hg.w gu.w ((g1.in (s:=[112]) (by decide)).weak (fun x hx=>by
    rcases δ.1 hx with hx | hx
    ·exact ω _ hx
    ·rw[ζ.1 hx];exact η) fun x w hx=>hx)) g2.less.w⟩,hl5,⟨by omega,by omega,by omega⟩,head _ _ _ (fun h=>absurd h hH) (fun _=>⟨c2,rfl,Z⟩)⟩
 by_cases hi4:i=4
 ·obtain⟨u,O,k,gu,hk,J,cU⟩:=xX v.vars hv.vars (by omega) 1 2 (by omega) (by omega) l1 (left-1) hl1;have hk:k≤5:=hk;have gF:GTW v.vars (k+n+3) (bT u t):=⟨gu.g.fn hg.g,.fn gu.w hg.w⟩
  have cFn:=tZ u t;obtain⟨c1,l3,N,m1,g1,Y,⟨b1,b1',b1''⟩,cS1⟩:=hS (by omega) (dF v [] t) (bT u t) (k+n+3) O (left-1) hv1 (by omega) (by omega) gF (by omega) J (by omega) (by omega);obtain⟨c2,l4,le2,m2,g2,W,⟨b2,b2',b2''⟩,Z⟩:=hS (by omega) (dF v [] t) u k l3 N hv1 (by omega) (by omega) gu (by omega) Y (by omega) (by omega);have cA:=gG c1 c2;refine⟨.mk 4 0 [] zTy [c1,c2] [] [],l4,le2,m1+m2+1,⟨.app g1.g g2.g,.app g1.less.w g2.less.w⟩,W,⟨by omega,by omega,by omega⟩,?_⟩;refine bM (n:=374) tok Tryz.func24 rfl rfl rfl ?_;refine sg rfl (sg rfl ?_ (hc:=by repeat (first | exact trivial | refine⟨by first | rfl | omega | (simp;omega) | (unfold Ty.name;simp;omega) | (simp;done),?_⟩)));refine a8 (a8 (agF 6 [] rfl rfl rfl (aA rfl (fun hb=>absurd (by simpa using hb) hlf) (fun _=>aD (a8 (sk 1 rfl (kc cN ?_)))))));refine az (aB (sg rfl (aA rfl (fun hb=>absurd (by have:=ψ hb;omega) hi0) (fun _=>sg rfl (aA rfl (fun hb=>absurd (by have:=ψ hb;omega) hi1) (fun _=>sg rfl (aA rfl (fun hb=>absurd (by have:=ψ hb;omega) hi2) (fun _=>sg rfl (aA rfl (fun hb=>absurd (by have:=ψ hb;omega) hi3) (fun _=>sg rfl (aA rfl (fun _=>sk 3 rfl (kc (cU) ?_)) (fun hb=>absurd (χ hb) (by omega)))))))))))));refine ak 1 [] rfl (kc (cFn) ?_);refine kz 2 rfl (sk 3 rfl (kc (cM) ?_));refine ak 1 [] rfl (kc (cS1) ?_);refine ak 3 [] rfl (kc (cM) ?_);refine ak 7 [(12,.row 0 (aO (tapp (.mk 3 0 arrow []) u))),(15,.row 1 (aO u))] rfl (kc (Z) ?_);refine kc (cA) ?_;exact kz 1 rfl (aF (rtC trw))
 obtain⟨q,L,⟨hLg,hsp⟩,hLn,cSp⟩:=aMu hg.g (by omega);by_cases hI:bb q.form q.name [73,110,116]=true
 ·obtain⟨j,O,hj,J,cJ⟩:=jE l1 (left-1) 4 (by decide) hl1;have hj:j<4:=by omega
  obtain⟨s,hs⟩:∃s,([[97,100,100],[115,117,98],[109,117,108],[100,105,118]]:List Str)[j]?=some s:=aJ (by simpa using hj);have hs':=bO bL hs;have et:=hg.w.sp_int hsp (iA hI);have hso:s∈opI:=by
   have:j=0∨j=1∨j=2∨j=3:=by omega
   rcases this with rfl | rfl | rfl | rfl<;>(simp at hs;subst hs;decide)
  have hsp:s∈aP6:=by
   have:j=0∨j=1∨j=2∨j=3:=by omega
   rcases this with rfl | rfl | rfl | rfl<;>(simp at hs;subst hs;decide)
  obtain⟨c1,l3,N,m1,g1,Y,⟨b1,b1',b1''⟩,cS1⟩:=hS (by omega) (dF v [] t) t n O (left-1) hv1 (by omega) (by omega) hg (by omega) J (by omega) (by omega);obtain⟨c2,l4,le2,m2,g2,W,⟨b2,b2',b2''⟩,Z⟩:=hS (by omega) (dF v [] t) t n l3 N hv1 (by omega) (by omega) hg (by omega) Y (by omega) (by omega);refine⟨.mk 10 0 s zTy [c1,c2] [] [],l4,le2,m1+m2+5,⟨.prim hsp g1.g g2.g,by have h1:=g1.less.w;have h2:=g2.less.w;rw[et] at h1 h2 ⊢;exact .pint hso h1 h2⟩,W,⟨by omega,by omega,by omega⟩,?_⟩;refine bM (n:=374) tok Tryz.func24 rfl rfl rfl ?_;refine sg rfl (sg rfl ?_ (hc:=by repeat (first | exact trivial | refine⟨by first | rfl | omega | (simp;omega) | (unfold Ty.name;simp;omega) | (simp;done),?_⟩)));refine a8 (a8 (agF 6 [] rfl rfl rfl (aA rfl (fun hb=>absurd (by simpa using hb) hlf) (fun _=>aD (a8 (sk 1 rfl (kc cN ?_)))))));refine az (aB (sg rfl (aA rfl (fun hb=>absurd (by have:=ψ hb;omega) hi0) (fun _=>sg rfl (aA rfl (fun hb=>absurd (by have:=ψ hb;omega) hi1) (fun _=>sg rfl (aA rfl (fun hb=>absurd (by have:=ψ hb;omega) hi2) (fun _=>sg rfl (aA rfl (fun hb=>absurd (by have:=ψ hb;omega) hi3) (fun _=>sg rfl (aA rfl (fun hb=>absurd (by have:=ψ hb;omega) hi4) (fun _=>aD (sk 1 rfl (kc (cSp) ?_))))))))))))));refine kz 6 rfl (a8 (aB (a8 (agF 4 [] rfl rfl rfl (aA rfl (fun _=>sk 2 rfl (kc (cJ) ?_)) (fun hb=>by have:=hI.symm.trans hb;cases this))))));refine ak 3 [(3,.row j []),(4,.row j (bL s))] rfl (az (sk 4 rfl (kc (cM) ?_)));refine ak 1 [] rfl (kc (cS1) ?_);refine ak 3 [] rfl (kc (cM) ?_);refine ak 1 [] rfl (kc (Z) ?_);exact ak 3 [(13,.all)] rfl (az (aF (rtC trw)))
 by_cases hB:bb q.form q.name [66,111,111,108]=true
 ·obtain⟨j,O,hj,J,cJ⟩:=jE l1 (left-1) 2 (by decide) hl1;have hj:j<2:=by omega
  obtain⟨s,hs⟩:∃s,([[101,113],[108,116]]:List Str)[j]?=some s:=aJ (by simpa using hj);have hs':=bO bL hs;have et:=hg.w.sp_bool hsp (iA hB);have hso:s∈opB:=by
   have:j=0∨j=1:=by omega
   rcases this with rfl | rfl<;>(simp at hs;subst hs;decide)
  have hsp:s∈aP6:=by
   have:j=0∨j=1:=by omega
   rcases this with rfl | rfl<;>(simp at hs;subst hs;decide)
  have gI:GTW v.vars 1 fM:=⟨.con _ (by decide),.int⟩
  obtain⟨c1,l3,N,m1,g1,Y,⟨b1,b1',b1''⟩,cS1⟩:=hS (by omega) (dF v [] t) fM 1 O (left-1) hv1 (by omega) (by omega) gI (by omega) J (by omega) (by omega);obtain⟨c2,l4,le2,m2,g2,W,⟨b2,b2',b2''⟩,Z⟩:=hS (by omega) (dF v [] t) fM 1 l3 N hv1 (by omega) (by omega) gI (by omega) Y (by omega) (by omega);refine⟨.mk 10 0 s zTy [c1,c2] [] [],l4,le2,m1+m2+5,⟨.prim hsp g1.g g2.g,by rw[et];exact .pbool hso g1.less.w g2.less.w⟩,W,⟨by omega,by omega,by omega⟩,?_⟩;refine bM (n:=374) tok Tryz.func24 rfl rfl rfl ?_;refine sg rfl (sg rfl ?_ (hc:=by repeat (first | exact trivial | refine⟨by first | rfl | omega | (simp;omega) | (unfold Ty.name;simp;omega) | (simp;done),?_⟩)));refine a8 (a8 (agF 6 [] rfl rfl rfl (aA rfl (fun hb=>absurd (by simpa using hb) hlf) (fun _=>aD (a8 (sk 1 rfl (kc cN ?_)))))));refine az (aB (sg rfl (aA rfl (fun hb=>absurd (by have:=ψ hb;omega) hi0) (fun _=>sg rfl (aA rfl (fun hb=>absurd (by have:=ψ hb;omega) hi1) (fun _=>sg rfl (aA rfl (fun hb=>absurd (by have:=ψ hb;omega) hi2) (fun _=>sg rfl (aA rfl (fun hb=>absurd (by have:=ψ hb;omega) hi3) (fun _=>sg rfl (aA rfl (fun hb=>absurd (by have:=ψ hb;omega) hi4) (fun _=>aD (sk 1 rfl (kc (cSp) ?_))))))))))))));refine kz 6 rfl (a8 (aB (a8 (agF 4 [] rfl rfl rfl (aA rfl (fun hb=>absurd hb hI) (fun _=>a8 (agF 4 [] rfl rfl rfl (aA rfl (fun _=>a8 (aE mixed (kc (gR [73,110,116]) ?_))) (fun hb=>by have:=hB.symm.trans hb;cases this)))))))));refine kz 2 rfl (sk 2 rfl (kc (cJ) ?_));refine ak 5 [(3,.row j []),(4,.row j (bL s))] rfl (kc (cM) ?_);refine ak 1 [] rfl (kc (cS1) ?_);refine ak 3 [] rfl (kc (cM) ?_);refine ak 1 [] rfl (kc (Z) ?_);exact ak 3 [(17,.all)] rfl (az (aF (rtC trw)))
 have hl2e:∃O,Ok O∧(((bb q.form q.name [76]=true∧L.length=1)∧∃j:Nat,j=0∧aQ Tryz.prog 23 [.one (.vp 700 0),I .i64 3] (mO l1 (left-1)) (I .i64 j) (mO O (left-1)))∨(¬(bb q.form q.name [76]=true∧L.length=1)∧O=l1))∨((bb q.form q.name [76]=true∧L.length=1)∧Ok O∧∃j:Nat,0<j∧aQ Tryz.prog 23 [.one (.vp 700 0),I .i64 3] (mO l1 (left-1)) (I .i64 j) (mO O (left-1))):=by
  by_cases hX:bb q.form q.name [76]=true∧L.length=1
  ·obtain⟨j,O,_,J,cJ⟩:=jE l1 (left-1) 3 (by decide) hl1;by_cases hj:j=0
   ·exact⟨O,.inl ⟨J,.inl ⟨hX,j,hj,cJ⟩⟩⟩
   ·exact⟨O,.inr ⟨hX,J,j,by omega,cJ⟩⟩
  ·exact⟨l1,.inl ⟨hl1,.inr ⟨hX,rfl⟩⟩⟩
 obtain⟨O,⟨J,hl12⟩ | ⟨hX,J,j,hj,cJ⟩⟩:=hl2e
 rotate_left
 ·obtain⟨x,rfl⟩:∃x,L=[x]:=Bt.1 hX.2;obtain⟨e3,e4⟩:=iA hX.1;have d3:decide (q.form=3)=true:=Ah e3;have d4:decide (q.name=[76])=true:=Ah e4;obtain⟨kx,_,gx,_,hkx⟩:=hLg;obtain⟨et,wx⟩:=hg.w.sp_lst hsp ⟨e3,e4⟩;have gx:GTW v.vars kx x:=⟨gx,wx⟩
  have cG:=oQ [67] [x] (by simp);obtain⟨c1,l3,N,m1,g1,Y,⟨b1,b1',b1''⟩,cS1⟩:=hS (by omega) (dF v [] t) x kx O (left-1) hv1 (by omega) (by omega) gx (by omega) J (by omega) (by omega);obtain⟨c2,l4,le2,m2,g2,W,⟨b2,b2',b2''⟩,Z⟩:=hS (by omega) (dF v [] t) t n l3 N hv1 (by omega) (by omega) hg (by omega) Y (by omega) (by omega);have cA1:=gG (iB [67] [x]) c1;have cA2:=gG (.mk 4 0 [] zTy [iB [67] [x],c1] [] []) c2;refine⟨.mk 4 0 [] zTy [.mk 4 0 [] zTy [iB [67] [x],c1] [] [],c2] [] [],l4,le2,9+1+m1+1+m2+1,⟨.app (.app (.tapp gx.g (by omega) (.con (by decide))) g1.g) g2.g,by have h2:=g2.less.w;rw[et] at h2 ⊢;exact .app (.app (.cons wx) g1.less.w) h2⟩,W,⟨by omega,by omega,by omega⟩,?_⟩;refine bM (n:=374) tok Tryz.func24 rfl rfl rfl ?_;refine sg rfl (sg rfl ?_ (hc:=by repeat (first | exact trivial | refine⟨by first | rfl | omega | (simp;omega) | (unfold Ty.name;simp;omega) | (simp;done),?_⟩)));refine a8 (a8 (agF 6 [] rfl rfl rfl (aA rfl (fun hb=>absurd (by simpa using hb) hlf) (fun _=>aD (a8 (sk 1 rfl (kc cN ?_)))))));refine az (aB (sg rfl (aA rfl (fun hb=>absurd (by have:=ψ hb;omega) hi0) (fun _=>sg rfl (aA rfl (fun hb=>absurd (by have:=ψ hb;omega) hi1) (fun _=>sg rfl (aA rfl (fun hb=>absurd (by have:=ψ hb;omega) hi2) (fun _=>sg rfl (aA rfl (fun hb=>absurd (by have:=ψ hb;omega) hi3) (fun _=>sg rfl (aA rfl (fun hb=>absurd (by have:=ψ hb;omega) hi4) (fun _=>aD (sk 1 rfl (kc (cSp) ?_))))))))))))));refine kz 6 rfl (a8 (aB (a8 (agF 4 [] rfl rfl rfl (aA rfl (fun hb=>absurd hb hI) (fun _=>a8 (agF 4 [] rfl rfl rfl (aA rfl (fun hb=>absurd hb hB) (fun _=>skh 15 [(3,.bv true),(7,.bv true),(8,.bv true),(12,.bv true)] rfl (kcG cJ ?_))))))))));refine ak 3 [(17,.bv true)] rfl (az (aA rfl (fun _=>sk 1 rfl (kc (cG) ?_)) (fun hb=>absurd (χ hb) (by omega))));refine ak 3 [] rfl (kc (cM) ?_);refine ak 3 [(7,.row 0 []),(8,.row 0 (aO x))] rfl (kc (cS1) ?_);refine kc (cA1) ?_;refine ak 3 [] rfl (kc (cM) ?_);refine ak 1 [] rfl (kc (Z) ?_);refine kc (cA2) ?_;exact kz 1 rfl (aF (rtC trw))
 by_cases hP:bb q.form q.name [80]=true∧L.length=2
 ·obtain⟨x,y,rfl⟩:∃x y,L=[x,y]:=by
   match L,hP.2 with
   | [x,y],_=>exact⟨x,y,rfl⟩
  obtain⟨e3,e4⟩:=iA hP.1;have d3:decide (q.form=3)=true:=Ah e3;have d4:decide (q.name=[76])=false:=by rw[e4];rfl
  obtain⟨kx,mx,gx,⟨ky,_,gy,_,hky⟩,hkx⟩:=hLg;obtain⟨et,wx,wy⟩:=hg.w.sp_pr hsp ⟨e3,e4⟩;have gx:GTW v.vars kx x:=⟨gx,wx⟩
  have gy:GTW v.vars ky y:=⟨gy,wy⟩
  have cG:=oQ [80] [x,y] (by simp);obtain⟨c1,l3,N,m1,g1,Y,⟨b1,b1',b1''⟩,cS1⟩:=hS (by omega) (dF v [] t) x kx l1 (left-1) hv1 (by omega) (by omega) gx (by omega) hl1 (by omega) (by omega);obtain⟨c2,l4,le2,m2,g2,W,⟨b2,b2',b2''⟩,Z⟩:=hS (by omega) (dF v [] t) y ky l3 N hv1 (by omega) (by omega) gy (by omega) Y (by omega) (by omega);have cA1:=gG (iB [80] [x,y]) c1;have cA2:=gG (.mk 4 0 [] zTy [iB [80] [x,y],c1] [] []) c2;refine⟨.mk 4 0 [] zTy [.mk 4 0 [] zTy [iB [80] [x,y],c1] [] [],c2] [] [],l4,le2,9+1+1+m1+1+m2+1,⟨.app (.app (.tapp gy.g (by omega) (.tapp gx.g (by omega) (.con (by decide)))) g1.g) g2.g,by rw[et];exact .app (.app (.pair wx wy) g1.less.w) g2.less.w⟩,W,⟨by omega,by omega,by omega⟩,?_⟩;refine bM (n:=374) tok Tryz.func24 rfl rfl rfl ?_;refine sg rfl (sg rfl ?_ (hc:=by repeat (first | exact trivial | refine⟨by first | rfl | omega | (simp;omega) | (unfold Ty.name;simp;omega) | (simp;done),?_⟩)));refine a8 (a8 (agF 6 [] rfl rfl rfl (aA rfl (fun hb=>absurd (by simpa using hb) hlf) (fun _=>aD (a8 (sk 1 rfl (kc cN ?_)))))));refine az (aB (sg rfl (aA rfl (fun hb=>absurd (by have:=ψ hb;omega) hi0) (fun _=>sg rfl (aA rfl (fun hb=>absurd (by have:=ψ hb;omega) hi1) (fun _=>sg rfl (aA rfl (fun hb=>absurd (by have:=ψ hb;omega) hi2) (fun _=>sg rfl (aA rfl (fun hb=>absurd (by have:=ψ hb;omega) hi3) (fun _=>sg rfl (aA rfl (fun hb=>absurd (by have:=ψ hb;omega) hi4) (fun _=>aD (sk 1 rfl (kc (cSp) ?_))))))))))))));refine kz 6 rfl (a8 (aB (a8 (agF 4 [] rfl rfl rfl (aA rfl (fun hb=>absurd hb hI) (fun _=>a8 (agF 4 [] rfl rfl rfl (aA rfl (fun hb=>absurd hb hB) (fun _=>sgh [(3,.bv true),(7,.bv true),(8,.bv false),(12,.bv false)] rfl (aA rfl nofun (fun _=>a8 (agF 4 [] rfl rfl rfl (aA rfl (fun _=>?_) (fun hb=>?_))))))))))))))
  ·refine sk 1 rfl (kc (cG) ?_);refine ak 3 [] rfl (kc (cM) ?_);refine ak 3 [(7,.row 0 []),(8,.row 0 (aO x))] rfl (kc (cS1) ?_);refine kc (cA1) ?_;refine ak 3 [] rfl (kc (cM) ?_);refine ak 3 [(16,.row 1 []),(17,.row 1 (aO y))] rfl (kc (Z) ?_);refine kc (cA2) ?_;exact kz 1 rfl (aF (rtC trw))
  ·exfalso;simp[e3,e4] at hb
 rcases vJ hg.g with⟨m1,m2,a,b,ga,gb,hnm,hte,cF⟩ | cF
 ·have hwf:=hg.w;rw[hte] at hwf;obtain⟨wa,wb⟩:=hwf.of_fn;have ga:GTW v.vars m1 a:=⟨ga,wa⟩
  have gb:GTW v.vars m2 b:=⟨gb,wb⟩
  obtain⟨s,l3,hs,Y,cNm⟩:=aGl O (left-1) v J;have hs6:s∈nm6:=δ.2 (.inl hs);obtain⟨hvs,cMs⟩:=more v s a m1 hv h0 (by omega) ga (by omega) (.inr hs6);have hds:(dF v s a).deep=v.deep+1:=rfl;obtain⟨c3,l4,le3,m3,g3,W,⟨b3,b3',b3''⟩,cS3⟩:=hS (by omega) (dF v s a) b m2 l3 (left-1) hvs (by omega) (by omega) gb (by omega) Y (by omega) (by omega);refine⟨.mk 5 0 s a [c3] [] [],l4,le3,m3+4,⟨.lam hs6 ga.g (by omega) g3.g,by rw[hte];exact .lam ga.w (g3.in hs6)⟩,W,⟨by omega,by omega,by omega⟩,?_⟩;refine bM (n:=374) tok Tryz.func24 rfl rfl rfl ?_;refine sg rfl (sg rfl ?_ (hc:=by repeat (first | exact trivial | refine⟨by first | rfl | omega | (simp;omega) | (unfold Ty.name;simp;omega) | (simp;done),?_⟩)));refine a8 (a8 (agF 6 [] rfl rfl rfl (aA rfl (fun hb=>absurd (by simpa using hb) hlf) (fun _=>aD (a8 (sk 1 rfl (kc cN ?_)))))));refine az (aB (sg rfl (aA rfl (fun hb=>absurd (by have:=ψ hb;omega) hi0) (fun _=>sg rfl (aA rfl (fun hb=>absurd (by have:=ψ hb;omega) hi1) (fun _=>sg rfl (aA rfl (fun hb=>absurd (by have:=ψ hb;omega) hi2) (fun _=>sg rfl (aA rfl (fun hb=>absurd (by have:=ψ hb;omega) hi3) (fun _=>sg rfl (aA rfl (fun hb=>absurd (by have:=ψ hb;omega) hi4) (fun _=>aD (sk 1 rfl (kc (cSp) ?_))))))))))))));refine kz 6 rfl (a8 (aB (a8 (agF 4 [] rfl rfl rfl (aA rfl (fun hb=>absurd hb hI) (fun _=>a8 (agF 4 [] rfl rfl rfl (aA rfl (fun hb=>absurd hb hB) (fun _=>a8 (AWp.cut (mk [(0,.one (.vp 700 0)),(4,.one (.vp 4 0)),(5,.one (.vp 5 0)),(6,.one (.vp 6 0)),(21,.one (.vp 21 0)),(22,.one (.hs 510 0 L.length L.length)),(268,B false)] ([(4,.var 67 (vRt v)),(5,.var 30 (tR t)),(6,.var 34 [.c (.int .i64 0),.c (.int .i64 0),.c (.str []),.c (.int .i64 0),.c (.int .i64 0),.c (.str []),.c .nl,.c .nl,.c .nl,.c .nl]),(21,.var 30 (tR q)),(510,.arr 30 4 (L.map aO) 2)]++mO O (left-1))) ?_ ?_))))))))))
  ·rcases hl12 with⟨hX,j,hj0,cJ⟩ | ⟨hX,rfl⟩
   ·obtain⟨e3,e4⟩:=iA hX.1;have d3:decide (q.form=3)=true:=Ah e3;have d4:decide (q.name=[76])=true:=Ah e4;have d5:decide ((L.length:Int)=1)=true:=Ah (by rw[hX.2];rfl);subst hj0;refine aE mixed (ak 15 [(3,.bv true),(7,.bv true),(8,.bv true),(12,.bv true),(13,.bv true)] rfl (kcG cJ ?_ (hw:=d5)));exact ak 3 [(13,.bv true),(17,.bv true)] rfl (az sl)
   ·by_cases e3:q.form=3
    ·have d3:decide (q.form=3)=true:=Ah e3;by_cases e4:q.name=[76]
     ·have d4:decide (q.name=[76])=true:=Ah e4;have e5:¬L.length=1:=fun h=>hX ⟨by unfold bb;rw[d3,d4];rfl,h⟩
      have d5:decide ((L.length:Int)=1)=false:=Am (by omega);exact ag [(3,.bv true),(7,.bv true),(8,.bv true),(12,.bv true),(13,.bv false),(17,.bv false)] rfl sl
     ·have d4:decide (q.name=[76])=false:=Am e4;exact ag [(3,.bv true),(7,.bv true),(8,.bv false),(12,.bv false)] rfl sl
    ·have d3:decide (q.form=3)=false:=Am e3;exact ag [(3,.bv false),(7,.bv false)] rfl sl
  refine aA rfl nofun (fun _=>a8 (agF 4 [] rfl rfl rfl (aA rfl (fun hb=>absurd (aG1 hb) hP) (fun _=>aD (a8 (sk 1 rfl (kc cF ?_)))))));refine az (aA rfl (fun _=>?_) nofun);subst hte;refine sk 2 rfl (kc (cNm) ?_);refine kz 1 rfl (skh 18 [(3,.row 0 (aO (tapp (.mk 3 0 arrow []) a))),(6,.row 1 (aO a)),(13,.row 0 (aO (tapp (.mk 3 0 arrow []) a))),(16,.row 1 (aO a))] rfl (kc (cMs) ?_));refine ak 4 [(21,.row 1 (aO b))] rfl (kc (cS3) ?_);exact ak 3 [(24,.all)] rfl (az (aF (rtC trw)))
 ·obtain⟨c2,l5,m2,g2,hm2,hl5,cLf⟩:=aGm n n t (le_refl _) hg.g (by omega) v O (left-1) hv hg.w (by omega) J;refine⟨c2,l5,left-1,m2,g2,hl5,⟨by omega,by omega,by omega⟩,?_⟩;refine bM (n:=374) tok Tryz.func24 rfl rfl rfl ?_;refine sg rfl (sg rfl ?_ (hc:=by repeat (first | exact trivial | refine⟨by first | rfl | omega | (simp;omega) | (unfold Ty.name;simp;omega) | (simp;done),?_⟩)));refine a8 (a8 (agF 6 [] rfl rfl rfl (aA rfl (fun hb=>absurd (by simpa using hb) hlf) (fun _=>aD (a8 (sk 1 rfl (kc cN ?_)))))));refine az (aB (sg rfl (aA rfl (fun hb=>absurd (by have:=ψ hb;omega) hi0) (fun _=>sg rfl (aA rfl (fun hb=>absurd (by have:=ψ hb;omega) hi1) (fun _=>sg rfl (aA rfl (fun hb=>absurd (by have:=ψ hb;omega) hi2) (fun _=>sg rfl (aA rfl (fun hb=>absurd (by have:=ψ hb;omega) hi3) (fun _=>sg rfl (aA rfl (fun hb=>absurd (by have:=ψ hb;omega) hi4) (fun _=>aD (sk 1 rfl (kc (cSp) ?_))))))))))))));refine kz 6 rfl (a8 (aB (a8 (agF 4 [] rfl rfl rfl (aA rfl (fun hb=>absurd hb hI) (fun _=>a8 (agF 4 [] rfl rfl rfl (aA rfl (fun hb=>absurd hb hB) (fun _=>a8 (AWp.cut (mk [(0,.one (.vp 700 0)),(4,.one (.vp 4 0)),(5,.one (.vp 5 0)),(6,.one (.vp 6 0)),(21,.one (.vp 21 0)),(22,.one (.hs 510 0 L.length L.length)),(268,B false)] ([(4,.var 67 (vRt v)),(5,.var 30 (tR t)),(6,.var 34 [.c (.int .i64 0),.c (.int .i64 0),.c (.str []),.c (.int .i64 0),.c (.int .i64 0),.c (.str []),.c .nl,.c .nl,.c .nl,.c .nl]),(21,.var 30 (tR q)),(510,.arr 30 4 (L.map aO) 2)]++mO O (left-1))) ?_ ?_))))))))))
  ·rcases hl12 with⟨hX,j,hj0,cJ⟩ | ⟨hX,rfl⟩
   ·obtain⟨e3,e4⟩:=iA hX.1;have d3:decide (q.form=3)=true:=Ah e3;have d4:decide (q.name=[76])=true:=Ah e4;have d5:decide ((L.length:Int)=1)=true:=Ah (by rw[hX.2];rfl);subst hj0;refine aE mixed (ak 15 [(3,.bv true),(7,.bv true),(8,.bv true),(12,.bv true),(13,.bv true)] rfl (kcG cJ ?_ (hw:=d5)));exact ak 3 [(13,.bv true),(17,.bv true)] rfl (az sl)
   ·by_cases e3:q.form=3
    ·have d3:decide (q.form=3)=true:=Ah e3;by_cases e4:q.name=[76]
     ·have d4:decide (q.name=[76])=true:=Ah e4;have e5:¬L.length=1:=fun h=>hX ⟨by unfold bb;rw[d3,d4];rfl,h⟩
      have d5:decide ((L.length:Int)=1)=false:=Am (by omega);exact ag [(3,.bv true),(7,.bv true),(8,.bv true),(12,.bv true),(13,.bv false),(17,.bv false)] rfl sl
     ·have d4:decide (q.name=[76])=false:=Am e4;exact ag [(3,.bv true),(7,.bv true),(8,.bv false),(12,.bv false)] rfl sl
    ·have d3:decide (q.form=3)=false:=Am e3;exact ag [(3,.bv false),(7,.bv false)] rfl sl
  refine aA rfl nofun (fun _=>a8 (agF 4 [] rfl rfl rfl (aA rfl (fun hb=>absurd (aG1 hb) hP) (fun _=>aD (a8 (sk 1 rfl (kc cF ?_)))))));refine az (aA rfl nofun (fun _=>aD (sk 3 rfl (kc (cLf) ?_))));exact kz 1 rfl (aF (rtC trw))
theorem aMv:∀F:Nat,rJ F
 | 0=>by
  have:=z6 (-1) (fun h=>by omega);intro v t n l left hv J hd I hn hl hle q;exact this v t n l left hv (by omega) hd I hn hl hle q
 | F+1=>z6 F fun _=>aMv F
theorem pS (s:Str) (t:Ty):aQ Tryz.prog 20 [Go.AM.T s,tyV t] [] (tyV (.mk 5 0 s [t])) []:=by
 refine bM (n:=9) tok Tryz.func20 rfl rfl rfl ?_;exact sg rfl (sgh [(2,.all)] rfl (aF (rtC trw)))
theorem aVv (l:List Int) (hl:aW0 l) (hf:Fits l):∃(c:Core) (t:Ty) (m:Nat),GC m c∧m≤110000∧((∃n,GT n t∧n≤29∧TW [] t∧WT [] e0 c t)∨∃n u c0,GT n u∧n≤33∧t=.mk 5 0 [97] [u]∧TW [[97]] u∧c=.mk 7 0 [97] zTy [c0] [] []∧WT [[97]] e0 c0 u)∧
  aQ Tryz.prog 6 [.one (.c (.sl 1 (l.map aO3)))] [] (.tup [.pa (aC c),tyV t]) []:=by
 have N:aW0 (l.take 60):=fun x hx=>hl x (Bx hx)
 have O:Fits (l.take 60):=by
  unfold Fits at *;rw[Aq];omega
 have W:=a0k l 60 hf (by omega);obtain⟨t,l1,n,q,hn,Y,cT⟩:=xX [] (fun x hx=>by cases hx) (by simp) 3 0 (by omega) (by omega) (l.take 60) 26 ⟨N,O⟩;have hn:n≤29:=hn;have gt:=q.g;obtain⟨i,Z,hi,I,cN⟩:=jE l1 26 3 (by decide) Y;have hp:pos 26=25:=rfl;by_cases h0:i=0
 ·subst h0;have gA:GT 1 (.mk 2 0 [97] []):=.var _ (by decide);have gF:=gA.fn gt;have cF:=tZ (.mk 2 0 [97] []) t;obtain⟨c,l3,le,m,gc,hl3,⟨b1,b2,b3⟩,J⟩:=aMv 7 ⟨[],[[97]],0⟩ (bT (.mk 2 0 [97] []) t) _ Z 26 ⟨fun x hx=>(by cases hx),fun x hx=>by rw[ζ.1 hx];decide,Int.le_refl _,by decide,by decide⟩ (by decide) (by decide) ⟨gF,.fn (.var η) (q.w.weak fun x hx=>by cases hx)⟩ (by show _≤33+8*(0:Int);omega) I (by decide) (by rw[hp];decide);have hp2:0≤pos le:=by unfold pos;omega
  have cA:=pS [97] (bT (.mk 2 0 [97] []) t);refine⟨.mk 7 0 [97] zTy [c] [] [],_,m+20,.tlam (by decide) gc.g,by omega,.inr ⟨_,_,c,gF,by omega,rfl,.fn (.var η) (q.w.weak fun x hx=>by cases hx),rfl,gc.w⟩,?_⟩;refine bM (n:=35) tok Tryz.func6 rfl rfl rfl ?_;refine sg rfl (sk 1 rfl (kc W ?_));refine ak 3 [(3,.id 700)] rfl (az (sk 1 rfl (kc cT ?_)));refine kz 2 rfl (a8 (sk 1 rfl (kc cN ?_)));refine kz 1 rfl (aA rfl (fun _=>sk 2 rfl (kc cF ?_)) nofun);refine kz 2 rfl (skh 4 [(1,.all)] rfl (kc J ?_));refine kz 2 rfl (skh 4 [(1,.all)] rfl (kc cA ?_));exact kz 2 rfl (aF ⟨.inr rfl,⟨_,_,.cell rfl (tg rfl) rfl rfl rfl (.cell rfl (tg rfl) rfl rfl rfl .nil),.cons (.pa (.c .refl (.c .refl (.c .refl (.c .refl (.c .refl (.c .refl (.c .nl (.c .refl (.c .nl (.c .nl .nil))))))))))) (.cons .refl .nil),rfl⟩,trivial,rfl⟩)
 ·obtain⟨c,l3,le,m,gc,hl3,⟨b1,b2,b3⟩,J⟩:=aMv 7 ⟨[],[],0⟩ t n Z 26 ⟨fun x hx=>(by cases hx),fun x hx=>(by cases hx),Int.le_refl _,by decide,by decide⟩ (by decide) (by decide) q (by show _≤33+8*(0:Int);omega) I (by decide) (by rw[hp];decide);have hp2:0≤pos le:=by unfold pos;omega
  refine⟨c,t,m,gc.g,by omega,.inl ⟨n,gt,hn,q.w,gc.w⟩,?_⟩;refine bM (n:=35) tok Tryz.func6 rfl rfl rfl ?_;refine sg rfl (sk 1 rfl (kc W ?_));refine ak 3 [(3,.id 700)] rfl (az (sk 1 rfl (kc cT ?_)));refine kz 2 rfl (a8 (sk 1 rfl (kc cN ?_)));refine kz 1 rfl (aA rfl (fun hb=>absurd (by have:=ψ hb;omega) h0) (fun _=>aD (sk 3 rfl (kc J ?_))));exact kz 3 rfl (aF ⟨.inr rfl,⟨_,_,.cell rfl (tg rfl) rfl rfl rfl (.cell rfl (tg rfl) rfl rfl rfl .nil),.cons .refl (.cons .refl .nil),rfl⟩,trivial,rfl⟩)
theorem aIv:∀{k:Nat}{t:Ty},GT k t→TM tvN 3 t:=by
 intro k t h
 induction h with
 | var s hs=>exact .var hs
 | con s hs=>exact .con
 | app ha hb q I=>exact .app q I
theorem zW:∀s∈nm6,nh s:=by unfold nh;decide
theorem uY:∀s∈nm6,s.length≤30:=by decide
theorem a1n:∀s∈tvN,¬s=[]:=by decide
theorem lwA {s:Str}{vs:List Str}(h3:s.length≤8) (h4:∀x∈vs,x∈nm6) (h5:vs.length≤2):1+w30 s+(vs.map fun v=>1+w30 v).sum≤93:=by
 have q:=aO7 (show s.length≤30 by omega);have I:=rT (g:=fun v:Str=>1+w30 v) (K:=31) (l:=vs) fun v hv=>by
  have:=aO7 (uY _ (h4 v hv));omega
 omega
theorem a3t:∀{m:Nat}{c:Core},GC m c→MW tvN c∧m30 c≤31*m∧20*tlC c≤m:=by
 intro m c h;have hw0:w30 ([]:Str)=30:=rfl;have two:∀{x y:Core},MW tvN x→MW tvN y→∀z∈[x,y],MW tvN z:=fun hx hy z O=>by
  rcases Ai.1 O with rfl | O
  ·exact hx
  ·rw[ζ.1 O];exact hy
 have one:∀{x:Core},MW tvN x→∀z∈[x],MW tvN z:=fun hx z O=>by rw[ζ.1 O];exact hx
 induction h with
 | @var s h=>
  have:=aO7 (uY _ h);refine⟨qU (gH rfl (fun h=>by cases h) rfl (uY _ h) (fun h=>by cases h)) .z (by simp) (by simp) (by simp),?_,?_⟩
  ·rw[m30,dI,gM,j2];omega
  ·rw[tlC,jT,qY,qA,φ (by decide)];omega
 | @con s h=>
  have:=aO7 (show s.length≤30 by omega);refine⟨qU (gH rfl (fun h=>by cases h) rfl (by omega) (fun h=>by cases h)) .z (by simp) (by simp) (by simp),?_,?_⟩
  ·rw[m30,dI,gM,j2];omega
  ·rw[tlC,jT,qY,qA,φ (by decide)];omega
 | int h=>
  refine⟨qU (gH rfl (fun h=>by cases h) rfl (by decide) (fun h=>by cases h)) .z (by simp) (by simp) (by simp),?_,?_⟩
  ·rw[m30,dI,gM,j2];omega
  ·rw[tlC,jT,qY,qA,φ (by decide)];omega
 | app ha hb q J=>
  obtain⟨I,a2,a3⟩:=q;obtain⟨N,W,Y⟩:=J;refine⟨qU (gH rfl (fun h=>by cases h) rfl (by decide) (fun h=>by cases h)) .z (two I N) (by simp) (by simp),?_,?_⟩
  ·rw[m30,dI,dI,dI,gM,j2];omega
  ·rw[tlC,jT,jT,jT,qY,qA,φ (by decide)];omega
 | @lam m k s t a h ht hk ha q=>
  obtain⟨I,a2,a3⟩:=q;have:=aO7 (uY _ h);refine⟨qU (gH rfl (fun h=>by cases h) (aIv ht).wf (uY _ h) (fun _=>zW _ h)) (aIv ht) (one I) (by simp) (by simp),?_,?_⟩
  ·rw[m30,dI,dI,gM,j2];omega
  ·rw[tlC,jT,jT,qY,qA,φ (by decide)];omega
 | tapp ht hk ha q=>
  obtain⟨I,a2,a3⟩:=q;refine⟨qU (gH rfl (fun h=>by cases h) (aIv ht).wf (by decide) (fun h=>by cases h)) (aIv ht) (one I) (by simp) (by simp),?_,?_⟩
  ·rw[m30,dI,dI,gM,j2];omega
  ·rw[tlC,jT,jT,qY,qA,φ (by decide)];omega
 | @tlam m s a h ha q=>
  obtain⟨I,a2,a3⟩:=q;have h8:=a27 s h;have:=aO7 (show s.length≤30 by omega);refine⟨qU (gH rfl (fun _=>⟨rfl,a1n s h⟩) rfl (by omega) (fun h=>by cases h)) .z (one I) (by simp) (by simp),?_,?_⟩
  ·rw[m30,dI,dI,gM,j2];omega
  ·rw[tlC,jT,jT,qY,qA,ξ rfl];omega
 | @lt m n k s t a b h ht hk ha hb q J=>
  obtain⟨I,a2,a3⟩:=q;obtain⟨N,W,Y⟩:=J;have:=aO7 (uY _ h);refine⟨qU ⟨rfl,fun h=>(by cases h),rfl,fun p hp=>?_,?_,fun h=>(by cases h),fun p hp=>?_,by simp⟩ .z (one I) (fun x hx=>?_) (by simp),?_,?_⟩
  ·rw[ζ.1 hp];exact(aIv ht).wf
  ·unfold lw;show 1+w30 []+(1+w30 s+0)+0≤403;omega
  ·rw[ζ.1 hp];exact zW _ h
  ·rw[ζ.1 hx];exact⟨aIv ht,N⟩
  ·rw[m30,dI,dI,gM,gM,j2];omega
  ·rw[tlC,jT,jT,qY,qY,qA,φ (by decide)];omega
 | @case1 m n k t a b f i s vs ht hk ha hb h1 h2 h3 h4 h5 q J=>
  obtain⟨I,a2,a3⟩:=q;obtain⟨N,W,Y⟩:=J;have hl:=lwA h3 h4 h5;refine⟨qU ⟨rfl,fun h=>(by cases h),(aIv ht).wf,by simp,?_,fun h=>(by cases h),by simp,fun p hp v hv=>?_⟩ (aIv ht) (one I) (by simp) (fun x hx=>?_),?_,?_⟩
  ·unfold lw;show 1+w30 []+0+(1+w30 s+(vs.map fun v=>1+w30 v).sum+0)≤403;omega
  ·rw[ζ.1 hp] at hv;exact zW _ (h4 v hv)
  ·rw[ζ.1 hx];exact N
  ·rw[m30,dI,dI,gM,j2,j2];omega
  ·rw[tlC,jT,jT,qY,qA,qA,φ (by decide)];omega
 | @case2 m n o k t a b c f i s vs f' i' s' vs' ht hk ha hb hc h1 h2 h3 h4 h5 h1' h2' h3' h4' h5' q J Z=>
  obtain⟨I,a2,a3⟩:=q;obtain⟨N,W,Y⟩:=J;obtain⟨c1,c2,c3⟩:=Z;have hl:=lwA h3 h4 h5;have hl':=lwA h3' h4' h5';refine⟨qU ⟨rfl,fun h=>(by cases h),(aIv ht).wf,by simp,?_,fun h=>(by cases h),by simp,fun p hp v hv=>?_⟩ (aIv ht) (one I) (by simp) (fun x hx=>?_),?_,?_⟩
  ·unfold lw;show 1+w30 []+0+(1+w30 s+(vs.map fun v=>1+w30 v).sum+(1+w30 s'+(vs'.map fun v=>1+w30 v).sum+0))≤403;omega
  ·have:p=(s,vs)∨p=(s',vs'):=by simpa [ahd,Alt.name,Alt.vars] using hp
   rcases this with rfl | rfl
   ·exact zW _ (h4 v hv)
   ·exact zW _ (h4' v hv)
  ·have:x=.mk f i s vs b∨x=.mk f' i' s' vs' c:=by simpa using hx
   rcases this with rfl | rfl
   ·exact N
   ·exact c1
  ·rw[m30,dI,dI,gM,j2,j2,j2];omega
  ·rw[tlC,jT,jT,qY,qA,qA,qA,φ (by decide)];omega
 | @prim m n s a b h ha hb q J=>
  obtain⟨I,a2,a3⟩:=q;obtain⟨N,W,Y⟩:=J;have:=aO7 (aKx _ h);refine⟨qU (gH rfl (fun h=>by cases h) rfl (aKx _ h) (fun h=>by cases h)) .z (two I N) (by simp) (by simp),?_,?_⟩
  ·rw[m30,dI,dI,dI,gM,j2];omega
  ·rw[tlC,jT,jT,jT,qY,qA,φ (by decide)];omega
 | fail ht hk=>
  refine⟨qU (gH rfl (fun h=>by cases h) (aIv ht).wf (by decide) (fun h=>by cases h)) (aIv ht) (by simp) (by simp) (by simp),?_,?_⟩
  ·rw[m30,dI,gM,j2];omega
  ·rw[tlC,jT,qY,qA,φ (by decide)];omega
def V0:List Str:=a3k++tvN
theorem a25:¬([]:Str)∈V0:=by decide
theorem aTw:V0.length=8:=rfl
theorem MW.mono {V W:List Str}{c:Core}(h:MW V c) (hv:∀x∈V,x∈W):MW W c:=⟨h.q,h.w,fun x hx=>hv x (h.v x hx)⟩
structure MK (c:Core):Prop where
 m:MW V0 c
 t:tlC c≤6000
 s:m30 c≤3500000
theorem MK.st {c:Core}(h:MK c) (n:Nat):ST n V0 c:=ST.of h.m h.t h.s n
theorem a2l {m:Nat}{c:Core}(h:GC m c) (hm:m≤110000):MK c:=by
 obtain⟨h1,h2,h3⟩:=a3t h;exact⟨h1.mono fun x hx=>δ.2 (.inr hx),by omega,by omega⟩
def fA:Ty:=.mk 2 0 [97] []
def fB:Ty:=.mk 2 0 [98] []
def tcn (s:Str):Ty:=.mk 3 0 s []
def tap (f a:Ty):Ty:=.mk 4 0 [] [f,a]
def tal (s:Str) (t:Ty):Ty:=.mk 5 0 s [t]
def eS:Ty:=tap (tcn [76]) fA
def iX:Ty:=tap (tap (tcn [80]) fA) fB
def fId:Ty:=tal [98] (bT fB fB)
def aVr:Ty:=tap (tcn [75,64]) fA
def qQ:Str:=[66,111,111,108]
def FL:List Fld:=[⟨[78],0,2,0,tal [97] eS⟩,⟨[67],1,2,2,tal [97] (bT fA (bT eS eS))⟩,⟨[80],0,1,2,tal [97] (tal [98] (bT fA (bT fB iX)))⟩,
 ⟨[70,97,108,115,101],0,2,0,tcn qQ⟩,⟨[84,114,117,101],1,2,0,tcn qQ⟩,⟨[75,64],0,1,2,tal [97] (bT fA (bT fId aVr))⟩]
theorem aRm:aQ Tryz.prog 5 [] [] (.one (.c (.sl 8 (FL.map cR)))) []:=by
 have h1:=gR [76];have h2:=gR [80];have h3:=gR [75,64];have h4:=gR qQ;have h5:=tZ fB fB;have Z:=pS [97] eS;have h7:=tZ eS eS;have h8:=tZ fA (bT eS eS);have h9:=pS [97] (bT fA (bT eS eS));have q:=tZ fB iX;have I:=tZ fA (bT fB iX);have J:=pS [98] (bT fA (bT fB iX));have N:=pS [97] (tal [98] (bT fA (bT fB iX)));have O:=tZ fId aVr;have W:=tZ fA (bT fId aVr);have Y:=pS [97] (bT fA (bT fId aVr));refine bM (n:=59) tok Tryz.func5 rfl rfl rfl ?_;refine sg rfl (sg rfl (AWp.sub (vp 1 (aO fA)) ?_));refine sg rfl (AWp.sub (vp 2 (aO fB)) ?_);exact sgh [(0,.pc (tyV (tcn [76]))),(2,.all)] rfl (sgh [(0,.pc (tyV (tcn [80]))),(2,.all),(5,.all)] rfl (sgh [(2,.pc (tyV (bT fB fB))),(3,.all)] rfl (sgh [(0,.pc (tyV (tcn [75,64]))),(2,.all)] rfl (sgh [(1,.pc (tyV (tal [97] eS))),(6,.pc (tyV (bT eS eS))),(7,.pc (tyV (bT fA (bT eS eS)))),(8,.pc (tyV (tal [97] (bT fA (bT eS eS))))),(13,.pc (tyV (bT fB iX))),(14,.pc (tyV (bT fA (bT fB iX)))),(15,.pc (tyV (tal [98] (bT fA (bT fB iX))))),(16,.pc (tyV (tal [97] (tal [98] (bT fA (bT fB iX)))))),(18,.pc (tyV (tcn qQ))),(20,.pc (tyV (tcn qQ))),(25,.pc (tyV (bT fId aVr))),(26,.pc (tyV (bT fA (bT fId aVr)))),(27,.pc (tyV (tal [97] (bT fA (bT fId aVr))))),(29,.all)] rfl (aF rtT)))))
theorem aCf {l:List Core}{i:Nat}{x:Core}(h:l[i]?=some x):bF (l.take (i+1))=bF (l.take i)+dJ x:=by
 induction l generalizing i with
 | nil=>simp at h
 | cons c l q=>cases i with
  | zero=>
   have:c=x:=by simpa using h
   subst this;simp[bF]
  | succ i=>
   rw[Ar,Ar,bF,bF,q (by simpa using h)];omega
theorem aCg {l:List Bind}{i:Nat}{x:Bind}(h:l[i]?=some x):bW (l.take (i+1))=bW (l.take i)+dJ x.body:=by
 induction l generalizing i with
 | nil=>simp at h
 | cons c l q=>cases i with
  | zero=>
   have:c=x:=by simpa using h
   subst this;obtain⟨s,t,c⟩:=c;simp[bW,Bind.body]
  | succ i=>
   obtain⟨s,t,c⟩:=c;rw[Ar,Ar,bW,bW,q (by simpa using h)];omega
theorem aCh {l:List Alt}{i:Nat}{x:Alt}(h:l[i]?=some x):cB (l.take (i+1))=cB (l.take i)+dJ x.body:=by
 induction l generalizing i with
 | nil=>simp at h
 | cons c l q=>cases i with
  | zero=>
   have:c=x:=by simpa using h
   subst this;obtain⟨f,n,s,v,c⟩:=c;simp[cB,Alt.body]
  | succ i=>
   obtain⟨f,n,s,v,c⟩:=c;rw[Ar,Ar,cB,cB,q (by simpa using h)];omega
theorem aJy {l:List Core}(i:Nat):bF (l.take i)≤bF l:=by
 induction l generalizing i with
 | nil=>simp
 | cons c l q=>cases i with
  | zero=>simp[bF]
  | succ i=>rw[Ar,bF,bF];have:=q i;omega
theorem aJ0 {l:List Bind}(i:Nat):bW (l.take i)≤bW l:=by
 induction l generalizing i with
 | nil=>simp
 | cons c l q=>cases i with
  | zero=>simp[bW]
  | succ i=>obtain⟨s,t,c⟩:=c;rw[Ar,bW,bW];have:=q i;omega
theorem aJ1 {l:List Alt}(i:Nat):cB (l.take i)≤cB l:=by
 induction l generalizing i with
 | nil=>simp
 | cons c l q=>cases i with
  | zero=>simp[cB]
  | succ i=>obtain⟨f,n,s,v,c⟩:=c;rw[Ar,cB,cB];have:=q i;omega
def yJ (c:Core):Prop:=bE c≤570000000000→aQ Tryz.prog 7 [.pa (aC c)] [] (I .i64 (dJ c:Nat)) []
theorem y2 (c:Core) (ih:∀x,bE x<bE c→yJ x):yJ c:=by
 intro hsz;have hsl:=size_le c;obtain⟨f,n,s,t,ks,bs,al⟩:=c;obtain⟨Y,Z,aa,hkl',hbl',hal'⟩:= @fN f n s t ks bs al;rw[dJ,show 1+(bF ks+(bW bs+cB al))=1+bF ks+bW bs+cB al by omega] at hsl ⊢;have ab:(aU bs).length=bs.length:=by rw[bX,θ]
 have ac:(aR ks).length=ks.length:=by rw[bA,θ]
 have ad:(c9 al).length=al.length:=by rw[c8,θ]
 have t1:∀i,bF (ks.take i)≤bF ks:=fun i=>aJy i
 have t2:∀i,bW (bs.take i)≤bW bs:=fun i=>aJ0 i
 have t3:∀i,cB (al.take i)≤cB al:=fun i=>aJ1 i
 refine bM (n:=55) tok Tryz.func7 rfl rfl rfl ?_;refine sg rfl (sg rfl (a8 (sg rfl (aB (aK (fun i:Nat=>mk [(1,.one (.vp 1 0)),(3,I .i64 (1+bF (ks.take i):Nat)),(4,I .i64 i)] [(1,.var 34 (b8 (.mk f n s t ks bs al)))]) (fun i=>i≤ks.length) (fun i=>ks.length-i) 0 (Aj _) sl ?_)))));intro i hi;refine a8 (sg rfl (aA rfl (fun hb=>?_) (fun hb=>?_)))
 ·have q:i<ks.length:=ltD hb ac;obtain⟨x,hx⟩:=aJ q;have J:=Ab hx;have ae:(aR ks)[i]?=some (aC x):=by rw[bA];exact bO aC hx
  have hc:=ih x (Y x J) (by have:=Y x J;omega);have O:=aCf hx;have h1:=t1 (i+1);have e:(((1+bF (ks.take i):Nat):Nat):Int)+((dJ x:Nat):Int)=((1+bF (ks.take (i+1)):Nat):Int):=by omega
  refine aD (a8 (aB (aE mixed (ak 6 [(4,.row i (aC x))] rfl (kc hc ?_)))));refine kz 2 rfl (ag [] rfl ⟨i+1,q,by dsimp only;omega,?_⟩);dsimp only;rw[←e];exact sl
 have N:=geD hb ac hi;subst N;rw[As];refine aL (a8 (sg rfl (aB (aK (fun i:Nat=>mk [(1,.one (.vp 1 0)),(3,I .i64 (1+bF ks+bW (bs.take i):Nat)),(5,I .i64 i)] [(1,.var 34 (b8 (.mk f n s t ks bs al)))]) (fun i=>i≤bs.length) (fun i=>bs.length-i) 0 (Aj _) sl ?_))));intro i hi;refine a8 (sg rfl (aA rfl (fun hb=>?_) (fun hb=>?_)))
 ·have q:i<bs.length:=ltD hb ab;obtain⟨x,hx⟩:=aJ q;have J:=Ab hx;have ae:=dC hx;have hc:=ih x.body (Z x J) (by have:=Z x J;omega);have O:=aCg hx;have h1:=t2 (i+1);obtain⟨xs,xt,W⟩:=x;dsimp only[Bind.body] at hc O;have e:(((1+bF ks+bW (bs.take i):Nat):Nat):Int)+((dJ W:Nat):Int)=((1+bF ks+bW (bs.take (i+1)):Nat):Int):=by omega
  refine aD (a8 (aB (aE mixed (ak 7 [(4,.row i (bJ (.mk xs xt W)))] rfl (kc hc ?_)))));refine kz 2 rfl (ag [] rfl ⟨i+1,q,by dsimp only;omega,?_⟩);dsimp only;rw[←e];exact sl
 have N:=geD hb ab hi;subst N;rw[As];refine aL (a8 (sg rfl (aB (aK (fun i:Nat=>mk [(1,.one (.vp 1 0)),(3,I .i64 (1+bF ks+bW bs+cB (al.take i):Nat)),(6,I .i64 i)] [(1,.var 34 (b8 (.mk f n s t ks bs al)))]) (fun i=>i≤al.length) (fun i=>al.length-i) 0 (Aj _) sl ?_))));intro i hi;refine a8 (sg rfl (aA rfl (fun hb=>?_) (fun hb=>?_)))
 ·have q:i<al.length:=ltD hb ad;obtain⟨x,hx⟩:=aJ q;have J:=Ab hx;have ae:=pL hx;have hc:=ih x.body (aa x J) (by have:=aa x J;omega);have O:=aCh hx;have h1:=t3 (i+1);obtain⟨xf,xn,xs,xv,W⟩:=x;dsimp only[Alt.body] at hc O;have e:(((1+bF ks+bW bs+cB (al.take i):Nat):Nat):Int)+((dJ W:Nat):Int)=((1+bF ks+bW bs+cB (al.take (i+1)):Nat):Int):=by omega
  refine aD (a8 (aB (aE mixed (ak 7 [(4,.row i (c6 (.mk xf xn xs xv W)))] rfl (kc hc ?_)))));refine kz 2 rfl (ag [] rfl ⟨i+1,q,by dsimp only;omega,?_⟩);dsimp only;rw[←e];exact sl
 have N:=geD hb ad hi;subst N;rw[As];exact aL (sg rfl (aF rtT))
theorem aGu:∀(n:Nat) (c:Core),bE c≤n→yJ c
 | 0,c,h=>by have:=cD c;omega
 | n+1,c,h=>y2 c fun x hx=>aGu n x (by omega)
def aPg (vs:List Str) (t:Ty):Ty:=vs.foldr tal t
def kR (fs:List Ty) (t:Ty):Ty:=fs.foldr bT t
theorem aJq {vs:List Str}{i:Nat}{v:Str}(h:vs[i]?=some v) (t:Ty):aPg (vs.drop i) t=tal v (aPg (vs.drop (i+1)) t):=by
 obtain⟨q,he⟩:=Aa.1 h;rw[Bp q,he];rfl
theorem aHh {fs:List Ty}{i:Nat}{a:Ty}(h:fs[i]?=some a) (t:Ty):kR (fs.drop i) t=bT a (kR (fs.drop (i+1)) t):=by
 obtain⟨q,he⟩:=Aa.1 h;rw[Bp q,he];rfl
theorem a3m {T:TT}{fn:Func}{st:St}{hin hout:List (Nat×AObj)}{res res2 res3:V}{t u w:Nat}{v v2 v3:V}{ids q I:List Nat}(hc:Conv st.h ids v res) (hc2:Conv st.h q v2 res2) (J:Conv st.h I v3 res3) (W:fn.results.toList=[.tmp t,.tmp u,.tmp w]:=by rfl) (hv:st.e t=some v:=by rfl) (N:st.e u=some v2:=by rfl) (O:st.e w=some v3:=by rfl)
  (ho:dM (fun p=>∃o,st.h p.1=some o∧Ole (fun i=>i) o p.2) hout:=by exact trivial)
  (hok:(Go.AM.subset (V.tup [res,res2,res3]).refs (keys hout)&&Go.AM.subset (cO hout) (keys hout)&&Go.AM.distinct (keys hout)&&Go.AM.subset (keys hin) (keys hout)&&(hin.all fun p=>p.2.plain)&&(hout.all fun p=>p.2.plain))=true:=by rfl):(Exit.ret=.normal∨Exit.ret=.ret)∧Fin T fn st hin (.tup [res,res2,res3]) hout:=
 ⟨.inr rfl,⟨[v,v2,v3],[res,res2,res3],by rw[W];exact .tmp hv (.tmp N (.tmp O .nil)),.cons hc (.cons hc2 (.cons J .nil)),rfl⟩,ho,hok⟩
theorem y4 (name:Str) (tg many:Int) (vs:List Str) (fs:List Ty) (nm:Str) (r:Ty) (hr:spR r=(.mk 3 0 nm [],vs.map fun v=>.mk 2 0 v [])) (hw:wfS r=true) (hnd:vs.Nodup) (hv:vs.length≤1000) (hf:fs.length≤1000)
  (hF:∀f∈fs,wfS f=true) (hFF:∀j,wfS (kR (fs.drop j) r)=true) (hn5:¬(kR fs r).form=5):aQ Tryz.prog 169 [.pa (cR ⟨name,tg,many,fs.length,aPg vs (kR fs r)⟩)] [] (.tup [.one (.c (.sl 4 (fs.map aO))),Go.AM.T nm,bI vs]) []:=by
 have hkv:(vs.map bL).length=vs.length:=θ _;refine bM (n:=92) tok Tryz.func169 rfl rfl rfl ?_;refine sg rfl (sg rfl (AWp.sub (Sub.own (t:=4) (id:=730) 9 1 rfl rfl) ?_));refine a8 (aB (aK (fun i:Nat=>mk [(1,.one (.vp 1 0)),(2,.one (.c .nl)),(3,Go.AM.T []),(4,.one (.hs 730 0 (vs.take i).length (vs.take i).length)),(5,.one (.vp 5 0))] [(1,.var 56 ((cR ⟨name,tg,many,fs.length,aPg vs (kR fs r)⟩).map R.c)),(5,.var 30 ((aO (aPg (vs.drop i) (kR fs r))).map R.c)),(730,.arr 9 1 ((vs.take i).map bL) 0)]) (fun i=>i≤vs.length) (fun i=>vs.length-i) 0 (Aj _) sl ?_));intro i hi;refine a8 (a8 ?_);by_cases aa:i<vs.length
 ·obtain⟨v,q⟩:=aJ aa;have N:=dY q;have O:=aJq q (kR fs r);have hno:decide (v∈vs.take i)=false:=Am fun h=>by
   have h1:=Cx i vs;have h2:=hnd;rw[←h1] at h2;have h3:v∈vs.drop i:=by rw[List.mem_iff_getElem?];exact⟨0,by rw[An];simpa using q⟩
   exact(Cg.1 h2).2.2 v h v h3 rfl
  have ab:=aDk (vs.take i) v (by rw[Aq];omega);rw[hno] at ab;have hlen:(vs.take i).length=i:=by rw[Aq];omega
  have hlen2:((vs.take i).map bL).length=i:=by rw[θ,hlen]
  generalize vs.take i=L at *;have hL:(L.map bL).length=L.length:=θ _;generalize aPg (vs.drop i) (kR fs r)=T0 at *;subst O;generalize W:aPg (vs.drop (i+1)) (kR fs r)=T1 at *;refine ag [] rfl (aA rfl (fun _=>aD (a8 (aB (sk 3 rfl (kc ab ?_))))) nofun);refine ak 1 [] rfl (kc lQ ?_);refine az (ag [(4,.all)] rfl (ag [(2,.row 0 (aO T1))] rfl ⟨i+1,aa,by show vs.length-(i+1)<vs.length-i;omega,?_⟩));dsimp only;rw[N,W];exact sl (he:=⟨rfl,rfl,rfl,Go.AM.hs_ren (by simp) (by simp),rfl,trivial⟩) (hh:=⟨⟨_,rfl,.varS rfl⟩,⟨_,rfl,.varS rfl⟩,⟨_,rfl,.arrS (by simp;rfl)⟩,trivial⟩)
 have hi2:i=vs.length:=by omega
 subst hi2;rw[As,Cy];have et:aPg [] (kR fs r)=kR fs r:=rfl;rw[et];have hff:decide ((kR fs r).form=5)=false:=Am hn5;refine ag [] rfl (aA rfl (fun hb=>by rw[hff] at hb;cases hb) (fun _=>aL (a8 (sg rfl (AWp.sub (Sub.own (t:=2) (id:=731) 30 4 rfl rfl) ?_)))));refine aB (aK (fun j:Nat=>mk [(1,.one (.vp 1 0)),(2,.one (.hs 731 0 (fs.take j).length (fs.take j).length)),(3,Go.AM.T []),(4,.one (.hs 730 0 vs.length vs.length)),(5,.one (.vp 5 0)),(34,I .i64 (fs.length:Int)),(35,I .i64 j)] [(1,.var 56 ((cR ⟨name,tg,many,fs.length,aPg vs (kR fs r)⟩).map R.c)),(5,.var 30 ((aO (kR (fs.drop j) r)).map R.c)),(730,.arr 9 1 (vs.map bL) 0),(731,.arr 30 4 ((fs.take j).map aO) 0)]) (fun j=>j≤fs.length) (fun j=>fs.length-j) 0 (Aj _) sl ?_);intro j hj;refine sg rfl (a8 (aA rfl (fun hb=>?_) (fun hb=>?_)))
 ·have Y:j<fs.length:=by have:=ψ hb;omega
  obtain⟨a,ha⟩:=aJ Y;have N:=dY ha;have O:=aHh ha r;have hwa:=hF a (Ab ha);have hwb:=hFF (j+1);generalize W:kR (fs.drop (j+1)) r=T1 at *;have J:=aGt a T1 (kC _ a (le_refl _) hwa) (kC _ T1 (le_refl _) hwb);rw[O];have hLl:(fs.take j).length≤1000:=by rw[Aq];omega
  generalize fs.take j=L at *;have hL:(L.map aO).length=L.length:=θ _;refine aD (a8 (aB (sk 1 rfl (kc J ?_))));refine kz 9 rfl (sk 1 rfl (kc lQ ?_));refine az (ag [(2,.all)] rfl (ag [] rfl ⟨j+1,Y,by show fs.length-(j+1)<fs.length-j;omega,?_⟩));dsimp only;rw[N,W];exact sl (he:=⟨rfl,Go.AM.hs_ren (by simp) (by simp),rfl,rfl,rfl,rfl,rfl,trivial⟩) (hh:=⟨⟨_,rfl,.varS rfl⟩,⟨_,rfl,.varS rfl⟩,⟨_,rfl,.arrS rfl⟩,⟨_,rfl,.arrS (by simp;rfl)⟩,trivial⟩)
 have hj2:j=fs.length:=by have:=χ hb;omega
 subst hj2;rw[As,Cy];have J:=oN r hw (by rw[hr];show(vs.map _).length≤_;rw[θ];omega);rw[hr] at J;dsimp only at J;have er:kR [] r=r:=rfl;rw[er];have e2:decide ((((vs.map fun v=>Ty.mk 2 0 v []).map aO).length:Int)=(vs.length:Int))=true:=Ah (by rw[θ,θ]);refine aL (sk 1 rfl (kc J ?_));refine kz 6 rfl (skh 10 [(3,.bv true)] rfl (kc (sW e2) ?_));refine az ?_;have hka:((vs.map fun v=>Ty.mk 2 0 v []).map aO).length=vs.length:=by rw[θ,θ]
 refine a8 (sg rfl (aB (aK (fun k:Nat=>mk [(2,.one (.hs 731 0 fs.length fs.length)),(3,Go.AM.T []),(4,.one (.hs 730 0 vs.length vs.length)),(9,.one (.vp 9 0)),(67,.one (.c (.sl 4 ((vs.map fun v=>Ty.mk 2 0 v []).map aO)))),(68,I .i64 (((vs.map fun v=>Ty.mk 2 0 v []).map aO).length:Int)),(69,I .i64 k)] [(9,.var 30 ((aO (.mk 3 0 nm [])).map R.c)),(730,.arr 9 1 (vs.map bL) 0),(731,.arr 30 4 (fs.map aO) 0)]) (fun k=>k≤vs.length) (fun k=>vs.length-k) 0 (Aj _) sl ?_)));intro k hk;refine sg rfl (a8 (aA rfl (fun hb=>?_) (fun hb=>?_)))
 ·have Z:=ltD hb hka;obtain⟨v,q⟩:=aJ Z;have hv':=bO bL q;have hy':((vs.map fun v=>Ty.mk 2 0 v []).map aO)[k]?=some (aO (.mk 2 0 v [])):=by rw[Bj,Bg,q];rfl
  have e3:decide (v=v)=true:=by simp
  refine aD (a8 (aB (sgh [(1,.row k (aO (.mk 2 0 v [])))] rfl (aE mixed (ak 12 [(3,.bv true),(9,.row k (bL v))] rfl (kc (sW e3) ?_))))));exact az (ag [] rfl ⟨k+1,Z,by show vs.length-(k+1)<vs.length-k;omega,sl⟩)
 refine aL (sg rfl (AWp.sub (Sub.freeze (id:=730) rfl) ?_));refine AWp.sub (Sub.freeze (id:=731) rfl) ?_;exact aF (a3m (hs_all (l:=fs.map aO) rfl rfl (θ _).symm rfl) .refl (hs_all (l:=vs.map bL) rfl rfl (θ _).symm rfl))
section
variable (ps:List (Str×Ty))
theorem yU (x y:Ty):bP (.mk 4 0 [] [x,y]) ps=.mk 4 0 [] [bP x ps,bP y ps]:=by rw[bP,φ (by decide),ξ rfl,dX,dX,dX]
theorem yT (s:Str):bP (.mk 3 0 s []) ps=.mk 3 0 s []:=by rw[bP,φ (by decide),φ (by decide),φ (by decide)]
theorem gZ (x y:Ty):bP (bT x y) ps=bT (bP x ps) (bP y ps):=by
 unfold bT tapp;rw[yU,yU,yT]
theorem nJ (x:Ty):bP (tLs x) ps=tLs (bP x ps):=by unfold tLs;rw[yU,yT]
theorem yS (x y:Ty):bP (tPr x y) ps=tPr (bP x ps) (bP y ps):=by unfold tPr;rw[yU,yU,yT]
theorem q9:bP fM ps=fM:=yT ps _
theorem mZ:bP eU ps=eU:=yT ps _
theorem aEq {ps:List (Str×Ty)}(hn:(ps.map (·.1)).Nodup) {s:Str}{u:Ty}(h:(s,u)∈ps):bP (vT s) ps=u:=by
 unfold vT;rw[bP,ξ rfl,aC9 hn h]
end
theorem rL {x y:Ty}(hx:wfS x=true) (q:wfS y=true):wfS (.mk 4 0 [] [x,y])=true:=by
 rw[wfS,ξ rfl,wC,wC,wC,hx,q];rfl
theorem aT1 (s:Str):wfS (.mk 3 0 s [])=true:=by rw[wfS,φ (by decide),φ (by decide),wC];rfl
theorem aY5 {x y:Ty}(hx:nA x=true) (q:nA y=true):nA (.mk 4 0 [] [x,y])=true:=by
 rw[nA,nAs,nAs,nAs,hx,q];rfl
theorem aY4 (s:Str):nA (.mk 3 0 s [])=true:=by rw[nA,nAs];rfl
theorem NT.app {x y:Ty}(hx:NT x) (q:NT y):NT (.mk 4 0 [] [x,y]):=⟨rL hx.w q.w,aY5 hx.a q.a⟩
theorem NT.con (s:Str):NT (.mk 3 0 s []):=⟨aT1 s,aY4 s⟩
theorem NT.var (s:Str):NT (vT s):=⟨aBs,by unfold vT;rw[nA,nAs];rfl⟩
theorem TW.nt {V:List Str}{t:Ty}(h:TW V t):NT t:=by
 induction h with
 | var h=>exact .var _
 | int=>exact .con _
 | bool=>exact .con _
 | lst _ J=>exact .app (.con _) J
 | pr _ _ q I=>exact .app (.app (.con _) q) I
 | fn _ _ q I=>exact .app (.app (.con _) q) I
def FV (V:List Str) (t:Ty):Prop:=fvm t≤V.length∧∀z∈tfR t,z∈V
theorem FV.app {V:List Str}{x y:Ty}(hx:FV V x) (q:FV V y):FV V (.mk 4 0 [] [x,y]):=by
 have h:∀z∈tfR (.mk 4 0 [] [x,y]),z∈V:=fun z I=>(uF I).elim (hx.2 z) (q.2 z)
 refine⟨?_,h⟩;have h1:=fK _ V (wE _) h;have h2:=hx.1;have h3:=q.1;rw[fvm,yM,yM,yM];omega
theorem FV.con {V:List Str}(s:Str):FV V (.mk 3 0 s []):=by
 have h:∀z∈tfR (.mk 3 0 s []),z∈V:=fun z q=>absurd q uE
 refine⟨?_,h⟩;have h1:=fK _ V (wE _) h;rw[fvm,yM];omega
theorem FV.var {V:List Str}{s:Str}(hs:s∈V):FV V (vT s):=by
 have h:∀z∈tfR (vT s),z∈V:=fun z q=>by rw[tT,ζ] at q;rw[q];exact hs
 refine⟨?_,h⟩;have h1:=fK _ V (wE _) h;unfold vT at h1 ⊢;rw[fvm,yM];omega
theorem TW.fv {V:List Str}{t:Ty}(h:TW V t):FV V t:=by
 induction h with
 | var h=>exact .var h
 | int=>exact .con _
 | bool=>exact .con _
 | lst _ J=>exact .app (.con _) J
 | pr _ _ q I=>exact .app (.app (.con _) q) I
 | fn _ _ q I=>exact .app (.app (.con _) q) I
theorem aT3 {n m:Nat}(h:tvO n=tvO m):n=m:=aMy _ _ (List.cons.inj h).2
def VO (d:Nat):List Str:=(List.range d).map tvO
theorem aHa {d:Nat}{x:Str}:x∈VO d↔∃k,k<d∧tvO k=x:=by unfold VO;simp
theorem w8 (d:Nat):(VO d).length=d:=by unfold VO;simp
theorem a03 (d:Nat):¬tvO d∈VO d:=fun h=>by
 obtain⟨k,h1,h2⟩:=aHa.1 h;have:=aT3 h2;omega
structure PsV (w:Wd) (V:List Str):Prop where
 nd:(w.ps.map (·.1)).Nodup
 ok:∀p∈w.ps,∃k,k<w.deep∧p.2=vT (tvO k)
 mem:∀v∈V,∃u,(v,u)∈w.ps
 len:w.ps.length≤w.deep
theorem PsV.sub {w:Wd}{V W:List Str}(h:PsV w V) (hv:∀x∈W,x∈V):PsV w W:=⟨h.nd,h.ok,fun v hm=>h.mem v (hv v hm),h.len⟩
theorem PsV.ps {w:Wd}{V:List Str}(h:PsV w V) (hd:w.deep≤700000):PsOk w.ps:=
 ⟨h.nd,fun p hp=>by
  obtain⟨k,_,e⟩:=h.ok p hp;rw[e]
  exact⟨(NT.var _).w,by unfold vT;rw[pI];decide⟩,by have:=h.len;omega⟩
theorem PsV.tw {w:Wd}{V:List Str}{t:Ty}(h:PsV w V) (ht:TW V t):TW (VO w.deep) (bP t w.ps):=by
 induction ht with
 | @var s hs=>
  obtain⟨u,hu⟩:=h.mem s hs;show TW _ (bP (vT s) w.ps);rw[aEq h.nd hu];obtain⟨k,hk,e⟩:=h.ok _ hu;have e:u=vT (tvO k):=e;rw[e];exact .var (aHa.2 ⟨k,hk,rfl⟩)
 | int=>rw[q9];exact .int
 | bool=>rw[mZ];exact .bool
 | lst _ J=>rw[nJ];exact .lst J
 | pr _ _ q I=>rw[yS];exact .pr q I
 | fn _ _ q I=>rw[gZ];exact .fn q I
theorem PsV.fv {w:Wd}{V:List Str}{t:Ty}(h:PsV w V) (ht:TW V t) (hd:w.deep≤700000):fvm t≤700000:=by
 have h1:TW (w.ps.map (·.1)) t:=ht.weak fun v hv=>by
  obtain⟨u,hu⟩:=h.mem v hv;exact Af.2 ⟨_,hu,rfl⟩
 have h2:=h1.fv.1;rw[θ] at h2;have:=h.len;omega
theorem TW.one {d:Nat}{U:Ty}(h:TW (VO d) U) (hd:d≤700000) (nm:Str):PsOk [(nm,U)]:=
 ⟨by simp,fun p hp=>by
  rw[ζ.1 hp]
  exact⟨h.nt.w,by have:=h.fv.1;rw[w8] at this;show fvm U≤_;omega⟩,by show 1≤_;omega⟩
theorem TW.two {d:Nat}{U W:Ty}(h:TW (VO d) U) (q:TW (VO d) W) (hd:d≤700000) {nm nm':Str}(hn:¬nm=nm'):PsOk [(nm,U),(nm',W)]:=
 ⟨by simpa using hn,fun p hp=>by
  rcases Ai.1 hp with rfl | hp
  ·exact⟨h.nt.w,by have:=h.fv.1;rw[w8] at this;show fvm U≤_;omega⟩
  ·rw[ζ.1 hp]
   exact⟨q.nt.w,by have:=q.fv.1;rw[w8] at this;show fvm W≤_;omega⟩,by show 2≤_;omega⟩
theorem xO {s:Str}{ps:List (Str×Ty)}{p:Str×Ty}:p∈xP s ps↔p∈ps∧¬p.1=s:=by unfold xP;simp
theorem PsV.all {w:Wd}{V:List Str}(h:PsV w V) (s:Str):PsV (w.all_ s (tvO w.deep)) (s::V):=by
 refine⟨?_,fun p hp=>?_,fun v hv=>?_,?_⟩
 ·show((xP s w.ps++[(s,vT (tvO w.deep))]).map (·.1)).Nodup;rw[A4,Cg];refine⟨List.Sublist.nodup (List.filter_sublist.map _) h.nd,by simp,fun x hx y q=>?_⟩;have q:y=s:=by simpa using q
  obtain⟨p,hp,rfl⟩:=Af.1 hx;rw[q];exact(xO.1 hp).2
 ·show ∃k,k<w.deep+1∧_;rcases δ.1 hp with hp | hp
  ·obtain⟨k,hk,e⟩:=h.ok p (xO.1 hp).1;exact⟨k,by omega,e⟩
  ·rw[ζ.1 hp];exact⟨w.deep,by omega,rfl⟩
 ·show ∃u,(v,u)∈xP s w.ps++[(s,vT (tvO w.deep))];by_cases e:v=s
  ·exact⟨_,δ.2 (.inr (by rw[e];exact ζ.2 rfl))⟩
  ·obtain⟨u,hu⟩:=h.mem v ((Ai.1 hv).resolve_left e);exact⟨u,δ.2 (.inl (xO.2 ⟨hu,e⟩))⟩
 ·show(xP s w.ps++[(s,vT (tvO w.deep))]).length≤w.deep+1;rw[τ];have:=aC7 (name:=s) w.ps;have:=h.len;simp only[Be,List.length_nil];omega
theorem PsV.all_var {w:Wd}{V:List Str}(h:PsV w V) (s:Str):bP (vT s) (w.all_ s (tvO w.deep)).ps=vT (tvO w.deep):=aEq (h.all s).nd (δ.2 (.inr (ζ.2 rfl)))
theorem PsV.all_id {w:Wd}{V:List Str}(h:PsV w V) {s:Str}{t:Ty}(ht:TW V t) (hs:¬s∈V):bP t (w.all_ s (tvO w.deep)).ps=bP t w.ps:=by
 induction ht with
 | @var v hv=>
  obtain⟨u,hu⟩:=h.mem v hv;show bP (vT v) _=bP (vT v) _;rw[aEq h.nd hu];exact aEq (h.all s).nd (δ.2 (.inl (xO.2 ⟨hu,fun e=>hs (by rw[←show v=s from e];exact hv)⟩)))
 | int=>rw[q9,q9]
 | bool=>rw[mZ,mZ]
 | lst _ J=>rw[nJ,nJ,J]
 | pr _ _ q I=>rw[yS,yS,q,I]
 | fn _ _ q I=>rw[gZ,gZ,q,I]
def aDz (l:List (Str×Ty)) (x:Str) (t:Ty):Prop:=∃a b,l=a++(x,t)::b∧∀p∈b,¬p.1=x
theorem aL6 (l:List (Str×Ty)) (s:Str) (u:Ty):aDz (l++[(s,u)]) s u:=⟨l,[],rfl,by simp⟩
theorem aVc {l:List (Str×Ty)}{s x:Str}{u t:Ty}(h:¬x=s):aDz l x t→aDz (l++[(s,u)]) x t:=fun⟨a,b,e,hb⟩=>⟨a,b++[(s,u)],by rw[e];simp,fun p hp=>by
 rcases δ.1 hp with hp | hp
 ·exact hb p hp
 ·rw[ζ.1 hp];exact fun e=>h e.symm⟩
structure EnV (w:Wd) (V:List Str) (Γ:Env):Prop where
 tw:∀x t,Γ x=some t→TW V t
 la:∀x t,Γ x=some t→aDz w.env x (bP t w.ps)
theorem EnV.more {w:Wd}{V:List Str}{Γ:Env}(h:EnV w V Γ) {u:Ty}(hu:TW V u) (s:Str):EnV (w.with_ [(s,bP u w.ps)]) V (upd Γ s u):=by
 refine⟨fun x t hx=>?_,fun x t hx=>?_⟩
 ·unfold upd at hx;split at hx
  ·rw[←Option.some.inj hx];exact hu
  ·exact h.tw x t hx
 ·show aDz (w.env++[(s,bP u w.ps)]) x (bP t w.ps);unfold upd at hx;split at hx
  ·rename_i e;rw[←Option.some.inj hx,e];exact aL6 _ _ _
  ·rename_i e;exact aVc e (h.la x t hx)
theorem WT.tw {V:List Str}{Γ:Env}{c:Core}{t:Ty}(h:WT V Γ c t):(∀x w,Γ x=some w→TW V w)→TW V t:=by
 induction h with
 | var h=>exact fun q=>q _ _ h
 | int=>exact fun _=>.int
 | bool=>exact fun _=>.bool
 | nil h=>exact fun _=>.lst h
 | cons h=>exact fun _=>.fn h (.fn (.lst h) (.lst h))
 | pair h1 h2=>exact fun _=>.fn h1 (.fn h2 (.pr h1 h2))
 | app _ _ J I=>exact fun q=>(TW.of_fn (J q)).2
 | @lam V Γ s b u t hu _ N=>
  exact fun q=>.fn hu (N fun x w hx=>by
   unfold upd at hx;split at hx
   ·rw[←Option.some.inj hx];exact hu
   ·exact q x w hx)
 | tt h1 h2 h3 h4 h5 O _=>exact fun _=>.fn h5 (h4.weak h1)
 | @lt V Γ s b c u t hu _ _ _ I=>
  exact fun q=>I fun x w hx=>by
   unfold upd at hx;split at hx
   ·rw[←Option.some.inj hx];exact hu
   ·exact q x w hx
 | cbool ht _ _ _ _ _ _=>exact fun _=>ht
 | cint ht _ _ _ _ _ _=>exact fun _=>ht
 | cl1 hxy ht _ _ _ _=>exact fun _=>ht
 | cl2 hxy ht _ _ _ _ _ _=>exact fun _=>ht
 | cp hxy ht _ _ _ _=>exact fun _=>ht
 | pint hs _ _ _ _=>exact fun _=>.int
 | pbool hs _ _ _ _=>exact fun _=>.bool
 | fail ht=>exact fun _=>ht
theorem aDl (l:List (Str×Ty)):aQ Tryz.prog 138 [.one (.c (.sl 5 (l.map fI)))] [] (.one (.clo 163 [.vp 771 0])) [(771,.var 72 [.c (.sl 5 (l.map fI))])]:=by
 refine bM (n:=4) tok Tryz.func138 rfl rfl rfl ?_;exact sgh [(0,.id 771)] rfl (sg rfl (aF ⟨.inr rfl,⟨_,_,.tmp rfl .nil,.cons .refl .nil,rfl⟩,⟨⟨_,rfl,.var rfl⟩,trivial⟩,rfl⟩))
def bkN (l:List (Str×Ty)):AObj:=.var 72 [.c (.sl 5 (l.map fI))]
theorem aRp (l:List (Str×Ty)) (hl:l.length≤1000000) (q:Nat) (ks:List Nat) (H Hd:List (Nat×AObj)) (hw:Wf ks ((771,bkN l)::H)) (N:Wf ks ((771,bkN l)::Hd)) (J:subset [q,771] ks=true) (i:Nat) (hi:i<l.length)
  (Z:∀k x,l[k]?=some x→i<k→aDx Tryz.prog q [I .i64 (k:Nat),.pa (fI x)] ((771,bkN l)::H) true ((771,bkN l)::H))
  (hd:∀x,l[i]?=some x→aDx Tryz.prog q [I .i64 (i:Nat),.pa (fI x)] ((771,bkN l)::H) false ((771,bkN l)::Hd)):
  aQ Tryz.prog 163 [.one (.yl q),.one (.vp 771 0)] ((771,bkN l)::H) (.tup []) ((771,bkN l)::Hd):=by
 have O:keys ((771,bkN l)::H)=ks:=hw.keys;have W:(l.map fI).length=l.length:=θ _;refine bM (n:=19) tok Tryz.func163 rfl rfl rfl ?_;rw[O];refine sg rfl (aB (aK (fun k:Nat=>mk [(0,.one (.yl q)),(1,.one (.vp 771 0)),(3,I .i64 ((k:Int)-1))] ((771,bkN l)::H)) (fun k=>k≤l.length∧i<k) (fun k=>k) l.length ⟨le_refl _,hi⟩ (Sub.heap hw ⟨rfl,rfl,by show some (I .i64 (((l.map fI).length:Int)-1))=_;rw[W],trivial⟩ (fun _ _ h=>h) (by simpa [kL,V.refs,R.refs,I] using J) (n0 _) rfl) ?_));intro k ⟨hk,aa⟩;refine a8 (sg rfl (aA rfl (fun hb=>?_) (fun hb=>?_)))
 ·obtain⟨m,rfl⟩:∃m,k=m+1:=⟨k-1,by omega⟩
  rw[show((m+1:Nat):Int)-1=(m:Nat) by omega];obtain⟨x,hx⟩:=aJ (show m<l.length by omega);have ab:=bO fI hx;refine aD (a8 (aB ?_));by_cases Y:m=i
  ·subst Y;refine skh 6 [(4,.row m (fI x))] rfl (k_ (g_ rfl rfl (aKd (d:=17) ((771,bkN l)::H) ((771,bkN l)::Hd) rfl rfl (iE rfl) rfl (hd x hx) (.cons rfl .refl (.cons rfl .refl .nil)) hw.all (hw.hout N) (hw.callOk (by have:=J;simp[subset,V.refs,V.refsL,R.refs] at this ⊢;exact this.1)))) ?_);refine kz 1 rfl (aA rfl (fun _=>aF ?_) nofun)
   exact⟨.inr rfl,Fin.heap hw N (fun id o h=>by
    show updL (Go.AM.look ((771,bkN l)::H)) (outs ((771,bkN l)::Hd)) id=some o
    rw[eT,h]) .nil .nil rfl⟩
  ·refine skh 6 [(4,.row m (fI x))] rfl (k_ (g_ rfl rfl (aKd (d:=17) ((771,bkN l)::H) ((771,bkN l)::H) rfl rfl (iE rfl) rfl (Z m x hx (by omega)) (.cons rfl .refl (.cons rfl .refl .nil)) hw.all (hw.hout hw) (hw.callOk (by have:=J;simp[subset,V.refs,V.refsL,R.refs] at this ⊢;exact this.1)))) ?_);refine kz 1 rfl (aA rfl nofun (fun _=>aD (ag [] rfl ?_)))
   exact⟨m,⟨by omega,by omega⟩,by dsimp only;omega,Sub.heap hw ⟨rfl,rfl,rfl,trivial⟩ (fun id o h=>by
    show updL (Go.AM.look ((771,bkN l)::H)) (outs ((771,bkN l)::H)) id=some o
    rw[eT,h]) (by simpa [kL,V.refs,R.refs,I] using J) (n0 _) rfl⟩
 ·exact absurd (show ¬0≤(k:Int)-1 from χ hb) (by omega)
theorem aRs:eG Tryz.prog 163:=rH (by kernel_rfl)
theorem aRo (l:List (Str×Ty)) (hl:l.length≤1000000) (ks:List Nat) (li:LI) (e0:List (Nat×V)) (H Hd:List (Nat×AObj)) (hw:Wf ks ((771,bkN l)::(900,.lp .ready none li e0)::H)) (q:Wf ks ((771,bkN l)::(900,.lp .done (some .ret) li e0)::Hd)) (J:subset [900,771] ks=true) (i:Nat) (hi:i<l.length)
  (N:∀k x,l[k]?=some x→i<k→aDx Tryz.prog 900 [I .i64 (k:Nat),.pa (fI x)] ((771,bkN l)::(900,.lp .ready none li e0)::H) true ((771,bkN l)::(900,.lp .ready none li e0)::H))
  (hd:∀x,l[i]?=some x→aDx Tryz.prog 900 [I .i64 (i:Nat),.pa (fI x)] ((771,bkN l)::(900,.lp .ready none li e0)::H) false ((771,bkN l)::(900,.lp .done (some .ret) li e0)::Hd)):
  aQ Tryz.prog 163 [.one (.yl 900),.one (.vp 771 0)] ((900,.lp .ready none li e0)::(771,bkN l)::H) (.tup []) ((900,.lp .done (some .ret) li e0)::(771,bkN l)::Hd):=
 aQ.row (aRp l hl 900 ks _ _ hw q J i hi N hd) jN jN
theorem aVd {l:List (Str×Ty)}{s:Str}{t:Ty}(h:aDz l s t):∃i,l[i]?=some (s,t)∧i<l.length∧∀k x,l[k]?=some x→i<k→¬x.1=s:=by
 obtain⟨a,b,rfl,hb⟩:=h;refine⟨a.length,by simp,by simp,fun k x hx hk=>?_⟩;rw[Az (by omega),List.getElem?_cons,φ (by omega)] at hx;exact hb x (Ab hx)
theorem aWc (w:Wd) (f n:Int) (s:Str) (t:Ty) (ks:List Core) (bs:List Bind) (al:List Alt) {T:Ty}(hl:w.env.length≤1000000) (h:aDz w.env s T):aQ Tryz.prog 109 [.pa (eM w),.pa (aC (.mk f n s t ks bs al))] [] (tyV T) []:=by
 obtain⟨i,hi,I,J⟩:=aVd h;have N:=aDl w.env;refine bM (n:=21) tok Tryz.func109 rfl rfl rfl ?_;refine sg rfl (a8 (sk 2 rfl (kc N ?_)));refine az (aB ?_);refine aOc (st':=.done) (j:=some .ret) (hin:=[(771,bkN w.env),(3,.var 34 (b8 (.mk f n s t ks bs al))),(4,.var 30 [.c (.int .i64 0),.c (.int .i64 0),.c (.str []),.c .nl])]) (hout:=[(771,bkN w.env),(3,.var 34 (b8 (.mk f n s t ks bs al))),(4,.var 30 ((aO T).map R.c))]) 900 1000 [(3,.one (.vp 3 0)),(4,.one (.vp 4 0))] _
  aRs rfl ⟨rfl,rfl,trivial⟩ ⟨rfl,rfl,rfl,trivial⟩ ⟨.inl (by simp[keys]),.inl (by simp[keys]),.inl (by simp[keys]),trivial⟩ rfl rfl
  (aRo w.env (by omega) [771,900,3,4] _ [(3,.one (.vp 3 0)),(4,.one (.vp 4 0))] [(3,.var 34 (b8 (.mk f n s t ks bs al))),(4,.var 30 [.c (.int .i64 0),.c (.int .i64 0),.c (.str []),.c .nl])] [(3,.var 34 (b8 (.mk f n s t ks bs al))),(4,.var 30 ((aO T).map R.c))] ⟨rfl,rfl⟩ ⟨rfl,rfl⟩ rfl i I ?_ ?_) rfl (by simp) (Sub.refl _ _) ?_
 ·intro k x hx hk;have q:=J k x hx hk;have W:decide (x.1=s)=false:=Am q;refine aDx.row ?_ jN jN;refine aDx.of (j:=none) (fun l=>?_) rfl;refine ag [] rfl ⟨rfl,?_⟩;exact aB (sg rfl (aA rfl (fun hb=>absurd (ψ hb) q) (fun hb=>aD ⟨rfl,⟨⟨_,rfl,.var rfl⟩,⟨_,rfl,.var rfl⟩,⟨_,rfl,.var rfl⟩,trivial⟩,rfl⟩)))
 ·intro x hx;have O:x=(s,T):=by rw[hi] at hx;exact(Option.some.inj hx).symm
  subst O;refine aDx.row ?_ jN jN;refine aDx.of (j:=some .ret) (fun l=>?_) rfl;refine ag [] rfl ⟨rfl,?_⟩;exact aB (sg rfl (aA rfl (fun _=>sg rfl (aF ⟨rfl,⟨⟨_,rfl,.var rfl⟩,⟨_,rfl,.var rfl⟩,⟨_,rfl,.varS rfl⟩,trivial⟩,rfl⟩)) (fun hb=>absurd rfl (χ hb))))
 ·exact rtC trw
end Go.Proofs.YtglfogjcijokpaaGreatDoor
