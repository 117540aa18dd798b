/-
  Texts Lt5 to Lv2 in one.
-/
import Derived.Test.YtockgoadliilhaaGreatDoorM15
open List (cons_append length_append length_cons length_eq_one_iff length_map length_nil length_take length_zip map_append map_cons map_id map_map mem_append mem_cons mem_cons_of_mem mem_cons_self mem_map mem_of_mem_drop mem_of_mem_take mem_or_eq_of_mem_set mem_singleton nil_append of_mem_zip sum_cons take_left' take_length take_succ_cons)
open Nat (le_refl zero_le)
namespace Go.Proofs.YtockgoadliilhaaGreatDoor
open Go Go.AM
set_option maxRecDepth 20000
def pos (left:Int):Int:=((left-1).toNat:Int)
def tD (F:Int):Prop:=∀(v:Gv) (t:Ty) (n:Nat) (l:List Int) (left:Int),Gok v→7≤v.deep+F→v.deep≤8→GT n t→(n:Int)≤33+8*v.deep→Ok l→left≤100→ -1000≤left-3*pos left→
 ∃(c:Core) (l':List Int) (left':Int) (m:Nat),GC m c∧Ok l'∧(left'≤left∧left-3*pos left-1≤left'-3*pos left'∧(m:Int)+4100*pos left'≤2000+4100*pos left)∧
  aU Tryz.prog 27 [.one (.vp 700 0),.pa (zX v),tyV t] (mO l left) (.pa (aB c)) (mO l' left')
theorem aY5 (F:Int) (hS:tD F) (v:Gv) (t:Ty) (n:Nat) (l:List Int) (left:Int) (hv:Gok v) (hF:7≤v.deep+1+F) (hd:v.deep≤6) (Y:GT n t) (hn:(n:Int)≤33+8*v.deep) (hl:Ok l) (hle:left≤100) (hlo: -1000≤left-3*pos left-2):
  ∃(c:Core) (l':List Int) (left':Int) (m:Nat),GC m c∧Ok l'∧(left'≤left∧left-3*pos left-3≤left'-3*pos left'∧(m:Int)+4100*pos left'≤6050+4100*pos left)∧
   aU Tryz.prog 62 [.one (.vp 700 0),.pa (zX v),tyV t] (mO l left) (.pa (aB c)) (mO l' left'):=by
 have h0:=hv.d0;have hlen:=hv.len;have hvlen:=hv.vlen;obtain⟨tf,tn,ts,I⟩:=t;obtain⟨i,l1,hi,hl1,cN⟩:=kA l left 4 (by decide) hl;have more:∀(v:Gv) (s:Str) (u:Ty) (k:Nat),Gok v→0≤v.deep→v.deep≤8→GT k u→k≤100→(s=[]∨s∈nm6)→Gok (eE v s u)∧aU Tryz.prog 60 [.pa (zX v),Go.AM.T s,tyV u] [] (.pa (zX (eE v s u))) []:=fun v s u k h h0 h8 hu hk hs=>by
  have:=h.len;exact⟨h.more hs hu hk,aAe v s u (by omega) ⟨h0,by omega⟩⟩
 obtain⟨N,cM⟩:=more v [] (.mk tf tn ts I) n hv h0 (by omega) Y (by omega) (.inl rfl);have hd1:(eE v [] (.mk tf tn ts I)).deep=v.deep+1:=rfl;by_cases h1:i=0
 ·subst h1;obtain⟨O,l2,le2,m1,g1,hl2,⟨b1,b1',b1''⟩,cS1⟩:=hS (eE v [] (.mk tf tn ts I)) aXp 1 l1 left N (by omega) (by omega) (.con _ (by decide)) (by omega) hl1 hle (by omega);obtain⟨J,l3,le3,m2,g2,hl3,⟨b2,b2',b2''⟩,cS2⟩:=hS (eE v [] (.mk tf tn ts I)) (.mk tf tn ts I) n l2 le2 N (by omega) (by omega) Y (by omega) hl2 (by omega) (by omega);obtain⟨c3,l4,le4,m3,g3,hl4,⟨b3,b3',b3''⟩,cS3⟩:=hS (eE v [] (.mk tf tn ts I)) (.mk tf tn ts I) n l3 le3 N (by omega) (by omega) Y (by omega) hl3 (by omega) (by omega);refine⟨.mk 9 0 [] (.mk tf tn ts I) [O] [] [.mk 1 0 [84,114,117,101] [] J,.mk 1 0 [70,97,108,115,101] [] c3],l4,le4,m1+m2+m3+40,.case2 Y (by omega) g1 g2 g3 (by decide) (by decide) (by decide) (by simp) (by decide) (by decide) (by decide) (by decide) (by simp) (by decide),hl4,⟨by omega,by omega,by omega⟩,?_⟩;refine bQ (n:=152) tok Tryz.func62 rfl rfl rfl ?_;refine sg rfl (sg rfl (a8 (sk 1 rfl (kc cN ?_))));refine az (aC (sg rfl (aA rfl (fun _=>sk 3 rfl (kc cM ?_)) nofun)));refine kc (iM [66,111,111,108]) ?_;refine kc cS1 ?_;refine ak 3 [(6,.all)] rfl (az (aI mixed (ak 3 [] rfl (kc cM ?_))));refine ak 1 [] rfl (kc cS2 ?_);refine ak 4 [] rfl (kc cM ?_);refine ak 1 [] rfl (kc cS3 ?_);refine kz 4 rfl (AWp.sub (Sub.freeze (id:=76) rfl) ?_);refine AWp.sub (aw 76 ([.mk 1 0 [84,114,117,101] [] J,.mk 1 0 [70,97,108,115,101] [] c3].map c7)) ?_;refine AWp.sub (vp 7 (aB (.mk 9 0 [] (.mk tf tn ts I) [O] [] [.mk 1 0 [84,114,117,101] [] J,.mk 1 0 [70,97,108,115,101] [] c3]))) ?_;exact sg rfl (aE (rtC trw))
 by_cases h2:i=1
 ·subst h2;obtain⟨O,l2,le2,m1,g1,hl2,⟨b1,b1',b1''⟩,cS1⟩:=hS (eE v [] (.mk tf tn ts I)) vQ 1 l1 left N (by omega) (by omega) (.con _ (by decide)) (by omega) hl1 hle (by omega);obtain⟨j,l2b,hj,hl2b,cJ⟩:=kA l2 le2 5 (by decide) hl2;obtain⟨J,l3,le3,m2,g2,hl3,⟨b2,b2',b2''⟩,cS2⟩:=hS (eE v [] (.mk tf tn ts I)) (.mk tf tn ts I) n l2b le2 N (by omega) (by omega) Y (by omega) hl2b (by omega) (by omega);obtain⟨c3,l4,le4,m3,g3,hl4,⟨b3,b3',b3''⟩,cS3⟩:=hS (eE v [] (.mk tf tn ts I)) (.mk tf tn ts I) n l3 le3 N (by omega) (by omega) Y (by omega) hl3 (by omega) (by omega);refine⟨.mk 9 0 [] (.mk tf tn ts I) [O] [] [.mk 2 ((j:Int)-1) [] [] J,.mk 3 0 [] [] c3],l4,le4,m1+m2+m3+40,.case2 Y (by omega) g1 g2 g3 (by decide) (by omega) (by decide) (by simp) (by decide) (by decide) (by decide) (by decide) (by simp) (by decide),hl4,⟨by omega,by omega,by omega⟩,?_⟩;refine bQ (n:=152) tok Tryz.func62 rfl rfl rfl ?_;refine sg rfl (sg rfl (a8 (sk 1 rfl (kc cN ?_))));refine az (aC (sg rfl (aA rfl nofun (fun _=>sg rfl (aA rfl (fun _=>sk 3 rfl (kc cM ?_)) nofun)))));refine kc (iM [73,110,116]) ?_;refine kc cS1 ?_;refine ak 3 [(6,.all)] rfl (az (aI mixed (ak 1 [] rfl (kc cJ ?_))));refine ak 4 [] rfl ?_ (hc:=by repeat (first | exact trivial | refine⟨by first | rfl | omega | (simp;omega) | (unfold Ty.name;simp;omega) | (simp;done),?_⟩));refine kc cM ?_;refine ak 1 [] rfl (kc cS2 ?_);refine ak 4 [] rfl (kc cM ?_);refine ak 1 [] rfl (kc cS3 ?_);refine kz 4 rfl (AWp.sub (Sub.freeze (id:=105) rfl) ?_);refine AWp.sub (aw 105 ([.mk 2 ((j:Int)-1) [] [] J,.mk 3 0 [] [] c3].map c7)) ?_;refine AWp.sub (vp 7 (aB (.mk 9 0 [] (.mk tf tn ts I) [O] [] [.mk 2 ((j:Int)-1) [] [] J,.mk 3 0 [] [] c3]))) ?_;exact sg rfl (aE (rtC trw))
 by_cases h3:i=2
 ·subst h3;obtain⟨⟨Z,un,us,ua⟩,l2,k,gu,hk,hl2,cU⟩:=zY v.vars hv.vars (by omega) 1 2 (by omega) (by omega) l1 left hl1;have hk:k≤5:=hk;have gL:GT (1+k+1) (.mk 4 0 [] [.mk 3 0 [76] [],(.mk Z un us ua)]):=.app (.nm (by decide)) gu;obtain⟨O,l3,le3,m1,g1,hl3,⟨b1,b1',b1''⟩,cS1⟩:=hS (eE v [] (.mk tf tn ts I)) (.mk 4 0 [] [.mk 3 0 [76] [],(.mk Z un us ua)]) _ l2 left N (by omega) (by omega) gL (by omega) hl2 hle (by omega);obtain⟨hvx,cX⟩:=more v [120] (.mk Z un us ua) k hv h0 (by omega) gu (by omega) (.inr (by decide));obtain⟨hvy,cY⟩:=more (eE v [120] (.mk Z un us ua)) [121] (.mk 4 0 [] [.mk 3 0 [76] [],(.mk Z un us ua)]) _ hvx (by show 0≤v.deep+1;omega) (by show v.deep+1≤8;omega) gL (by omega) (.inr (by decide));have hdy:(eE (eE v [120] (.mk Z un us ua)) [121] (.mk 4 0 [] [.mk 3 0 [76] [],(.mk Z un us ua)])).deep=v.deep+1+1:=rfl;obtain⟨J,l4,le4,m2,g2,hl4,⟨b2,b2',b2''⟩,cS2⟩:=hS _ (.mk tf tn ts I) n l3 le3 hvy (by omega) (by omega) Y (by omega) hl3 (by omega) (by omega);obtain⟨c3,l5,le5,m3,g3,hl5,⟨b3,b3',b3''⟩,cS3⟩:=hS (eE v [] (.mk tf tn ts I)) (.mk tf tn ts I) n l4 le4 N (by omega) (by omega) Y (by omega) hl4 (by omega) (by omega);obtain⟨j,l6,hj,hl6,cJ⟩:=kA l5 le5 3 (by decide) hl5;have walk:∀c:Core,c=(if j=0 then .mk 9 0 [] (.mk tf tn ts I) [O] [] [.mk 1 0 [67] [[120],[121]] J] else .mk 9 0 [] (.mk tf tn ts I) [O] [] [.mk 1 0 [67] [[120],[121]] J,.mk 1 0 [78] [] c3])→aU Tryz.prog 62 [.one (.vp 700 0),.pa (zX v),tyV (.mk tf tn ts I)] (mO l left) (.pa (aB c)) (mO l6 le5):=by
   intro c hc;refine bQ (n:=152) tok Tryz.func62 rfl rfl rfl ?_;refine sg rfl (sg rfl (a8 (sk 1 rfl (kc cN ?_))));refine az (aC (sg rfl (aA rfl nofun (fun _=>sg rfl (aA rfl nofun (fun _=>sg rfl (aA rfl (fun _=>sk 3 rfl (kc cU ?_)) nofun)))))));refine kz 2 rfl (a8 (aI mixed (kc (iM [76]) ?_)));refine ak 5 [(2,.all)] rfl (az (sk 3 rfl (kc cM ?_)));refine ak 1 [] rfl (kc cS1 ?_);refine ak 3 [(6,.all)] rfl (az (skh 4 [(0,.all)] rfl (kc cX ?_)));refine ak 1 [] rfl (kc cY ?_);refine ak 1 [] rfl (kc cS2 ?_);refine ak 4 [] rfl (kc cM ?_);refine ak 1 [] rfl (kc cS3 ?_);refine kz 4 rfl (AWp.sub (Sub.freeze (id:=142) rfl) ?_);refine AWp.sub (aw 142 ([.mk 1 0 [67] [[120],[121]] J,.mk 1 0 [78] [] c3].map c7)) ?_;refine AWp.sub (vp 7 (aB (.mk 9 0 [] (.mk tf tn ts I) [O] [] [.mk 1 0 [67] [[120],[121]] J,.mk 1 0 [78] [] c3]))) ?_;refine sk 1 rfl (kc cJ ?_);refine kz 1 rfl (aA rfl (fun hb=>?_) (fun hb=>?_))
   ·have hj0:j=0:=by have:=ψ hb;omega
    rw[ξ hj0] at hc;subst hc;exact ag [] rfl (sg rfl (aE (rtC trw))) (hc:=⟨by rw[aFd];simp[Core.alts],by decide,trivial⟩)
   ·have hj0:¬j=0:=by have:=χ hb;omega
    rw[φ hj0] at hc;subst hc;exact aD (sg rfl (aE (rtC trw)))
  by_cases hj0:j=0
  ·refine⟨.mk 9 0 [] (.mk tf tn ts I) [O] [] [.mk 1 0 [67] [[120],[121]] J],l6,le5,m1+m2+20,.case1 Y (by omega) g1 g2 (by decide) (by decide) (by decide) (by decide) (by decide),hl6,⟨by omega,by omega,by omega⟩,walk _ (by rw[ξ hj0])⟩
  ·refine⟨.mk 9 0 [] (.mk tf tn ts I) [O] [] [.mk 1 0 [67] [[120],[121]] J,.mk 1 0 [78] [] c3],l6,le5,m1+m2+m3+40,.case2 Y (by omega) g1 g2 g3 (by decide) (by decide) (by decide) (by decide) (by decide) (by decide) (by decide) (by decide) (by simp) (by decide),hl6,⟨by omega,by omega,by omega⟩,walk _ (by rw[φ hj0])⟩
 obtain⟨⟨Z,un,us,ua⟩,l2,k,gu,hk,hl2,cU⟩:=zY v.vars hv.vars (by omega) 1 2 (by omega) (by omega) l1 left hl1;have hk:k≤5:=hk;obtain⟨⟨wf,wn,ws,wa⟩,l2b,kw,gw,hkw,hl2b,cW⟩:=zY v.vars hv.vars (by omega) 1 2 (by omega) (by omega) l2 left hl2;have hkw:kw≤5:=hkw;have gL:GT (1+k+1+kw+1) (.mk 4 0 [] [.mk 4 0 [] [.mk 3 0 [80] [],(.mk Z un us ua)],(.mk wf wn ws wa)]):=.app (.app (.nm (by decide)) gu) gw;obtain⟨O,l3,le3,m1,g1,hl3,⟨b1,b1',b1''⟩,cS1⟩:=hS (eE v [] (.mk tf tn ts I)) (.mk 4 0 [] [.mk 4 0 [] [.mk 3 0 [80] [],(.mk Z un us ua)],(.mk wf wn ws wa)]) _ l2b left N (by omega) (by omega) gL (by omega) hl2b hle (by omega);obtain⟨hvx,cX⟩:=more v [121] (.mk Z un us ua) k hv h0 (by omega) gu (by omega) (.inr (by decide));obtain⟨hvy,cY⟩:=more (eE v [121] (.mk Z un us ua)) [97] (.mk wf wn ws wa) kw hvx (by show 0≤v.deep+1;omega) (by show v.deep+1≤8;omega) gw (by omega) (.inr (by decide));have hdy:(eE (eE v [121] (.mk Z un us ua)) [97] (.mk wf wn ws wa)).deep=v.deep+1+1:=rfl;obtain⟨J,l4,le4,m2,g2,hl4,⟨b2,b2',b2''⟩,cS2⟩:=hS _ (.mk tf tn ts I) n l3 le3 hvy (by omega) (by omega) Y (by omega) hl3 (by omega) (by omega);refine⟨.mk 9 0 [] (.mk tf tn ts I) [O] [] [.mk 1 0 [80] [[121],[97]] J],l4,le4,m1+m2+20,.case1 Y (by omega) g1 g2 (by decide) (by decide) (by decide) (by decide) (by decide),hl4,⟨by omega,by omega,by omega⟩,?_⟩;refine bQ (n:=152) tok Tryz.func62 rfl rfl rfl ?_;refine sg rfl (sg rfl (a8 (sk 1 rfl (kc cN ?_))));refine az (aC (sg rfl (aA rfl (fun hb=>absurd (by have:=ψ hb;omega) h1) (fun _=>sg rfl (aA rfl (fun hb=>absurd (by have:=ψ hb;omega) h2) (fun _=>sg rfl (aA rfl (fun hb=>absurd (by have:=ψ hb;omega) h3) (fun _=>sk 3 rfl (kc cU ?_)))))))));refine kz 2 rfl (sk 3 rfl (kc cW ?_));refine kz 2 rfl (a8 (aI mixed (kc (iM [80]) ?_)));refine ak 8 [(2,.all),(5,.all)] rfl (az (sk 3 rfl (kc cM ?_)));refine ak 1 [] rfl (kc cS1 ?_);refine ak 3 [(6,.all)] rfl (az (aI mixed (ak 4 [(0,.all)] rfl (kc cX ?_))));refine ak 1 [] rfl (kc cY ?_);refine ak 1 [] rfl (kc cS2 ?_);refine ak 4 [(10,.all)] rfl (az (AWp.sub (vp 7 (aB (.mk 9 0 [] (.mk tf tn ts I) [O] [] [.mk 1 0 [80] [[121],[97]] J]))) ?_));exact sg rfl (aE (rtC trw))
set_option maxHeartbeats 4000000
theorem aBd (F:Int) (hS:0≤F→tD F):tD (F+1):=by
 intro v t n l left hv hF hd hg hn hl hle hlo;have hM:1000000000≤maxLen:=by decide
 have h0:=hv.d0;have hlen:=hv.len;have hvlen:=hv.vlen;have hp0:0≤pos left:=by unfold pos;omega
 by_cases hlf:left-1<1∨6<v.deep
 ·obtain⟨c,l',m,gc,hm,hl',cL⟩:=aIo n n t (le_refl _) hg (by omega) v l (left-1) hv (by omega) hl;have hp1:pos (left-1)≤pos left∧pos left≤pos (left-1)+1:=by unfold pos;omega
  refine⟨c,l',left-1,m,gc,hl',⟨by omega,by unfold pos at *;omega,by omega⟩,?_⟩;refine bQ (n:=374) tok Tryz.func27 rfl rfl rfl ?_;refine sg rfl (sg rfl ?_ (hc:=by repeat (first | exact trivial | refine⟨by first | rfl | omega | (simp;omega) | (unfold Ty.name;simp;omega) | (simp;done),?_⟩)));refine a8 (a8 (agF 6 [] rfl rfl rfl (aA rfl (fun _=>sk 3 rfl (kc cL ?_)) (fun hb=>absurd hlf (by simpa using hb)))));exact kz 1 rfl (aE (rtC trw))
 have hF0:0≤F:=by omega
 have hps:pos (left-1)=pos left-1:=by unfold pos;omega
 have hp1:0≤pos (left-1):=by unfold pos;omega
 have more:∀(v:Gv) (s:Str) (u:Ty) (k:Nat),Gok v→0≤v.deep→v.deep≤8→GT k u→k≤100→(s=[]∨s∈nm6)→Gok (eE v s u)∧aU Tryz.prog 60 [.pa (zX v),Go.AM.T s,tyV u] [] (.pa (zX (eE v s u))) []:=fun v s u k h h0 h8 hu hk hs=>by
  have:=h.len;exact⟨h.more hs hu hk,aAe v s u (by omega) ⟨h0,by omega⟩⟩
 obtain⟨hv1,cM⟩:=more v [] t n hv h0 (by omega) hg (by omega) (.inl rfl);have hd1:(eE v [] t).deep=v.deep+1:=rfl;obtain⟨i,l1,hi,hl1,cN⟩:=kA l (left-1) 12 (by decide) hl;by_cases hi0:i=0
 ·obtain⟨u,Y,k,gu,hk,N,cU⟩:=zY v.vars hv.vars (by omega) 2 1 (by omega) (by omega) l1 (left-1) hl1;have hk:k≤13:=hk;obtain⟨s,l3,hs,hl3,cNm⟩:=aIn Y (left-1) v N;have hs6:s∈nm6:=τ.2 (.inl hs);obtain⟨hvs,cMs⟩:=more v s u k hv h0 (by omega) gu (by omega) (.inr hs6);have hds:(eE v s u).deep=v.deep+1:=rfl;obtain⟨c1,l4,O,m1,g1,aa,⟨b1,b1',b1''⟩,cS1⟩:=hS (by omega) (eE v s u) t n l3 (left-1) hvs (by omega) (by omega) hg (by omega) hl3 (by omega) (by omega);obtain⟨Z,l5,le2,m2,g2,hl5,⟨b2,b2',b2''⟩,cS2⟩:=hS (by omega) (eE v [] t) u k l4 O hv1 (by omega) (by omega) gu (by omega) aa (by omega) (by omega);have cA:=iC (.mk 5 0 s u [c1] [] []) Z;refine⟨.mk 4 0 [] zTy [.mk 5 0 s u [c1] [] [],Z] [] [],l5,le2,m1+4+m2+1,.app (.lam hs6 gu (by omega) g1) g2,hl5,⟨by omega,by omega,by omega⟩,?_⟩;refine bQ (n:=374) tok Tryz.func27 rfl rfl rfl ?_;refine sg rfl (sg rfl ?_ (hc:=by repeat (first | exact trivial | refine⟨by first | rfl | omega | (simp;omega) | (unfold Ty.name;simp;omega) | (simp;done),?_⟩)));refine a8 (a8 (agF 6 [] rfl rfl rfl (aA rfl (fun hb=>absurd (by simpa using hb) hlf) (fun _=>aD (a8 (sk 1 rfl (kc cN ?_)))))));refine az (aC (sg rfl (aA rfl (fun _=>sk 3 rfl (kc (cU) ?_)) (fun hb=>absurd (χ hb) (by omega)))));refine kz 2 rfl (sk 2 rfl (kc (cNm) ?_));refine kz 1 rfl (sk 6 rfl (kc (cMs) ?_));refine ak 1 [] rfl (kc (cS1) ?_);refine ak 4 [(9,.all)] rfl (az (AWp.sub (vp 9 (aB (.mk 5 0 s u [c1] [] []))) ?_));refine sk 4 rfl (kc (cM) ?_);refine ak 1 [] rfl (kc (cS2) ?_);refine kc (cA) ?_;exact kz 1 rfl (aE (rtC trw))
 by_cases hi1:i=1
 ·obtain⟨u,Y,k,gu,hk,N,cU⟩:=zY v.vars hv.vars (by omega) 2 1 (by omega) (by omega) l1 (left-1) hl1;have hk:k≤13:=hk;obtain⟨s,l3,hs,hl3,cNm⟩:=aIn Y (left-1) v N;have hs6:s∈nm6:=τ.2 (.inl hs);obtain⟨hvs,cMs⟩:=more v s u k hv h0 (by omega) gu (by omega) (.inr hs6);have hds:(eE v s u).deep=v.deep+1:=rfl;obtain⟨c1,l4,O,m1,g1,aa,⟨b1,b1',b1''⟩,cS1⟩:=hS (by omega) (eE v s u) u k l3 (left-1) hvs (by omega) (by omega) gu (by omega) hl3 (by omega) (by omega);obtain⟨Z,l5,le2,m2,g2,hl5,⟨b2,b2',b2''⟩,cS2⟩:=hS (by omega) (eE v s u) t n l4 O hvs (by omega) (by omega) hg (by omega) aa (by omega) (by omega);refine⟨.mk 8 0 [] zTy [Z] [.mk s u c1] [],l5,le2,m2+m1+5,.lt hs6 gu (by omega) g2 g1,hl5,⟨by omega,by omega,by omega⟩,?_⟩;refine bQ (n:=374) tok Tryz.func27 rfl rfl rfl ?_;refine sg rfl (sg rfl ?_ (hc:=by repeat (first | exact trivial | refine⟨by first | rfl | omega | (simp;omega) | (unfold Ty.name;simp;omega) | (simp;done),?_⟩)));refine a8 (a8 (agF 6 [] rfl rfl rfl (aA rfl (fun hb=>absurd (by simpa using hb) hlf) (fun _=>aD (a8 (sk 1 rfl (kc cN ?_)))))));refine az (aC (sg rfl (aA rfl (fun hb=>absurd (by have:=ψ hb;omega) hi0) (fun _=>sg rfl (aA rfl (fun _=>sk 3 rfl (kc (cU) ?_)) (fun hb=>absurd (χ hb) (by omega)))))));refine kz 2 rfl (sk 2 rfl (kc (cNm) ?_));refine kz 1 rfl (sk 3 rfl (kc (cMs) ?_));refine kz 2 rfl (sk 3 rfl (kc (cS1) ?_));refine kz 2 rfl (skh 8 [(4,.all)] rfl (kc (cS2) ?_));exact ak 3 [(9,.all)] rfl (az (aE (rtC trw)))
 by_cases hi2:i=2
 ·obtain⟨c1,Y,O,m1,g1,N,⟨b1,b1',b1''⟩,cC⟩:=aY5 F (hS (by omega)) v t n l1 (left-1) hv (by omega) (by omega) hg (by omega) hl1 (by omega) (by omega);refine⟨c1,Y,O,m1,g1,N,⟨by omega,by omega,by omega⟩,?_⟩;refine bQ (n:=374) tok Tryz.func27 rfl rfl rfl ?_;refine sg rfl (sg rfl ?_ (hc:=by repeat (first | exact trivial | refine⟨by first | rfl | omega | (simp;omega) | (unfold Ty.name;simp;omega) | (simp;done),?_⟩)));refine a8 (a8 (agF 6 [] rfl rfl rfl (aA rfl (fun hb=>absurd (by simpa using hb) hlf) (fun _=>aD (a8 (sk 1 rfl (kc cN ?_)))))));refine az (aC (sg rfl (aA rfl (fun hb=>absurd (by have:=ψ hb;omega) hi0) (fun _=>sg rfl (aA rfl (fun hb=>absurd (by have:=ψ hb;omega) hi1) (fun _=>sg rfl (aA rfl (fun _=>sk 3 rfl (kc (cC) ?_)) (fun hb=>absurd (χ hb) (by omega)))))))));exact kz 1 rfl (aE (rtC trw))
 by_cases hi3:i=3
 ·obtain⟨u,Y,k,gu,hk,N,cU⟩:=zY v.vars hv.vars (by omega) 2 1 (by omega) (by omega) l1 (left-1) hl1;have hk:k≤13:=hk;obtain⟨j,l3,hj,hl3,cJ⟩:=kA Y (left-1) 3 (by decide) N;have hj:j<3:=by omega
  obtain⟨s,hs⟩:∃s,([[97],[98],[99]]:List Str)[j]?=some s:=aJ (by simpa using hj);have hs':=bW b6 hs;have hs1:s.length=1:=by
   have:j=0∨j=1∨j=2:=by omega
   rcases this with rfl | rfl | rfl<;>(simp at hs;subst hs;rfl)
  have hs8:s++[39]∈tvN:=by
   have:j=0∨j=1∨j=2:=by omega
   rcases this with rfl | rfl | rfl<;>(simp at hs;subst hs;decide)
  have gX:GT 1 (.mk 2 0 (s++[39]) []):=.var _ hs8
  have hvi:Gok ⟨v.l,v.vars++[s++[39]],v.deep+1⟩:=⟨hv.all,fun x hx=>by
   rcases τ.1 hx with hx | hx
   ·exact hv.vars x hx
   ·rw[ε.1 hx];exact hs8,by show 0≤v.deep+1;omega,by show(v.l.length:Int)≤v.deep+1;omega,by show((v.vars++[s++[39]]).length:Int)≤v.deep+1+1;rw[κ];simp only[Bl,List.length_nil];omega⟩
  obtain⟨hvp,cP⟩:=more ⟨v.l,v.vars++[s++[39]],v.deep+1⟩ [112] _ 1 hvi (by show 0≤v.deep+1;omega) (by show v.deep+1≤8;omega) gX (by omega) (.inr (by decide));have hdp:(eE ⟨v.l,v.vars++[s++[39]],v.deep+1⟩ [112] (.mk 2 0 (s++[39]) [])).deep=v.deep+1+1:=rfl;obtain⟨c1,l4,O,m1,g1,aa,⟨b1,b1',b1''⟩,cS1⟩:=hS (by omega) _ t n l3 (left-1) hvp (by omega) (by omega) hg (by omega) hl3 (by omega) (by omega);have cH:=kX v.vars (s++[39]) (by unfold Fits;omega);have head:∀(c:Core) (l':List Int) (le':Int),(s++[39]∈v.vars→aU Tryz.prog 58 [.one (.vp 700 0),.pa (zX v),tyV t] (mO l4 O) (.pa (aB c)) (mO l' le'))→
    (¬s++[39]∈v.vars→∃Z:Core,c=.mk 4 0 [] zTy [.mk 6 0 [] u [.mk 7 0 (s++[39]) zTy [.mk 5 0 [112] (.mk 2 0 (s++[39]) []) [c1] [] []] [] []] [] [],Z] [] []∧aU Tryz.prog 27 [.one (.vp 700 0),.pa (zX (eE v [] t)),tyV u] (mO l4 O) (.pa (aB Z)) (mO l' le'))→
    aU Tryz.prog 27 [.one (.vp 700 0),.pa (zX v),tyV t] (mO l left) (.pa (aB c)) (mO l' le'):=by
   intro c l' le' hA hB;refine bQ (n:=374) tok Tryz.func27 rfl rfl rfl ?_;refine sg rfl (sg rfl ?_ (hc:=by repeat (first | exact trivial | refine⟨by first | rfl | omega | (simp;omega) | (unfold Ty.name;simp;omega) | (simp;done),?_⟩)));refine a8 (a8 (agF 6 [] rfl rfl rfl (aA rfl (fun hb=>absurd (by simpa using hb) hlf) (fun _=>aD (a8 (sk 1 rfl (kc cN ?_)))))));refine az (aC (sg rfl (aA rfl (fun hb=>absurd (by have:=ψ hb;omega) hi0) (fun _=>sg rfl (aA rfl (fun hb=>absurd (by have:=ψ hb;omega) hi1) (fun _=>sg rfl (aA rfl (fun hb=>absurd (by have:=ψ hb;omega) hi2) (fun _=>sg rfl (aA rfl (fun _=>sk 3 rfl (kc (cU) ?_)) (fun hb=>absurd (χ hb) (by omega)))))))))));refine kz 2 rfl (sk 2 rfl (kc (cJ) ?_));refine ak 3 [(3,.row j []),(4,.row j (b6 s))] rfl (az (sg rfl ?_ (hc:=by repeat (first | exact trivial | refine⟨by first | rfl | omega | (simp;omega) | (unfold Ty.name;simp;omega) | (simp;done),?_⟩))));refine sgh [(4,.all)] rfl (sg rfl ?_ (hc:=by repeat (first | exact trivial | refine⟨by first | rfl | omega | (simp;omega) | (unfold Ty.name;simp;omega) | (simp;done),?_⟩)));refine sg rfl ?_ (hc:=by repeat (first | exact trivial | refine⟨by first | rfl | omega | (simp;omega) | (unfold Ty.name;simp;omega) | (simp;done),?_⟩));refine AWp.sub (Sub.freeze (id:=132) rfl) ?_;rw[show v.vars.map b6++[[C.str (s++[39])]]=(v.vars++[s++[39]]).map b6 by rw[At];rfl];refine AWp.sub (vp 16 (zX ⟨v.l,v.vars++[s++[39]],v.deep+1⟩) (hp:=.c .refl (.hs rfl (by simp) (Go.AM.take_all (by simp)) (.c .refl .nil)))) ?_;refine AWp.sub (vp 17 (bD (.mk 2 0 (s++[39]) []))) ?_;refine sk 4 rfl (kc (cP) ?_);refine ak 1 [] rfl (kc (cS1) ?_);refine ak 4 [(7,.all)] rfl (az (AWp.sub (vp 18 (aB (.mk 5 0 [112] (.mk 2 0 (s++[39]) []) [c1] [] []))) ?_));refine a8 (sk 4 rfl ?_ (hc:=by repeat (first | exact trivial | refine⟨by first | rfl | omega | (simp;omega) | (unfold Ty.name;simp;omega) | (simp;done),?_⟩)));refine kc cH ?_;refine az (aA rfl (fun hb=>?_) (fun hb=>?_))
   ·have cLf:=hA (ψ hb);refine sk 3 rfl (kc (cLf) ?_);exact kz 1 rfl (aE (rtC trw))
   obtain⟨Z,rfl,cS2⟩:=hB (χ hb);have cA:=iC (.mk 6 0 [] u [.mk 7 0 (s++[39]) zTy [.mk 5 0 [112] (.mk 2 0 (s++[39]) []) [c1] [] []] [] []] [] []) Z;refine aD (sgh [(3,.all)] rfl ?_ (hc:=by repeat (first | exact trivial | refine⟨by first | rfl | omega | (simp;omega) | (unfold Ty.name;simp;omega) | (simp;done),?_⟩)));refine AWp.sub (vp 19 (aB (.mk 7 0 (s++[39]) zTy [.mk 5 0 [112] (.mk 2 0 (s++[39]) []) [c1] [] []] [] []))) ?_;refine skh 7 [(2,.all)] rfl (kc (cM) ?_);refine ak 1 [] rfl (kc (cS2) ?_);refine kc (cA) ?_;exact kz 1 rfl (aE (rtC trw))
  by_cases hH:s++[39]∈v.vars
  ·obtain⟨Z,l5,m2,g2,hm2,hl5,cLf⟩:=aIo n n t (le_refl _) hg (by omega) v l4 O hv (by omega) aa;exact⟨Z,l5,O,m2,g2,hl5,⟨by omega,by omega,by omega⟩,head _ _ _ (fun _=>cLf) (fun h=>absurd hH h)⟩
  ·obtain⟨Z,l5,le2,m2,g2,hl5,⟨b2,b2',b2''⟩,cS2⟩:=hS (by omega) (eE v [] t) u k l4 O hv1 (by omega) (by omega) gu (by omega) aa (by omega) (by omega);exact⟨_,l5,le2,m1+4+20+1+m2+1,.tr gu (by omega) hs8 (by decide) gX (by omega) g1 g2,hl5,⟨by omega,by omega,by omega⟩,head _ _ _ (fun h=>absurd h hH) (fun _=>⟨Z,rfl,cS2⟩)⟩
 by_cases hi4:i=4
 ·obtain⟨u,Y,k,gu,hk,N,cU⟩:=zY v.vars hv.vars (by omega) 1 2 (by omega) (by omega) l1 (left-1) hl1;have hk:k≤5:=hk;have gF:GT (k+n+3) (iZ u t):=gu.fn hg;have cFn:=uX u t;obtain⟨c1,l3,O,m1,g1,hl3,⟨b1,b1',b1''⟩,cS1⟩:=hS (by omega) (eE v [] t) (iZ u t) (k+n+3) Y (left-1) hv1 (by omega) (by omega) gF (by omega) N (by omega) (by omega);obtain⟨Z,l4,le2,m2,g2,aa,⟨b2,b2',b2''⟩,cS2⟩:=hS (by omega) (eE v [] t) u k l3 O hv1 (by omega) (by omega) gu (by omega) hl3 (by omega) (by omega);have cA:=iC c1 Z;refine⟨.mk 4 0 [] zTy [c1,Z] [] [],l4,le2,m1+m2+1,.app g1 g2,aa,⟨by omega,by omega,by omega⟩,?_⟩;refine bQ (n:=374) tok Tryz.func27 rfl rfl rfl ?_;refine sg rfl (sg rfl ?_ (hc:=by repeat (first | exact trivial | refine⟨by first | rfl | omega | (simp;omega) | (unfold Ty.name;simp;omega) | (simp;done),?_⟩)));refine a8 (a8 (agF 6 [] rfl rfl rfl (aA rfl (fun hb=>absurd (by simpa using hb) hlf) (fun _=>aD (a8 (sk 1 rfl (kc cN ?_)))))));refine az (aC (sg rfl (aA rfl (fun hb=>absurd (by have:=ψ hb;omega) hi0) (fun _=>sg rfl (aA rfl (fun hb=>absurd (by have:=ψ hb;omega) hi1) (fun _=>sg rfl (aA rfl (fun hb=>absurd (by have:=ψ hb;omega) hi2) (fun _=>sg rfl (aA rfl (fun hb=>absurd (by have:=ψ hb;omega) hi3) (fun _=>sg rfl (aA rfl (fun _=>sk 3 rfl (kc (cU) ?_)) (fun hb=>absurd (χ hb) (by omega)))))))))))));refine ak 1 [] rfl (kc (cFn) ?_);refine kz 2 rfl (sk 3 rfl (kc (cM) ?_));refine ak 1 [] rfl (kc (cS1) ?_);refine ak 3 [] rfl (kc (cM) ?_);refine ak 7 [(12,.row 0 (bD (aA8 (.mk 3 0 arrow []) u))),(15,.row 1 (bD u))] rfl (kc (cS2) ?_);refine kc (cA) ?_;exact kz 1 rfl (aE (rtC trw))
 obtain⟨J,L,hLg,hLn,cSp⟩:=aPs hg (by omega);by_cases hI:bb J.form J.name [73,110,116]=true
 ·obtain⟨j,Y,hj,N,cJ⟩:=kA l1 (left-1) 4 (by decide) hl1;have hj:j<4:=by omega
  obtain⟨s,hs⟩:∃s,([[97,100,100],[115,117,98],[109,117,108],[100,105,118]]:List Str)[j]?=some s:=aJ (by simpa using hj);have hs':=bW b6 hs;have hsp:s∈u6:=by
   have:j=0∨j=1∨j=2∨j=3:=by omega
   rcases this with rfl | rfl | rfl | rfl<;>(simp at hs;subst hs;decide)
  obtain⟨c1,l3,O,m1,g1,hl3,⟨b1,b1',b1''⟩,cS1⟩:=hS (by omega) (eE v [] t) t n Y (left-1) hv1 (by omega) (by omega) hg (by omega) N (by omega) (by omega);obtain⟨Z,l4,le2,m2,g2,aa,⟨b2,b2',b2''⟩,cS2⟩:=hS (by omega) (eE v [] t) t n l3 O hv1 (by omega) (by omega) hg (by omega) hl3 (by omega) (by omega);refine⟨.mk 10 0 s zTy [c1,Z] [] [],l4,le2,m1+m2+5,.prim hsp g1 g2,aa,⟨by omega,by omega,by omega⟩,?_⟩;refine bQ (n:=374) tok Tryz.func27 rfl rfl rfl ?_;refine sg rfl (sg rfl ?_ (hc:=by repeat (first | exact trivial | refine⟨by first | rfl | omega | (simp;omega) | (unfold Ty.name;simp;omega) | (simp;done),?_⟩)));refine a8 (a8 (agF 6 [] rfl rfl rfl (aA rfl (fun hb=>absurd (by simpa using hb) hlf) (fun _=>aD (a8 (sk 1 rfl (kc cN ?_)))))));refine az (aC (sg rfl (aA rfl (fun hb=>absurd (by have:=ψ hb;omega) hi0) (fun _=>sg rfl (aA rfl (fun hb=>absurd (by have:=ψ hb;omega) hi1) (fun _=>sg rfl (aA rfl (fun hb=>absurd (by have:=ψ hb;omega) hi2) (fun _=>sg rfl (aA rfl (fun hb=>absurd (by have:=ψ hb;omega) hi3) (fun _=>sg rfl (aA rfl (fun hb=>absurd (by have:=ψ hb;omega) hi4) (fun _=>aD (sk 1 rfl (kc (cSp) ?_))))))))))))));refine kz 6 rfl (a8 (aC (a8 (agF 4 [] rfl rfl rfl (aA rfl (fun _=>sk 2 rfl (kc (cJ) ?_)) (fun hb=>by have:=hI.symm.trans hb;cases this))))));refine ak 3 [(3,.row j []),(4,.row j (b6 s))] rfl (az (sk 4 rfl (kc (cM) ?_)));refine ak 1 [] rfl (kc (cS1) ?_);refine ak 3 [] rfl (kc (cM) ?_);refine ak 1 [] rfl (kc (cS2) ?_);exact ak 3 [(13,.all)] rfl (az (aE (rtC trw)))
 by_cases hB:bb J.form J.name [66,111,111,108]=true
 ·obtain⟨j,Y,hj,N,cJ⟩:=kA l1 (left-1) 2 (by decide) hl1;have hj:j<2:=by omega
  obtain⟨s,hs⟩:∃s,([[101,113],[108,116]]:List Str)[j]?=some s:=aJ (by simpa using hj);have hs':=bW b6 hs;have hsp:s∈u6:=by
   have:j=0∨j=1:=by omega
   rcases this with rfl | rfl<;>(simp at hs;subst hs;decide)
  have gI:GT 1 vQ:=.con _ (by decide);obtain⟨c1,l3,O,m1,g1,hl3,⟨b1,b1',b1''⟩,cS1⟩:=hS (by omega) (eE v [] t) vQ 1 Y (left-1) hv1 (by omega) (by omega) gI (by omega) N (by omega) (by omega);obtain⟨Z,l4,le2,m2,g2,aa,⟨b2,b2',b2''⟩,cS2⟩:=hS (by omega) (eE v [] t) vQ 1 l3 O hv1 (by omega) (by omega) gI (by omega) hl3 (by omega) (by omega);refine⟨.mk 10 0 s zTy [c1,Z] [] [],l4,le2,m1+m2+5,.prim hsp g1 g2,aa,⟨by omega,by omega,by omega⟩,?_⟩;refine bQ (n:=374) tok Tryz.func27 rfl rfl rfl ?_;refine sg rfl (sg rfl ?_ (hc:=by repeat (first | exact trivial | refine⟨by first | rfl | omega | (simp;omega) | (unfold Ty.name;simp;omega) | (simp;done),?_⟩)));refine a8 (a8 (agF 6 [] rfl rfl rfl (aA rfl (fun hb=>absurd (by simpa using hb) hlf) (fun _=>aD (a8 (sk 1 rfl (kc cN ?_)))))));refine az (aC (sg rfl (aA rfl (fun hb=>absurd (by have:=ψ hb;omega) hi0) (fun _=>sg rfl (aA rfl (fun hb=>absurd (by have:=ψ hb;omega) hi1) (fun _=>sg rfl (aA rfl (fun hb=>absurd (by have:=ψ hb;omega) hi2) (fun _=>sg rfl (aA rfl (fun hb=>absurd (by have:=ψ hb;omega) hi3) (fun _=>sg rfl (aA rfl (fun hb=>absurd (by have:=ψ hb;omega) hi4) (fun _=>aD (sk 1 rfl (kc (cSp) ?_))))))))))))));refine kz 6 rfl (a8 (aC (a8 (agF 4 [] rfl rfl rfl (aA rfl (fun hb=>absurd hb hI) (fun _=>a8 (agF 4 [] rfl rfl rfl (aA rfl (fun _=>a8 (aI mixed (kc (iM [73,110,116]) ?_))) (fun hb=>by have:=hB.symm.trans hb;cases this)))))))));refine kz 2 rfl (sk 2 rfl (kc (cJ) ?_));refine ak 5 [(3,.row j []),(4,.row j (b6 s))] rfl (kc (cM) ?_);refine ak 1 [] rfl (kc (cS1) ?_);refine ak 3 [] rfl (kc (cM) ?_);refine ak 1 [] rfl (kc (cS2) ?_);exact ak 3 [(17,.all)] rfl (az (aE (rtC trw)))
 have hl2e:∃Y,Ok Y∧(((bb J.form J.name [76]=true∧L.length=1)∧∃j:Nat,j=0∧aU Tryz.prog 25 [.one (.vp 700 0),I .i64 3] (mO l1 (left-1)) (I .i64 j) (mO Y (left-1)))∨(¬(bb J.form J.name [76]=true∧L.length=1)∧Y=l1))∨((bb J.form J.name [76]=true∧L.length=1)∧Ok Y∧∃j:Nat,0<j∧aU Tryz.prog 25 [.one (.vp 700 0),I .i64 3] (mO l1 (left-1)) (I .i64 j) (mO Y (left-1))):=by
  by_cases hX:bb J.form J.name [76]=true∧L.length=1
  ·obtain⟨j,Y,_,N,cJ⟩:=kA l1 (left-1) 3 (by decide) hl1;by_cases hj:j=0
   ·exact⟨Y,.inl ⟨N,.inl ⟨hX,j,hj,cJ⟩⟩⟩
   ·exact⟨Y,.inr ⟨hX,N,j,by omega,cJ⟩⟩
  ·exact⟨l1,.inl ⟨hl1,.inr ⟨hX,rfl⟩⟩⟩
 obtain⟨Y,⟨N,hl12⟩ | ⟨hX,N,j,hj,cJ⟩⟩:=hl2e
 rotate_left
 ·obtain⟨x,rfl⟩:∃x,L=[x]:=Bm.1 hX.2;obtain⟨e3,e4⟩:=rM hX.1;have d3:decide (J.form=3)=true:=Ad e3;have d4:decide (J.name=[76])=true:=Ad e4;obtain⟨kx,_,gx,_,hkx⟩:=hLg;have cG:=qH [67] [x] (by simp);obtain⟨c1,l3,O,m1,g1,hl3,⟨b1,b1',b1''⟩,cS1⟩:=hS (by omega) (eE v [] t) x kx Y (left-1) hv1 (by omega) (by omega) gx (by omega) N (by omega) (by omega);obtain⟨Z,l4,le2,m2,g2,aa,⟨b2,b2',b2''⟩,cS2⟩:=hS (by omega) (eE v [] t) t n l3 O hv1 (by omega) (by omega) hg (by omega) hl3 (by omega) (by omega);have cA1:=iC (j0 [67] [x]) c1;have cA2:=iC (.mk 4 0 [] zTy [j0 [67] [x],c1] [] []) Z;refine⟨.mk 4 0 [] zTy [.mk 4 0 [] zTy [j0 [67] [x],c1] [] [],Z] [] [],l4,le2,9+1+m1+1+m2+1,.app (.app (.tc (by decide) gx (by omega)) g1) g2,aa,⟨by omega,by omega,by omega⟩,?_⟩;refine bQ (n:=374) tok Tryz.func27 rfl rfl rfl ?_;refine sg rfl (sg rfl ?_ (hc:=by repeat (first | exact trivial | refine⟨by first | rfl | omega | (simp;omega) | (unfold Ty.name;simp;omega) | (simp;done),?_⟩)));refine a8 (a8 (agF 6 [] rfl rfl rfl (aA rfl (fun hb=>absurd (by simpa using hb) hlf) (fun _=>aD (a8 (sk 1 rfl (kc cN ?_)))))));refine az (aC (sg rfl (aA rfl (fun hb=>absurd (by have:=ψ hb;omega) hi0) (fun _=>sg rfl (aA rfl (fun hb=>absurd (by have:=ψ hb;omega) hi1) (fun _=>sg rfl (aA rfl (fun hb=>absurd (by have:=ψ hb;omega) hi2) (fun _=>sg rfl (aA rfl (fun hb=>absurd (by have:=ψ hb;omega) hi3) (fun _=>sg rfl (aA rfl (fun hb=>absurd (by have:=ψ hb;omega) hi4) (fun _=>aD (sk 1 rfl (kc (cSp) ?_))))))))))))));refine kz 6 rfl (a8 (aC (a8 (agF 4 [] rfl rfl rfl (aA rfl (fun hb=>absurd hb hI) (fun _=>a8 (agF 4 [] rfl rfl rfl (aA rfl (fun hb=>absurd hb hB) (fun _=>skh 15 [(3,.bv true),(7,.bv true),(8,.bv true),(12,.bv true)] rfl (kcG cJ ?_))))))))));refine ak 3 [(17,.bv true)] rfl (az (aA rfl (fun _=>sk 1 rfl (kc (cG) ?_)) (fun hb=>absurd (χ hb) (by omega))));refine ak 3 [] rfl (kc (cM) ?_);refine ak 3 [(7,.row 0 []),(8,.row 0 (bD x))] rfl (kc (cS1) ?_);refine kc (cA1) ?_;refine ak 3 [] rfl (kc (cM) ?_);refine ak 1 [] rfl (kc (cS2) ?_);refine kc (cA2) ?_;exact kz 1 rfl (aE (rtC trw))
 by_cases hP:bb J.form J.name [80]=true∧L.length=2
 ·obtain⟨x,y,rfl⟩:∃x y,L=[x,y]:=by
   match L,hP.2 with
   | [x,y],_=>exact⟨x,y,rfl⟩
  obtain⟨e3,e4⟩:=rM hP.1;have d3:decide (J.form=3)=true:=Ad e3;have d4:decide (J.name=[76])=false:=by rw[e4];rfl
  obtain⟨kx,mx,gx,⟨ky,_,gy,_,hky⟩,hkx⟩:=hLg;have cG:=qH [80] [x,y] (by simp);obtain⟨c1,l3,O,m1,g1,hl3,⟨b1,b1',b1''⟩,cS1⟩:=hS (by omega) (eE v [] t) x kx l1 (left-1) hv1 (by omega) (by omega) gx (by omega) hl1 (by omega) (by omega);obtain⟨Z,l4,le2,m2,g2,aa,⟨b2,b2',b2''⟩,cS2⟩:=hS (by omega) (eE v [] t) y ky l3 O hv1 (by omega) (by omega) gy (by omega) hl3 (by omega) (by omega);have cA1:=iC (j0 [80] [x,y]) c1;have cA2:=iC (.mk 4 0 [] zTy [j0 [80] [x,y],c1] [] []) Z;refine⟨.mk 4 0 [] zTy [.mk 4 0 [] zTy [j0 [80] [x,y],c1] [] [],Z] [] [],l4,le2,9+1+1+m1+1+m2+1,.app (.app (.tc2 (by decide) gx (by omega) gy (by omega)) g1) g2,aa,⟨by omega,by omega,by omega⟩,?_⟩;refine bQ (n:=374) tok Tryz.func27 rfl rfl rfl ?_;refine sg rfl (sg rfl ?_ (hc:=by repeat (first | exact trivial | refine⟨by first | rfl | omega | (simp;omega) | (unfold Ty.name;simp;omega) | (simp;done),?_⟩)));refine a8 (a8 (agF 6 [] rfl rfl rfl (aA rfl (fun hb=>absurd (by simpa using hb) hlf) (fun _=>aD (a8 (sk 1 rfl (kc cN ?_)))))));refine az (aC (sg rfl (aA rfl (fun hb=>absurd (by have:=ψ hb;omega) hi0) (fun _=>sg rfl (aA rfl (fun hb=>absurd (by have:=ψ hb;omega) hi1) (fun _=>sg rfl (aA rfl (fun hb=>absurd (by have:=ψ hb;omega) hi2) (fun _=>sg rfl (aA rfl (fun hb=>absurd (by have:=ψ hb;omega) hi3) (fun _=>sg rfl (aA rfl (fun hb=>absurd (by have:=ψ hb;omega) hi4) (fun _=>aD (sk 1 rfl (kc (cSp) ?_))))))))))))));refine kz 6 rfl (a8 (aC (a8 (agF 4 [] rfl rfl rfl (aA rfl (fun hb=>absurd hb hI) (fun _=>a8 (agF 4 [] rfl rfl rfl (aA rfl (fun hb=>absurd hb hB) (fun _=>sgh [(3,.bv true),(7,.bv true),(8,.bv false),(12,.bv false)] rfl (aA rfl nofun (fun _=>a8 (agF 4 [] rfl rfl rfl (aA rfl (fun _=>?_) (fun hb=>?_))))))))))))))
  ·refine sk 1 rfl (kc (cG) ?_);refine ak 3 [] rfl (kc (cM) ?_);refine ak 3 [(7,.row 0 []),(8,.row 0 (bD x))] rfl (kc (cS1) ?_);refine kc (cA1) ?_;refine ak 3 [] rfl (kc (cM) ?_);refine ak 3 [(16,.row 1 []),(17,.row 1 (bD y))] rfl (kc (cS2) ?_);refine kc (cA2) ?_;exact kz 1 rfl (aE (rtC trw))
  ·exfalso;simp[e3,e4] at hb
 rcases xI hg with⟨m1,m2,a,b,ga,gb,hnm,hte,cF⟩ | cF
 ·obtain⟨s,l3,hs,hl3,cNm⟩:=aIn Y (left-1) v N;have hs6:s∈nm6:=τ.2 (.inl hs);obtain⟨hvs,cMs⟩:=more v s a m1 hv h0 (by omega) ga (by omega) (.inr hs6);have hds:(eE v s a).deep=v.deep+1:=rfl;obtain⟨c3,l4,le3,m3,g3,aa,⟨b3,b3',b3''⟩,cS3⟩:=hS (by omega) (eE v s a) b m2 l3 (left-1) hvs (by omega) (by omega) gb (by omega) hl3 (by omega) (by omega);refine⟨.mk 5 0 s a [c3] [] [],l4,le3,m3+4,.lam hs6 ga (by omega) g3,aa,⟨by omega,by omega,by omega⟩,?_⟩;refine bQ (n:=374) tok Tryz.func27 rfl rfl rfl ?_;refine sg rfl (sg rfl ?_ (hc:=by repeat (first | exact trivial | refine⟨by first | rfl | omega | (simp;omega) | (unfold Ty.name;simp;omega) | (simp;done),?_⟩)));refine a8 (a8 (agF 6 [] rfl rfl rfl (aA rfl (fun hb=>absurd (by simpa using hb) hlf) (fun _=>aD (a8 (sk 1 rfl (kc cN ?_)))))));refine az (aC (sg rfl (aA rfl (fun hb=>absurd (by have:=ψ hb;omega) hi0) (fun _=>sg rfl (aA rfl (fun hb=>absurd (by have:=ψ hb;omega) hi1) (fun _=>sg rfl (aA rfl (fun hb=>absurd (by have:=ψ hb;omega) hi2) (fun _=>sg rfl (aA rfl (fun hb=>absurd (by have:=ψ hb;omega) hi3) (fun _=>sg rfl (aA rfl (fun hb=>absurd (by have:=ψ hb;omega) hi4) (fun _=>aD (sk 1 rfl (kc (cSp) ?_))))))))))))));refine kz 6 rfl (a8 (aC (a8 (agF 4 [] rfl rfl rfl (aA rfl (fun hb=>absurd hb hI) (fun _=>a8 (agF 4 [] rfl rfl rfl (aA rfl (fun hb=>absurd hb hB) (fun _=>a8 (AWp.cut (mk [(0,.one (.vp 700 0)),(4,.one (.vp 4 0)),(5,.one (.vp 5 0)),(6,.one (.vp 6 0)),(21,.one (.vp 21 0)),(22,.one (.hs 510 0 L.length L.length)),(268,B false)] ([(4,.var 78 (vRt v)),(5,.var 33 (tR t)),(6,.var 37 [.c (.int .i64 0),.c (.int .i64 0),.c (.str []),.c (.int .i64 0),.c (.int .i64 0),.c (.str []),.c .nl,.c .nl,.c .nl,.c .nl]),(21,.var 33 (tR J)),(510,.arr 33 4 (L.map bD) 2)]++mO Y (left-1))) ?_ ?_))))))))))
  ·rcases hl12 with⟨hX,j,hj0,cJ⟩ | ⟨hX,rfl⟩
   ·obtain⟨e3,e4⟩:=rM hX.1;have d3:decide (J.form=3)=true:=Ad e3;have d4:decide (J.name=[76])=true:=Ad e4;have d5:decide ((L.length:Int)=1)=true:=Ad (by rw[hX.2];rfl);subst hj0;refine aI mixed (ak 15 [(3,.bv true),(7,.bv true),(8,.bv true),(12,.bv true),(13,.bv true)] rfl (kcG cJ ?_ (hw:=d5)));exact ak 3 [(13,.bv true),(17,.bv true)] rfl (az sl)
   ·by_cases e3:J.form=3
    ·have d3:decide (J.form=3)=true:=Ad e3;by_cases e4:J.name=[76]
     ·have d4:decide (J.name=[76])=true:=Ad e4;have e5:¬L.length=1:=fun h=>hX ⟨by unfold bb;rw[d3,d4];rfl,h⟩
      have d5:decide ((L.length:Int)=1)=false:=Ae (by omega);exact ag [(3,.bv true),(7,.bv true),(8,.bv true),(12,.bv true),(13,.bv false),(17,.bv false)] rfl sl
     ·have d4:decide (J.name=[76])=false:=Ae e4;exact ag [(3,.bv true),(7,.bv true),(8,.bv false),(12,.bv false)] rfl sl
    ·have d3:decide (J.form=3)=false:=Ae e3;exact ag [(3,.bv false),(7,.bv false)] rfl sl
  refine aA rfl nofun (fun _=>a8 (agF 4 [] rfl rfl rfl (aA rfl (fun hb=>absurd (aI6 hb) hP) (fun _=>aD (a8 (sk 1 rfl (kc cF ?_)))))));refine az (aA rfl (fun _=>?_) nofun);subst hte;refine sk 2 rfl (kc (cNm) ?_);refine kz 1 rfl (skh 18 [(3,.row 0 (bD (aA8 (.mk 3 0 arrow []) a))),(6,.row 1 (bD a)),(13,.row 0 (bD (aA8 (.mk 3 0 arrow []) a))),(16,.row 1 (bD a))] rfl (kc (cMs) ?_));refine ak 4 [(21,.row 1 (bD b))] rfl (kc (cS3) ?_);exact ak 3 [(24,.all)] rfl (az (aE (rtC trw)))
 ·obtain⟨Z,l5,m2,g2,hm2,hl5,cLf⟩:=aIo n n t (le_refl _) hg (by omega) v Y (left-1) hv (by omega) N;refine⟨Z,l5,left-1,m2,g2,hl5,⟨by omega,by omega,by omega⟩,?_⟩;refine bQ (n:=374) tok Tryz.func27 rfl rfl rfl ?_;refine sg rfl (sg rfl ?_ (hc:=by repeat (first | exact trivial | refine⟨by first | rfl | omega | (simp;omega) | (unfold Ty.name;simp;omega) | (simp;done),?_⟩)));refine a8 (a8 (agF 6 [] rfl rfl rfl (aA rfl (fun hb=>absurd (by simpa using hb) hlf) (fun _=>aD (a8 (sk 1 rfl (kc cN ?_)))))));refine az (aC (sg rfl (aA rfl (fun hb=>absurd (by have:=ψ hb;omega) hi0) (fun _=>sg rfl (aA rfl (fun hb=>absurd (by have:=ψ hb;omega) hi1) (fun _=>sg rfl (aA rfl (fun hb=>absurd (by have:=ψ hb;omega) hi2) (fun _=>sg rfl (aA rfl (fun hb=>absurd (by have:=ψ hb;omega) hi3) (fun _=>sg rfl (aA rfl (fun hb=>absurd (by have:=ψ hb;omega) hi4) (fun _=>aD (sk 1 rfl (kc (cSp) ?_))))))))))))));refine kz 6 rfl (a8 (aC (a8 (agF 4 [] rfl rfl rfl (aA rfl (fun hb=>absurd hb hI) (fun _=>a8 (agF 4 [] rfl rfl rfl (aA rfl (fun hb=>absurd hb hB) (fun _=>a8 (AWp.cut (mk [(0,.one (.vp 700 0)),(4,.one (.vp 4 0)),(5,.one (.vp 5 0)),(6,.one (.vp 6 0)),(21,.one (.vp 21 0)),(22,.one (.hs 510 0 L.length L.length)),(268,B false)] ([(4,.var 78 (vRt v)),(5,.var 33 (tR t)),(6,.var 37 [.c (.int .i64 0),.c (.int .i64 0),.c (.str []),.c (.int .i64 0),.c (.int .i64 0),.c (.str []),.c .nl,.c .nl,.c .nl,.c .nl]),(21,.var 33 (tR J)),(510,.arr 33 4 (L.map bD) 2)]++mO Y (left-1))) ?_ ?_))))))))))
  ·rcases hl12 with⟨hX,j,hj0,cJ⟩ | ⟨hX,rfl⟩
   ·obtain⟨e3,e4⟩:=rM hX.1;have d3:decide (J.form=3)=true:=Ad e3;have d4:decide (J.name=[76])=true:=Ad e4;have d5:decide ((L.length:Int)=1)=true:=Ad (by rw[hX.2];rfl);subst hj0;refine aI mixed (ak 15 [(3,.bv true),(7,.bv true),(8,.bv true),(12,.bv true),(13,.bv true)] rfl (kcG cJ ?_ (hw:=d5)));exact ak 3 [(13,.bv true),(17,.bv true)] rfl (az sl)
   ·by_cases e3:J.form=3
    ·have d3:decide (J.form=3)=true:=Ad e3;by_cases e4:J.name=[76]
     ·have d4:decide (J.name=[76])=true:=Ad e4;have e5:¬L.length=1:=fun h=>hX ⟨by unfold bb;rw[d3,d4];rfl,h⟩
      have d5:decide ((L.length:Int)=1)=false:=Ae (by omega);exact ag [(3,.bv true),(7,.bv true),(8,.bv true),(12,.bv true),(13,.bv false),(17,.bv false)] rfl sl
     ·have d4:decide (J.name=[76])=false:=Ae e4;exact ag [(3,.bv true),(7,.bv true),(8,.bv false),(12,.bv false)] rfl sl
    ·have d3:decide (J.form=3)=false:=Ae e3;exact ag [(3,.bv false),(7,.bv false)] rfl sl
  refine aA rfl nofun (fun _=>a8 (agF 4 [] rfl rfl rfl (aA rfl (fun hb=>absurd (aI6 hb) hP) (fun _=>aD (a8 (sk 1 rfl (kc cF ?_)))))));refine az (aA rfl nofun (fun _=>aD (sk 3 rfl (kc (cLf) ?_))));exact kz 1 rfl (aE (rtC trw))
theorem aPt:∀F:Nat,tD F
 | 0=>by
  have:=aBd (-1) (fun h=>by omega);intro v t n l left hv J hd I hn hl hle u;exact this v t n l left hv (by omega) hd I hn hl hle u
 | F+1=>aBd F fun _=>aPt F
theorem rK (s:Str) (t:Ty):aU Tryz.prog 28 [Go.AM.T s,tyV t] [] (tyV (.mk 5 0 s [t])) []:=by
 refine bQ (n:=9) tok Tryz.func28 rfl rfl rfl ?_;exact sg rfl (sgh [(2,.all)] rfl (aE (rtC trw)))
theorem aY2 (l:List Int) (hl:aDx l) (hf:Fits l):∃(c:Core) (t:Ty) (m:Nat),GC m c∧m≤110000∧((∃n,GT n t∧n≤29)∨∃n u,GT n u∧n≤33∧t=.mk 5 0 [97] [u])∧
  aU Tryz.prog 8 [.one (.c (.sl 1 (l.map aKm)))] [] (.tup [.pa (aB c),tyV t]) []:=by
 have N:aDx (l.take 60):=fun x hx=>hl x (Bb hx)
 have O:Fits (l.take 60):=by
  unfold Fits at *;rw[Ar];omega
 have Y:=aW1 l 60 hf (by omega);obtain⟨t,l1,n,gt,hn,Z,cT⟩:=zY [] (fun x hx=>by cases hx) (by simp) 3 0 (by omega) (by omega) (l.take 60) 26 ⟨N,O⟩;have hn:n≤29:=hn;obtain⟨i,l2,hi,I,cN⟩:=kA l1 26 3 (by decide) Z;have hp:pos 26=25:=rfl;by_cases h0:i=0
 ·subst h0;have gA:GT 1 (.mk 2 0 [97] []):=.var _ (by decide);have gF:=gA.fn gt;have cF:=uX (.mk 2 0 [97] []) t;obtain⟨c,l3,le,m,gc,hl3,⟨b1,b2,b3⟩,J⟩:=aPt 7 ⟨[],[[97]],0⟩ (iZ (.mk 2 0 [97] []) t) _ l2 26 ⟨fun x hx=>(by cases hx),fun x hx=>by rw[ε.1 hx];decide,Int.le_refl _,by decide,by decide⟩ (by decide) (by decide) gF (by show _≤33+8*(0:Int);omega) I (by decide) (by rw[hp];decide);have hp2:0≤pos le:=by unfold pos;omega
  have cA:=rK [97] (iZ (.mk 2 0 [97] []) t);refine⟨.mk 7 0 [97] zTy [c] [] [],_,m+20,.tlam (by decide) gc,by omega,.inr ⟨_,_,gF,by omega,rfl⟩,?_⟩;refine bQ (n:=35) tok Tryz.func8 rfl rfl rfl ?_;refine sg rfl (sk 1 rfl (kc Y ?_));refine ak 3 [(3,.id 700)] rfl (az (sk 1 rfl (kc cT ?_)));refine kz 2 rfl (a8 (sk 1 rfl (kc cN ?_)));refine kz 1 rfl (aA rfl (fun _=>sk 2 rfl (kc cF ?_)) nofun);refine kz 2 rfl (skh 4 [(1,.all)] rfl (kc J ?_));refine kz 2 rfl (skh 4 [(1,.all)] rfl (kc cA ?_));exact kz 2 rfl (aE ⟨.inr rfl,⟨_,_,.cell rfl (tg rfl) rfl rfl rfl (.cell rfl (tg rfl) rfl rfl rfl .nil),.cons (.pa (.c .refl (.c .refl (.c .refl (.c .refl (.c .refl (.c .refl (.c .nl (.c .refl (.c .nl (.c .nl .nil))))))))))) (.cons .refl .nil),rfl⟩,trivial,rfl⟩)
 ·obtain⟨c,l3,le,m,gc,hl3,⟨b1,b2,b3⟩,J⟩:=aPt 7 ⟨[],[],0⟩ t n l2 26 ⟨fun x hx=>(by cases hx),fun x hx=>(by cases hx),Int.le_refl _,by decide,by decide⟩ (by decide) (by decide) gt (by show _≤33+8*(0:Int);omega) I (by decide) (by rw[hp];decide);have hp2:0≤pos le:=by unfold pos;omega
  refine⟨c,t,m,gc,by omega,.inl ⟨n,gt,hn⟩,?_⟩;refine bQ (n:=35) tok Tryz.func8 rfl rfl rfl ?_;refine sg rfl (sk 1 rfl (kc Y ?_));refine ak 3 [(3,.id 700)] rfl (az (sk 1 rfl (kc cT ?_)));refine kz 2 rfl (a8 (sk 1 rfl (kc cN ?_)));refine kz 1 rfl (aA rfl (fun hb=>absurd (by have:=ψ hb;omega) h0) (fun _=>aD (sk 3 rfl (kc J ?_))));exact kz 3 rfl (aE ⟨.inr rfl,⟨_,_,.cell rfl (tg rfl) rfl rfl rfl (.cell rfl (tg rfl) rfl rfl rfl .nil),.cons .refl (.cons .refl .nil),rfl⟩,trivial,rfl⟩)
mutual
theorem aVd:∀t:Ty,t30 t≤31*tn t
 | .mk f n s a=>by
  rw[tn,t30];have:=aMg a;omega
theorem aMg:∀l:List Ty,a4m l≤31*tns l
 | []=>le_refl _
 | t::l=>by
  rw[tns,a4m];have:=aVd t;have:=aMg l;omega
end
theorem aVg:∀vs:List Str,(vs.map fun v=>1+w30 v).sum≤31*(vs.map fun v=>1+v.length).sum
 | []=>le_refl _
 | v::vs=>by
  simp only[Am,Bt];have:=aVg vs;unfold w30;unfold w30 at this;omega
mutual
theorem pP:∀c:Core,m30 c≤31*aY c
 | .mk _ _ s _ ks bs al=>by
  rw[aY,m30,w30];have:=x6 ks;have:=x7 bs;have:=x8 al;omega
theorem x6:∀l:List Core,dA l≤31*bM l
 | []=>by rw[bM,dA];exact le_refl _
 | c::l=>by
  rw[bM,dA];have:=pP c;have:=x6 l;omega
theorem x7:∀l:List Bind,fT l≤31*cB l
 | []=>by rw[cB,fT];exact le_refl _
 | .mk s _ c::l=>by
  rw[cB,bsize,fT,w30];have:=pP c;have:=x7 l;omega
theorem x8:∀l:List Alt,gY l≤31*bZ l
 | []=>by rw[bZ,gY];exact le_refl _
 | .mk _ _ s vs c::l=>by
  rw[bZ,lL,gY,w30];have:=pP c;have:=x8 l;have:=aVg vs;omega
end
def MkW (g:List Int→Int→Mk):Prop:=∀l left,wfC (g l left).1=true∧allT (TOk 2790) (g l left).1
theorem a0y:TOk 2790 zTy:=⟨by decide,by decide⟩
theorem aGg (l:List Int):TOk 2790 (cR 2 l).1:=by
 obtain⟨h1,h2⟩:=aD1 2 l;have h3:=aVd (cR 2 l).1;have h4:tsm 2=42:=rfl;exact⟨h1,by omega⟩
theorem aFv:∀a b,rT (a++b)=(rT a&&rT b)
 | [],b=>by rw[A0,rT,Bool.true_and]
 | .mk s t c::a,b=>by rw[A3,rT,rT,aFv a b,Bool.and_assoc]
theorem aFx:∀a b,rU (a++b)=(rU a&&rU b)
 | [],b=>by rw[A0,rU,Bool.true_and]
 | .mk f n s v c::a,b=>by rw[A3,rU,rU,aFx a b,Bool.and_assoc]
theorem aC6 {g:List Int→Int→Mk}(h:MkW g) (ns:List Str) (l:List Int) (left:Int):∀i:Nat,rT (bT g ns l left i).1=true∧aAo (TOk 2790) (bT g ns l left i).1
 | 0=>⟨by simp[bT,rT],trivial⟩
 | i+1=>by
  obtain⟨h1,h2⟩:=aC6 h ns l left i;simp only[bT];generalize bT g ns l left i=r at h1 h2 ⊢;obtain⟨h3,h4⟩:=h (cR 2 r.2.1).2 r.2.2;refine⟨by rw[aFv,h1,rT,rT,h3];rfl,nK.2 fun x hx=>?_⟩;rcases τ.1 hx with hx | hx
  ·exact nK.1 h2 x hx
  ·rw[ε.1 hx];exact⟨aGg _,h4⟩
theorem aJc {g:List Int→Int→Mk}(h:MkW g) (n:Int) (l:List Int) (left:Int):∀i:Nat,rU (cQ g n l left i).1=true∧aAp (TOk 2790) (cQ g n l left i).1
 | 0=>⟨by simp[cQ,rU],trivial⟩
 | i+1=>by
  obtain⟨h1,h2⟩:=aJc h n l left i;simp only[cQ];generalize cQ g n l left i=r at h1 h2 ⊢;obtain⟨h3,h4⟩:=h (bG r.2.1).2 r.2.2;have hx:∃f u s v,(if i=1 then Alt.mk 2 (n/14) [] [] (g (bG r.2.1).2 r.2.2).1 else if i=2 then .mk 3 0 [] [] (g (bG r.2.1).2 r.2.2).1 else .mk 1 0 (oneOf aQb (n/14+i)) (bG r.2.1).1 (g (bG r.2.1).2 r.2.2).1)=.mk f u s v (g (bG r.2.1).2 r.2.2).1:=by
   split
   ·exact⟨_,_,_,_,rfl⟩
   ·split
    ·exact⟨_,_,_,_,rfl⟩
    ·exact⟨_,_,_,_,rfl⟩
  obtain⟨f,u,s,v,e⟩:=hx;rw[e];refine⟨by rw[aFx,h1,rU,rU,h3];rfl,nL.2 fun x hx=>?_⟩;rcases τ.1 hx with hx | hx
  ·exact nL.1 h2 x hx
  ·rw[ε.1 hx];exact h4
theorem aP5 {g:List Int→Int→Mk}(h:MkW g) (n k:Int) (l:List Int) (left:Int):wfC (eL g n k l left).1=true∧allT (TOk 2790) (eL g n k l left).1:=by
 obtain⟨h1,t1⟩:=h l left;obtain⟨h2,t2⟩:=h (g l left).2.1 (g l left).2.2;obtain⟨h3,t3⟩:=h (cR 2 l).2 left;have ht:=aGg l;have u:=a0y;unfold eL;split
 ·exact⟨by simp[wfC,aAz,rT,rU],u,trivial,trivial,trivial⟩
 split
 ·exact⟨by simp[wfC,aAz,rT,rU],u,trivial,trivial,trivial⟩
 split
 ·exact⟨by simp[wfC,aAz,rT,rU],u,trivial,trivial,trivial⟩
 split
 ·exact⟨by simp[wfC,aAz,rT,rU,h1,h2],u,⟨t1,t2,trivial⟩,trivial,trivial⟩
 split
 ·exact⟨by simp[wfC,aAz,rT,rU,h3],ht,⟨t3,trivial⟩,trivial,trivial⟩
 split
 ·exact⟨by simp[wfC,aAz,rT,rU,h3],ht,⟨t3,trivial⟩,trivial,trivial⟩
 split
 ·exact⟨by simp[wfC,aAz,rT,rU,h1],u,⟨t1,trivial⟩,trivial,trivial⟩
 split
 ·obtain⟨I,J⟩:=aC6 h (bG l).1 (bG l).2 left (bG l).1.length;generalize bT g (bG l).1 (bG l).2 left (bG l).1.length=r at I J ⊢;obtain⟨h4,t4⟩:=h r.2.1 r.2.2;exact⟨by simp[wfC,aAz,rU,I,h4],u,⟨t4,trivial⟩,J,trivial⟩
 split
 ·obtain⟨I,J⟩:=aJc h n (g (cR 2 l).2 left).2.1 (g (cR 2 l).2 left).2.2 (n/14%4).toNat;dsimp only;generalize cQ g n (g (cR 2 l).2 left).2.1 (g (cR 2 l).2 left).2.2 (n/14%4).toNat=r at I J ⊢;exact⟨by simp[wfC,aAz,rT,I,h3],ht,⟨t3,trivial⟩,trivial,J⟩
 split
 ·exact⟨by simp[wfC,aAz,rT,rU,h1,h2],u,⟨t1,t2,trivial⟩,trivial,trivial⟩
 ·exact⟨by simp[wfC,aAz,rT,rU],ht,trivial,trivial,trivial⟩
theorem aP1:∀f:Nat,MkW (oZ f)
 | 0=>fun l left=>aP5 (g:=fun l left=>((.mk 0 0 [] zTy [] [] [],l,left):Mk)) (fun _ _=>⟨by simp[wfC,aAz,rT,rU],a0y,trivial,trivial,trivial⟩) _ _ _ _
 | f+1=>fun l left=>aP5 (aP1 f) _ _ _ _
theorem a2d (l:List Int):wfC (kF l)=true∧allT (TOk 2790) (kF l)∧m30 (kF l)≤93000:=by
 obtain⟨h1,h2⟩:=aP1 6 (l.take 60) 30;have h3:=pP (kF l);have h4:=(aHz l).2
 exact⟨h1,h2,by omega⟩
theorem aLb:∀{k:Nat}{t:Ty},GT k t→TM tvN 3 t:=by
 intro k t h
 induction h with
 | var s hs=>exact .var hs
 | con s hs=>exact .con
 | app ha hb u I=>exact .app u I
theorem wX:∀s∈nm6,nh s:=by unfold nh;decide
theorem wY:∀s∈nm6,s.length≤30:=by decide
theorem a4x:∀s∈tvN,¬s=[]:=by decide
theorem lwA {s:Str}{vs:List Str}(h3:s.length≤8) (h4:∀x∈vs,x∈nm6) (h5:vs.length≤2):1+w30 s+(vs.map fun v=>1+w30 v).sum≤93:=by
 have u:=aK4 (show s.length≤30 by omega);have I:=mE (g:=fun v:Str=>1+w30 v) (K:=31) (l:=vs) fun v hv=>by
  have:=aK4 (wY _ (h4 v hv));omega
 omega
def gQ (m:Nat) (c:Core):Prop:=MW tvN c∧m30 c≤31*m∧20*tlC c≤m
theorem wB {α:Type}{P:α→Prop}{x y:α}(hx:P x) (I:P y):∀z∈[x,y],P z:=fun z u=>by
 rcases Ap.1 u with rfl | u
 ·exact hx
 ·rw[ε.1 u];exact I
theorem kQ {α:Type}{P:α→Prop}{x:α}(hx:P x):∀z∈[x],P z:=fun z u=>by rw[ε.1 u];exact hx
section
variable {m n k:Nat}{s:Str}{t:Ty}{a b:Core}
theorem a0s:w30 ([]:Str)=30:=rfl
theorem aO7 (h:s.length≤8):gQ 9 (.mk 2 0 s zTy [] [] []):=by
 have u:=a0s;have:=aK4 (show s.length≤30 by omega);refine⟨j8 (dE rfl (fun h=>by cases h) rfl (by omega) (fun h=>by cases h)) .z (by simp) (by simp) (by simp),?_,?_⟩
 ·rw[m30,dA,fT,gY];omega
 ·rw[tlC,jW,qL,pA,φ (by decide)];omega
theorem aWd (u:gQ m a) (I:gQ n b):gQ (m+n+1) (.mk 4 0 [] zTy [a,b] [] []):=by
 have O:=a0s;obtain⟨J,a2,a3⟩:=u;obtain⟨N,Y,Z⟩:=I;refine⟨j8 (dE rfl (fun h=>by cases h) rfl (by decide) (fun h=>by cases h)) .z (wB J N) (by simp) (by simp),?_,?_⟩
 ·rw[m30,dA,dA,dA,fT,gY];omega
 ·rw[tlC,jW,jW,jW,qL,pA,φ (by decide)];omega
theorem aWc (h:s∈nm6) (ht:GT k t) (u:gQ m a):gQ (m+4) (.mk 5 0 s t [a] [] []):=by
 have J:=a0s;obtain⟨I,a2,a3⟩:=u;have:=aK4 (wY _ h);refine⟨j8 (dE rfl (fun h=>by cases h) (aLb ht).wf (wY _ h) (fun _=>wX _ h)) (aLb ht) (kQ I) (by simp) (by simp),?_,?_⟩
 ·rw[m30,dA,dA,fT,gY];omega
 ·rw[tlC,jW,jW,qL,pA,φ (by decide)];omega
theorem zM (ht:GT k t) (u:gQ m a):gQ (m+1) (.mk 6 0 [] t [a] [] []):=by
 have J:=a0s;obtain⟨I,a2,a3⟩:=u;refine⟨j8 (dE rfl (fun h=>by cases h) (aLb ht).wf (by decide) (fun h=>by cases h)) (aLb ht) (kQ I) (by simp) (by simp),?_,?_⟩
 ·rw[m30,dA,dA,fT,gY];omega
 ·rw[tlC,jW,jW,qL,pA,φ (by decide)];omega
theorem aO6 (h:s∈tvN) (u:gQ m a):gQ (m+20) (.mk 7 0 s zTy [a] [] []):=by
 have J:=a0s;obtain⟨I,a2,a3⟩:=u;have N:=a6k s h;have:=aK4 (show s.length≤30 by omega);refine⟨j8 (dE rfl (fun _=>⟨rfl,a4x s h⟩) rfl (by omega) (fun h=>by cases h)) .z (kQ I) (by simp) (by simp),?_,?_⟩
 ·rw[m30,dA,dA,fT,gY];omega
 ·rw[tlC,jW,jW,qL,pA,ξ rfl];omega
end
theorem a69:∀{m:Nat}{c:Core},GC m c→MW tvN c∧m30 c≤31*m∧20*tlC c≤m:=by
 intro m c h;have hw0:w30 ([]:Str)=30:=rfl
 induction h with
 | @var s h=>
  have:=aK4 (wY _ h);refine⟨j8 (dE rfl (fun h=>by cases h) rfl (wY _ h) (fun h=>by cases h)) .z (by simp) (by simp) (by simp),?_,?_⟩
  ·rw[m30,dA,fT,gY];omega
  ·rw[tlC,jW,qL,pA,φ (by decide)];omega
 | con h=>exact aO7 h
 | int h=>
  refine⟨j8 (dE rfl (fun h=>by cases h) rfl (by decide) (fun h=>by cases h)) .z (by simp) (by simp) (by simp),?_,?_⟩
  ·rw[m30,dA,fT,gY];omega
  ·rw[tlC,jW,qL,pA,φ (by decide)];omega
 | app ha hb u I=>exact aWd u I
 | lam h ht hk ha u=>exact aWc h ht u
 | tc h ht hk=>exact zM ht (aO7 h)
 | tc2 h hu hj ht hk=>exact zM ht (zM hu (aO7 h))
 | tr hu hj hs hx ht hk ha hb u I=>exact aWd (zM hu (aO6 hs (aWc hx ht u))) I
 | tlam h ha u=>exact aO6 h u
 | @lt m n k s t a b h ht hk ha hb u I=>
  obtain⟨J,a2,a3⟩:=u;obtain⟨N,O,Y⟩:=I;have:=aK4 (wY _ h);refine⟨j8 ⟨rfl,fun h=>(by cases h),rfl,fun p hp=>?_,?_,fun h=>(by cases h),fun p hp=>?_,by simp⟩ .z (kQ J) (fun x hx=>?_) (by simp),?_,?_⟩
  ·rw[ε.1 hp];exact(aLb ht).wf
  ·unfold lw;show 1+w30 []+(1+w30 s+0)+0≤403;omega
  ·rw[ε.1 hp];exact wX _ h
  ·rw[ε.1 hx];exact⟨aLb ht,N⟩
  ·rw[m30,dA,dA,fT,fT,gY];omega
  ·rw[tlC,jW,jW,qL,qL,pA,φ (by decide)];omega
 | @case1 m n k t a b f i s vs ht hk ha hb h1 h2 h3 h4 h5 u I=>
  obtain⟨J,a2,a3⟩:=u;obtain⟨N,O,Y⟩:=I;have hl:=lwA h3 h4 h5;refine⟨j8 ⟨rfl,fun h=>(by cases h),(aLb ht).wf,by simp,?_,fun h=>(by cases h),by simp,fun p hp v hv=>?_⟩ (aLb ht) (kQ J) (by simp) (fun x hx=>?_),?_,?_⟩
  ·unfold lw;show 1+w30 []+0+(1+w30 s+(vs.map fun v=>1+w30 v).sum+0)≤403;omega
  ·rw[ε.1 hp] at hv;exact wX _ (h4 v hv)
  ·rw[ε.1 hx];exact N
  ·rw[m30,dA,dA,fT,gY,gY];omega
  ·rw[tlC,jW,jW,qL,pA,pA,φ (by decide)];omega
 | @case2 m n o k t a b c f i s vs f' i' s' vs' ht hk ha hb hc h1 h2 h3 h4 h5 h1' h2' h3' h4' h5' u I Z=>
  obtain⟨J,a2,a3⟩:=u;obtain⟨N,O,Y⟩:=I;obtain⟨c1,c2,c3⟩:=Z;have hl:=lwA h3 h4 h5;have hl':=lwA h3' h4' h5';refine⟨j8 ⟨rfl,fun h=>(by cases h),(aLb ht).wf,by simp,?_,fun h=>(by cases h),by simp,fun p hp v hv=>?_⟩ (aLb ht) (kQ J) (by simp) (fun x hx=>?_),?_,?_⟩
  ·unfold lw;show 1+w30 []+0+(1+w30 s+(vs.map fun v=>1+w30 v).sum+(1+w30 s'+(vs'.map fun v=>1+w30 v).sum+0))≤403;omega
  ·have:p=(s,vs)∨p=(s',vs'):=by simpa [ahd,Alt.name,Alt.vars] using hp
   rcases this with rfl | rfl
   ·exact wX _ (h4 v hv)
   ·exact wX _ (h4' v hv)
  ·have:x=.mk f i s vs b∨x=.mk f' i' s' vs' c:=by simpa using hx
   rcases this with rfl | rfl
   ·exact N
   ·exact c1
  ·rw[m30,dA,dA,fT,gY,gY,gY];omega
  ·rw[tlC,jW,jW,qL,pA,pA,pA,φ (by decide)];omega
 | @prim m n s a b h ha hb u I=>
  obtain⟨J,a2,a3⟩:=u;obtain⟨N,O,Y⟩:=I;have:=aK4 (aEw _ h);refine⟨j8 (dE rfl (fun h=>by cases h) rfl (aEw _ h) (fun h=>by cases h)) .z (wB J N) (by simp) (by simp),?_,?_⟩
  ·rw[m30,dA,dA,dA,fT,gY];omega
  ·rw[tlC,jW,jW,jW,qL,pA,φ (by decide)];omega
 | fail ht hk=>
  refine⟨j8 (dE rfl (fun h=>by cases h) (aLb ht).wf (by decide) (fun h=>by cases h)) (aLb ht) (by simp) (by simp) (by simp),?_,?_⟩
  ·rw[m30,dA,fT,gY];omega
  ·rw[tlC,jW,qL,pA,φ (by decide)];omega
def V0:List Str:=lT++tvN
theorem a6g:¬([]:Str)∈V0:=by decide
theorem a4h:V0.length=8:=rfl
theorem MW.mono {V W:List Str}{c:Core}(h:MW V c) (hv:∀x∈V,x∈W):MW W c:=⟨h.q,h.w,fun x hx=>hv x (h.v x hx)⟩
structure MK (c:Core):Prop where
 m:MW V0 c
 t:tlC c≤6000
 s:m30 c≤3500000
theorem MK.st {c:Core}(h:MK c) (n:Nat):ST n V0 c:=ST.of h.m h.t h.s n
theorem aOk (l:List Int):MK (kF l):=by
 obtain⟨_,_,h3⟩:=a2d l;have hm:MW lT (kF l):=aP3 6 (l.take 60) 30;refine⟨hm.mono fun x hx=>τ.2 (.inl hx),?_,by omega⟩;have h1:=pC (kF l);have h2:=(aHz l).2
 have h4:=size_le (kF l);omega
theorem a5t {m:Nat}{c:Core}(h:GC m c) (hm:m≤110000):MK c:=by
 obtain⟨h1,h2,h3⟩:=a69 h;exact⟨h1.mono fun x hx=>τ.2 (.inr hx),by omega,by omega⟩
def fA:Ty:=.mk 2 0 [97] []
def fB:Ty:=.mk 2 0 [98] []
def tcn (s:Str):Ty:=.mk 3 0 s []
def tap (f a:Ty):Ty:=.mk 4 0 [] [f,a]
def tal (s:Str) (t:Ty):Ty:=.mk 5 0 s [t]
def n9:Ty:=tap (tcn [76]) fA
def zV:Ty:=tap (tap (tcn [80]) fA) fB
def fId:Ty:=tal [98] (iZ fB fB)
def aYz:Ty:=tap (tcn [75,64]) fA
def aN8:Str:=[66,111,111,108]
def FL:List Fld:=[⟨[78],0,2,0,tal [97] n9⟩,⟨[67],1,2,2,tal [97] (iZ fA (iZ n9 n9))⟩,⟨[80],0,1,2,tal [97] (tal [98] (iZ fA (iZ fB zV)))⟩,
 ⟨[70,97,108,115,101],0,2,0,tcn aN8⟩,⟨[84,114,117,101],1,2,0,tcn aN8⟩,⟨[75,64],0,1,2,tal [97] (iZ fA (iZ fId aYz))⟩]
theorem aUj:aU Tryz.prog 14 [] [] (.one (.c (.sl 8 (FL.map aWm)))) []:=by
 have h1:=iM [76];have h2:=iM [80];have h3:=iM [75,64];have h4:=iM aN8;have h5:=uX fB fB;have h6:=rK [97] n9;have h7:=uX n9 n9;have h8:=uX fA (iZ n9 n9);have h9:=rK [97] (iZ fA (iZ n9 n9));have u:=uX fB zV;have I:=uX fA (iZ fB zV);have J:=rK [98] (iZ fA (iZ fB zV));have N:=rK [97] (tal [98] (iZ fA (iZ fB zV)));have O:=uX fId aYz;have Y:=uX fA (iZ fId aYz);have Z:=rK [97] (iZ fA (iZ fId aYz));refine bQ (n:=59) tok Tryz.func14 rfl rfl rfl ?_;refine sg rfl (sg rfl (AWp.sub (vp 1 (bD fA)) ?_));refine sg rfl (AWp.sub (vp 2 (bD fB)) ?_);exact sgh [(0,.pc (tyV (tcn [76]))),(2,.all)] rfl (sgh [(0,.pc (tyV (tcn [80]))),(2,.all),(5,.all)] rfl (sgh [(2,.pc (tyV (iZ fB fB))),(3,.all)] rfl (sgh [(0,.pc (tyV (tcn [75,64]))),(2,.all)] rfl (sgh [(1,.pc (tyV (tal [97] n9))),(6,.pc (tyV (iZ n9 n9))),(7,.pc (tyV (iZ fA (iZ n9 n9)))),(8,.pc (tyV (tal [97] (iZ fA (iZ n9 n9))))),(13,.pc (tyV (iZ fB zV))),(14,.pc (tyV (iZ fA (iZ fB zV)))),(15,.pc (tyV (tal [98] (iZ fA (iZ fB zV))))),(16,.pc (tyV (tal [97] (tal [98] (iZ fA (iZ fB zV)))))),(18,.pc (tyV (tcn aN8))),(20,.pc (tyV (tcn aN8))),(25,.pc (tyV (iZ fId aYz))),(26,.pc (tyV (iZ fA (iZ fId aYz)))),(27,.pc (tyV (tal [97] (iZ fA (iZ fId aYz))))),(29,.all)] rfl (aE rtT)))))
theorem aEi {l:List Core}{i:Nat}{x:Core}(h:l[i]?=some x):bR (l.take (i+1))=bR (l.take i)+eX x:=by
 induction l generalizing i with
 | nil=>simp at h
 | cons c l u=>cases i with
  | zero=>
   have:c=x:=by simpa using h
   subst this;simp[bR]
  | succ i=>
   rw[An,An,bR,bR,u (by simpa using h)];omega
theorem aEj {l:List Bind}{i:Nat}{x:Bind}(h:l[i]?=some x):dI (l.take (i+1))=dI (l.take i)+eX x.body:=by
 induction l generalizing i with
 | nil=>simp at h
 | cons c l u=>cases i with
  | zero=>
   have:c=x:=by simpa using h
   subst this;obtain⟨s,t,c⟩:=c;simp[dI,Bind.body]
  | succ i=>
   obtain⟨s,t,c⟩:=c;rw[An,An,dI,dI,u (by simpa using h)];omega
theorem aEk {l:List Alt}{i:Nat}{x:Alt}(h:l[i]?=some x):dW (l.take (i+1))=dW (l.take i)+eX x.body:=by
 induction l generalizing i with
 | nil=>simp at h
 | cons c l u=>cases i with
  | zero=>
   have:c=x:=by simpa using h
   subst this;obtain⟨f,n,s,v,c⟩:=c;simp[dW,Alt.body]
  | succ i=>
   obtain⟨f,n,s,v,c⟩:=c;rw[An,An,dW,dW,u (by simpa using h)];omega
theorem aMk {l:List Core}(i:Nat):bR (l.take i)≤bR l:=by
 induction l generalizing i with
 | nil=>simp
 | cons c l u=>cases i with
  | zero=>simp[bR]
  | succ i=>rw[An,bR,bR];have:=u i;omega
theorem aMm {l:List Bind}(i:Nat):dI (l.take i)≤dI l:=by
 induction l generalizing i with
 | nil=>simp
 | cons c l u=>cases i with
  | zero=>simp[dI]
  | succ i=>obtain⟨s,t,c⟩:=c;rw[An,dI,dI];have:=u i;omega
theorem aMn {l:List Alt}(i:Nat):dW (l.take i)≤dW l:=by
 induction l generalizing i with
 | nil=>simp
 | cons c l u=>cases i with
  | zero=>simp[dW]
  | succ i=>obtain⟨f,n,s,v,c⟩:=c;rw[An,dW,dW];have:=u i;omega
def aAs (c:Core):Prop:=aY c≤570000000000→aU Tryz.prog 11 [.pa (aB c)] [] (I .i64 (eX c:Nat)) []
theorem aAc (c:Core) (ih:∀x,aY x<aY c→aAs x):aAs c:=by
 intro hsz;have hsl:=size_le c;obtain⟨f,n,s,t,ks,bs,al⟩:=c;obtain⟨Z,aa,ab,hkl',hbl',hal'⟩:= @iW f n s t ks bs al;rw[eX,show 1+(bR ks+(dI bs+dW al))=1+bR ks+dI bs+dW al by omega] at hsl ⊢;have ac:(aQ bs).length=bs.length:=by rw[bH,θ]
 have ad:(aO ks).length=ks.length:=by rw[aR,θ]
 have ae:(bV al).length=al.length:=by rw[bF,θ]
 have t1:∀i,bR (ks.take i)≤bR ks:=fun i=>aMk i
 have t2:∀i,dI (bs.take i)≤dI bs:=fun i=>aMm i
 have t3:∀i,dW (al.take i)≤dW al:=fun i=>aMn i
 refine bQ (n:=55) tok Tryz.func11 rfl rfl rfl ?_;refine sg rfl (sg rfl (a8 (sg rfl (aC (aK (fun i:Nat=>mk [(1,.one (.vp 1 0)),(3,I .i64 (1+bR (ks.take i):Nat)),(4,I .i64 i)] [(1,.var 37 (aW (.mk f n s t ks bs al)))]) (fun i=>i≤ks.length) (fun i=>ks.length-i) 0 (Ag _) sl ?_)))));intro i hi;refine a8 (sg rfl (aA rfl (fun hb=>?_) (fun hb=>?_)))
 ·have u:i<ks.length:=ltD hb ad;obtain⟨x,hx⟩:=aJ u;have J:=η hx;have ah:(aO ks)[i]?=some (aB x):=by rw[aR];exact bW aB hx
  have hc:=ih x (Z x J) (by have:=Z x J;omega);have O:=aEi hx;have h1:=t1 (i+1);have e:(((1+bR (ks.take i):Nat):Nat):Int)+((eX x:Nat):Int)=((1+bR (ks.take (i+1)):Nat):Int):=by omega
  refine aD (a8 (aC (aI mixed (ak 6 [(4,.row i (aB x))] rfl (kc hc ?_)))));refine kz 2 rfl (ag [] rfl ⟨i+1,u,by dsimp only;omega,?_⟩);dsimp only;rw[←e];exact sl
 have N:=geD hb ad hi;subst N;rw[Al];refine aL (a8 (sg rfl (aC (aK (fun i:Nat=>mk [(1,.one (.vp 1 0)),(3,I .i64 (1+bR ks+dI (bs.take i):Nat)),(5,I .i64 i)] [(1,.var 37 (aW (.mk f n s t ks bs al)))]) (fun i=>i≤bs.length) (fun i=>bs.length-i) 0 (Ag _) sl ?_))));intro i hi;refine a8 (sg rfl (aA rfl (fun hb=>?_) (fun hb=>?_)))
 ·have u:i<bs.length:=ltD hb ac;obtain⟨x,hx⟩:=aJ u;have J:=η hx;have ah:=bX hx;have hc:=ih x.body (aa x J) (by have:=aa x J;omega);have O:=aEj hx;have h1:=t2 (i+1);obtain⟨xs,xt,Y⟩:=x;dsimp only[Bind.body] at hc O;have e:(((1+bR ks+dI (bs.take i):Nat):Nat):Int)+((eX Y:Nat):Int)=((1+bR ks+dI (bs.take (i+1)):Nat):Int):=by omega
  refine aD (a8 (aC (aI mixed (ak 7 [(4,.row i (b8 (.mk xs xt Y)))] rfl (kc hc ?_)))));refine kz 2 rfl (ag [] rfl ⟨i+1,u,by dsimp only;omega,?_⟩);dsimp only;rw[←e];exact sl
 have N:=geD hb ac hi;subst N;rw[Al];refine aL (a8 (sg rfl (aC (aK (fun i:Nat=>mk [(1,.one (.vp 1 0)),(3,I .i64 (1+bR ks+dI bs+dW (al.take i):Nat)),(6,I .i64 i)] [(1,.var 37 (aW (.mk f n s t ks bs al)))]) (fun i=>i≤al.length) (fun i=>al.length-i) 0 (Ag _) sl ?_))));intro i hi;refine a8 (sg rfl (aA rfl (fun hb=>?_) (fun hb=>?_)))
 ·have u:i<al.length:=ltD hb ae;obtain⟨x,hx⟩:=aJ u;have J:=η hx;have ah:=fZ hx;have hc:=ih x.body (ab x J) (by have:=ab x J;omega);have O:=aEk hx;have h1:=t3 (i+1);obtain⟨xf,xn,xs,xv,Y⟩:=x;dsimp only[Alt.body] at hc O;have e:(((1+bR ks+dI bs+dW (al.take i):Nat):Nat):Int)+((eX Y:Nat):Int)=((1+bR ks+dI bs+dW (al.take (i+1)):Nat):Int):=by omega
  refine aD (a8 (aC (aI mixed (ak 7 [(4,.row i (c7 (.mk xf xn xs xv Y)))] rfl (kc hc ?_)))));refine kz 2 rfl (ag [] rfl ⟨i+1,u,by dsimp only;omega,?_⟩);dsimp only;rw[←e];exact sl
 have N:=geD hb ae hi;subst N;rw[Al];exact aL (sg rfl (aE rtT))
theorem aIx:∀(n:Nat) (c:Core),aY c≤n→aAs c
 | 0,c,h=>by have:=dX c;omega
 | n+1,c,h=>aAc c fun x hx=>aIx n x (by omega)
def aPq (x:List Int):List C:=[.sl 1 (x.map aKm)]
def nm3:List Str:=[[120],[121],[98]]
structure TyM (c:Core):Prop where
 m:MK c
 g:∃m,GC m c
def TyC (l:List Int) (p:Core×Ty):Prop:=TyM p.1∧aU Tryz.prog 8 [a2p l] [] (.tup [.pa (aB p.1),tyV p.2]) []
theorem a3e (l:List Int) (hl:aDx l) (hf:Fits l):∃p,TyC l p:=by
 obtain⟨c,t,m,h1,h2,_,h3⟩:=aY2 l hl hf;exact⟨(c,t),⟨a5t h1 h2,⟨m,h1⟩⟩,h3⟩
def aHt (g:List Int→Core×Ty) (typed:Bool) (p:List Int×Str):Bind:=.mk p.2 (g p.1).2 (if typed=true then(g p.1).1 else kF p.1)
theorem aT3 (ls:List (List Int)) (typed:Bool) (hl:∀x∈ls,aDx x∧Fits x) (hf:ls.length≤1152921504606846976):
  ∃bd:List Bind,bd.length≤3∧(∀b∈bd,MK b.body∧if typed=true then ∃m,GC m b.body else ∃l,b.body=kF l)∧aU Tryz.prog 6 [.one (.c (.sl 1 (ls.map aPq))),B typed] [] (.tup [.pa (jU ⟨FL,bd⟩),.pa (jU ⟨FL,bd⟩)]) []:=by
 have aa:∀x:List Int,∃p:Core×Ty,x∈ls→TyC x p:=fun x=>by
  by_cases hx:x∈ls
  ·obtain⟨p,hp⟩:=a3e x (hl x hx).1 (hl x hx).2;exact⟨p,fun _=>hp⟩
  ·exact⟨(zC,zTy),fun h=>absurd h hx⟩
 obtain⟨g,Z⟩:=Classical.axiomOfChoice aa;have hzl:(ls.zip nm3).length=min ls.length 3:=by rw[length_zip];rfl
 refine⟨(ls.zip nm3).map (aHt g typed),by rw[θ];omega,fun b hb=>?_,?_⟩
 ·obtain⟨p,hp,rfl⟩:=Af.1 hb;have N:=(of_mem_zip (a:=p.1) (b:=p.2) hp).1
  unfold aHt;dsimp only[Bind.body];split
  ·exact⟨(Z p.1 N).1.m,(Z p.1 N).1.g⟩
  ·exact⟨aOk p.1,p.1,rfl⟩
 have ab:=aUj;have O:(ls.map aPq).length=ls.length:=θ _;refine bQ (n:=53) tok Tryz.func6 rfl rfl rfl ?_;refine sg rfl (sg rfl (AWp.sub (Sub.own (t:=6) (id:=720) 58 15 rfl rfl) ?_));refine a8 (sg rfl (aC (aK (fun i:Nat=>mk [(0,.one (.c (.sl 1 (ls.map aPq)))),(1,B typed),(4,.one (.vp 4 0)),(5,.one (.vp 5 0)),(6,.one (.hs 720 0 i i)),(7,I .i64 i)] [(4,.var 27 [.c .nl,.c .nl]),(5,.var 28 [.c .nl,.c .nl]),(720,.arr 58 15 (((ls.zip nm3).take i).map fun p=>b8 (aHt g typed p)) 0)]) (fun i=>i≤(ls.zip nm3).length) (fun i=>(ls.zip nm3).length-i) 0 (Ag _) sl ?_)));intro i hi;refine a8 (a8 (agF 5 [] rfl rfl rfl (aA rfl (fun hb=>?_) (fun hb=>?_))))
 ·have Y:i<ls.length∧i<3:=by
   have h:=rQ hb;rw[O] at h;omega
  obtain⟨x,hx⟩:=aJ Y.1;obtain⟨s,hs⟩:=aJ (show i<nm3.length from Y.2);have u:=η hx;have hx':=bW aPq hx;have ac:=bW b6 hs;have hz:(ls.zip nm3)[i]?=some (x,s):=by rw[List.getElem?_zip_eq_some];exact⟨hx,hs⟩
  have J:=eC (fun p=>b8 (aHt g typed p)) hz;obtain⟨h1,h2⟩:=Z x u;have ad:=aW0 x (hl x u).1 (hl x u).2;refine aD (a8 (aC (skh 4 [(2,.row i (aPq x))] rfl (kc h2 ?_))));refine kz 7 rfl (a8 (sg rfl (AWp.cut (mk [(0,.one (.c (.sl 1 (ls.map aPq)))),(1,B typed),(4,.one (.vp 4 0)),(5,.one (.vp 5 0)),(6,.one (.hs 720 0 i i)),(7,I .i64 i),(8,.one (.vp 8 0)),(9,.one (.vp 9 0))] [(4,.var 27 [.c .nl,.c .nl]),(5,.var 28 [.c .nl,.c .nl]),(8,.var 37 (aW (aHt g typed (x,s)).body)),(9,.var 33 ((bD (g x).2).map .c)),(720,.arr 58 15 (((ls.zip nm3).take i).map fun p=>b8 (aHt g typed p)) 0)]) ?_ ?_)))
  ·cases typed with
   | true=>
    exact aA rfl nofun (fun _=>aD sl)
   | false=>
    refine aA rfl (fun _=>aI mixed (ak 4 [(2,.row i (aPq x))] rfl (kc ad ?_))) nofun;exact kz 1 rfl sl
  have ae:aHt g typed (x,s)=.mk s (g x).2 (aHt g typed (x,s)).body:=rfl;rw[ae] at J;generalize (aHt g typed (x,s)).body=body at *;have hi3:i≤3:=by omega
  have hki:i=(((ls.zip nm3).take i).map fun p=>b8 (aHt g typed p)).length:=by rw[θ,Ar];omega
  have hs2:([[C.str [120]],[C.str [121]],[C.str [98]]]:List (List C))[i]?=some (b6 s):=ac;exact ag [(1,.all),(3,.row i (b6 s)),(8,.all)] rfl (ag [] rfl ⟨i+1,by omega,by dsimp only;omega,sl (he:=⟨rfl,rfl,rfl,rfl,Go.AM.hs_ren (by show _+1=i+1;omega) (by show _+1=i+1;omega),rfl,trivial⟩)⟩)
 have ah:i=(ls.zip nm3).length:=by
  have hn:¬(i<ls.length∧i<3):=by
   rintro⟨h1,h2⟩;have e1:decide ((i:Int)<((ls.map aPq).length:Int))=true:=Ad (by rw[O];omega);have e2:decide ((i:Int)<3)=true:=Ad (by omega);have hb:(bif decide ((i:Int)<((ls.map aPq).length:Int)) then decide ((i:Int)<3) else false)=false:=hb;rw[e1,e2] at hb;cases hb
  omega
 subst ah;have ai:((ls.zip nm3).take (ls.zip nm3).length).map (fun p=>b8 (aHt g typed p))=((ls.zip nm3).map (aHt g typed)).map b8:=by rw[Al,A8];rfl
 rw[ai];have hl2:(ls.zip nm3).length=(((ls.zip nm3).map (aHt g typed)).map b8).length:=by rw[θ,θ]
 refine aL (AWp.sub (Sub.freeze (id:=720) rfl) (AWp.sub (cv 6 (((ls.zip nm3).map (aHt g typed)).map b8)) ?_));refine a8 (aI mixed (kc ab ?_));exact kz 1 rfl (sg rfl (aE (a64 trw)))
def isR (c:Core):Prop:=c.form=6∧(c.kids.headD zC).form=7
def okT (c:Core):Prop:=c.form=2∨c.form=6∨(c.form=7∧(c.kids.headD zC).form=5)
def tlK (f:Int) (ks:List Core):List Core:=if f=4 then ks.drop 1 else ks
inductive pS:Core→Prop
 | mk {f n:Int} {s:Str} {t:Ty} {ks:List Core} {bs:List Bind} {al:List Alt} (h6:f=6→okT (ks.headD zC)) (ht:∀x∈tlK f ks,¬isR x) (hk:∀x∈ks,pS x)
   (hb:∀b∈bs,pS b.body) (hb':∀b∈bs,¬isR b.body) (ha:∀a∈al,pS a.body) (ha':∀a∈al,¬isR a.body):pS (.mk f n s t ks bs al)
def pZ (c:Core):Prop:=pS c∧¬isR c
section
variable {f n:Int}{s:Str}{t:Ty}{ks:List Core}{bs:List Bind}{al:List Alt}{p q r b c:Core}{sb:Core→Str→Core→Core}
theorem qY (h6:¬f=6) (hk:∀x∈ks,pS x) (ht:∀x∈tlK f ks,¬isR x) (hb:∀b∈bs,pZ b.body) (ha:∀a∈al,pZ a.body):pZ (.mk f n s t ks bs al):=
 ⟨.mk (fun e=>absurd e h6) ht hk (fun b h=>(hb b h).1) (fun b h=>(hb b h).2) (fun a h=>(ha a h).1) (fun a h=>(ha a h).2),fun e=>h6 e.1⟩
theorem kE (h6:¬f=6:=by decide):pZ (.mk f n s t [] [] []):=qY h6 (by simp) (by unfold tlK;split<;>simp) (by simp) (by simp)
theorem pS.bd (h:pS (.mk f n s t ks bs al)):(∀b∈bs,pZ b.body)∧(∀a∈al,pZ a.body)∧(∀x∈ks,pS x)∧(∀x∈tlK f ks,¬isR x)∧(f=6→okT (ks.headD zC)):=by
 cases h with
 | mk h6 ht hk hb hb' ha ha'=>exact⟨fun b h=>⟨hb b h,hb' b h⟩,fun b h=>⟨ha b h,ha' b h⟩,hk,ht,h6⟩
def TS (p q:Core):Prop:=pS p→pS q∧(isR q↔isR p)∧(okT p→okT q)∧(¬p.form=1→q.form=p.form)
theorem TS.refl (p:Core):TS p p:=fun h=>⟨h,Iff.rfl,id,fun _=>rfl⟩
theorem TS.trans (h1:TS p q) (h2:TS q r):TS p r:=fun h=>by
 obtain⟨u,a2,a3,a4⟩:=h1 h;obtain⟨I,J,N,O⟩:=h2 u;exact⟨I,J.trans a2,fun h=>N (a3 h),fun h=>by have e:=a4 h;rw[O (by rw[e];exact h),e]⟩
theorem TS.to (h:TS p q) (hp:pZ p):pZ q:=⟨(h hp.1).1,fun u=>hp.2 ((h hp.1).2.1.1 u)⟩
theorem aYf (h:okT c):¬c.form=1:=by unfold okT at h;omega
theorem aAr {O:Int}{s':Str}{t':Ty}{I:List Bind}{J:List Alt}(h:Core→Core) (hk:∀x∈ks,TS x (h x))
  (hb:(∀b∈bs,pZ b.body)→∀b∈I,pZ b.body) (ha:(∀a∈al,pZ a.body)→∀a∈J,pZ a.body):TS (.mk f n s t ks bs al) (.mk f O s' t' (ks.map h) I J):=fun hp=>by
 obtain⟨Y,Z,p3,p4,N⟩:=hp.bd;have h1:=hb Y;have h2:=ha Z;have hm:=fun x hx=>hk x hx (p3 x hx)
 have hf:¬(ks.headD zC).form=1→((ks.map h).headD zC).form=(ks.headD zC).form:=by
  cases ks with
  | nil=>exact fun _=>rfl
  | cons x l=>exact(hm x ζ).2.2.2
 have ho:okT (ks.headD zC)→okT ((ks.map h).headD zC):=by
  cases ks with
  | nil=>exact id
  | cons x l=>exact(hm x ζ).2.2.1
 refine⟨.mk (fun e=>ho (N e)) (fun y u hr=>?_) (fun y u=>?_) (fun b h=>(h1 b h).1) (fun b h=>(h1 b h).2) (fun a h=>(h2 a h).1) (fun a h=>(h2 a h).2),⟨fun g=>?_,fun g=>?_⟩,fun g=>?_,fun _=>rfl⟩
 ·have:∃x∈tlK f ks,h x=y∧x∈ks:=by
   unfold tlK at u ⊢;by_cases h4:f=4
   ·rw[ξ h4] at u ⊢;rw[←List.map_drop] at u;obtain⟨x,hx,e⟩:=Af.1 u;exact⟨x,hx,e,B0 hx⟩
   ·rw[φ h4] at u ⊢;obtain⟨x,hx,e⟩:=Af.1 u;exact⟨x,hx,e,hx⟩
  obtain⟨x,hx,rfl,hk⟩:=this;exact p4 x hx ((hm x hk).2.1.1 hr)
 ·obtain⟨x,hx,rfl⟩:=Af.1 u;exact(hm x hx).1
 ·have e:=hf (aYf (N g.1));exact⟨g.1,e▸g.2⟩
 ·have e:=hf (aYf (N g.1));exact⟨g.1,e.trans g.2⟩
 ·rcases g with g | g | ⟨g,g5⟩
  ·exact .inl g
  ·exact .inr (.inl g)
  ·have g5:(ks.headD zC).form=5:=g5;exact .inr (.inr ⟨g,(hf (by omega)).trans g5⟩)
theorem aK2:∀(k:Nat) (c:Core) (a:Str) (u:Ty),TS c (sTR k c a u)
 | 0,c,a,u=>by rw[sTR];exact .refl c
 | k+1,.mk f n s t ks bs al,a,u=>by
  have hb:∀{b:Core},pZ b→pZ (sTR k b a u):=fun {b} h=>(aK2 k b a u).to h
  have J:(∀b∈bs,pZ b.body)→∀b∈bs.map (fun b=>Bind.mk b.name (iD b.ty [(a,u)]) (sTR k b.body a u)),pZ b.body:=fun h b hm=>by
   obtain⟨y,I,rfl⟩:=Af.1 hm;exact hb (h y I)
  have N:(∀b∈al,pZ b.body)→∀b∈al.map (fun b=>Alt.mk b.form b.n b.name b.vars (sTR k b.body a u)),pZ b.body:=fun h b hm=>by
   obtain⟨y,I,rfl⟩:=Af.1 hm;exact hb (h y I)
  rw[sTR];split
  ·exact .refl _
  ·split
   ·rw[gE,A8];exact aAr _ (fun x _=>(aK2 k x _ _).trans (aK2 k _ _ _)) J N
   ·exact aAr _ (fun x _=>aK2 k x _ _) J N
theorem a4i (far:List Str):TS c (aR2 c far):=by
 obtain⟨f,n,s,t,ks,bs,al⟩:=c;rw[aR2];split
 ·exact aAr _ (fun x _=>aK2 _ x _ _) id id
 ·exact .refl _
theorem aRm (hs:∀p n z,pZ z→TS p (sb p n z)) {far:List Str}:∀(ns:List Str) (st:List Str×List Core×List Str),∃h:Core→Core,(∀x,TS x (h x))∧(jB sb far ns st).2.1=st.2.1.map h
 | [],st=>⟨id,.refl,(map_id _).symm⟩
 | n::ns,st=>by
  obtain⟨h,h1,h2⟩:=aRm hs ns (dS sb far st n);have h2:(jB sb far (n::ns) st).2.1=(dS sb far st n).2.1.map h:=h2;rw[h2];unfold dS;split
  ·exact⟨_,fun x=>(hs x n _ kE).trans (h1 _),A8⟩
  ·exact⟨h,h1,rfl⟩
theorem aRl (hs:∀p n z,pZ z→TS p (sb p n z)) (hb:pZ b) (ns:List Str) (ps:List Core):∃h:Core→Core,(∀x,TS x (h x))∧(cE sb s b ns ps).2=ps.map h:=by
 unfold cE;split
 ·obtain⟨h,h1,h2⟩:=aRm hs (far:=pfR b) ns ([],ps,ps.flatMap pfR++ns++pfR b);dsimp only at h2 ⊢;rw[h2];exact⟨_,fun x=>(h1 x).trans (hs _ _ _ hb),A8⟩
 ·exact⟨id,.refl,(map_id _).symm⟩
theorem a0b (hs:∀p n z,pZ z→TS p (sb p n z)) (hb:pZ b):TS c (oL sb s b c):=by
 obtain⟨f,n,nm,t,ks,bs,al⟩:=c;rw[oL];unfold zNm zKs zBs;obtain⟨h,h1,h2⟩:=aRl (s:=s) hs hb (gvN f nm bs) (ks++bs.map Bind.body);rw[h2,At,take_left' (θ _),List.drop_left' (θ _)];refine aAr h (fun x _=>h1 x) (fun hp x hx=>?_) (fun hp x hx=>?_)
 ·obtain⟨y,u,e⟩:=Af.1 (lC hx).1;obtain⟨z,I,rfl⟩:=Af.1 u;rw[←e];exact(h1 _).to (hp z I)
 ·obtain⟨y,u,rfl⟩:=Af.1 hx;obtain⟨g,g1,g2⟩:=aRl (s:=s) hs hb y.vars [y.body];show pZ ((cE sb s b y.vars [y.body]).2.headD y.body);rw[g2];exact(g1 _).to (hp y u)
theorem aJk:∀(k:Nat) (c:Core) (s:Str) (b:Core),pZ b→TS c (dH k c s b)
 | 0,c,s,b,_=>by rw[dH];exact .refl c
 | k+1,c,s,b,hb=>by
  rw[dH];split
  ·rename_i h1;exact fun _=>⟨hb.1,⟨fun h=>absurd h hb.2,fun h=>by have:=h.1;omega⟩,fun h=>absurd h1.1 (aYf h),fun h=>absurd h1.1 h⟩
  ·refine TS.trans (q:=if c.form=7∧s∈pfR c then aR2 c (tyR b) else c) ?_ (a0b (fun p n z h=>aJk k p n z h) hb);split
   ·exact a4i _
   ·exact .refl c
theorem aVx (names:List Str) (l:List Core) (hc:pZ c) (hl:∀b∈l,pZ b):pZ (aAv c names l):=by
 have h1:∀(ps:List (Str×Str)) (c:Core),pZ c→pZ (eY c ps):=by
  intro ps
  induction ps with
  | nil=>intro c h;exact h
  | cons p ps u=>intro c h;exact u _ ((aJk _ c _ (vC _) kE).to h)
 have h2:∀(ps:List (Str×Core)) (c:Core),(∀p∈ps,pZ p.2)→pZ c→pZ (iI c ps):=by
  intro ps
  induction ps with
  | nil=>intro c _ h;exact h
  | cons p ps u=>intro c hp h;exact u _ (fun q I=>hp q (ω _ I)) ((aJk _ c _ _ (hp p ζ)).to h)
 exact h2 _ _ (fun p hp=>hl p.2 (of_mem_zip (a:=p.1) (b:=p.2) hp).2) (h1 _ _ hc)
end
mutual
theorem a2t:∀c:Core,pS c→∀(s:Str) (l:List Core),gvC c=some (s,l)→∀x∈l,pZ x
 | .mk f n s t ks bs al,h,nm,l,u=>by
  obtain⟨_,_,I,J,_⟩:=h.bd;rw[gvC] at u;by_cases h2:f=2
  ·rw[ξ h2] at u;cases u;exact fun x hx=>by cases hx
  rw[φ h2] at u;by_cases h4:f=4
  ·rw[ξ h4] at u;obtain⟨⟨Y,l'⟩,N,O⟩:=Bq.1 u;cases O;intro x hx;rcases τ.1 hx with hx | hx
   ·exact aV9 ks I _ _ N x hx
   ·exact⟨I x (B0 hx),J x (by unfold tlK;rw[ξ h4];exact hx)⟩
  rw[φ h4] at u;by_cases h6:f=6
  ·rw[ξ h6] at u;exact aV9 ks I _ _ u
  ·rw[φ h6] at u;cases u
theorem aV9:∀l:List Core,(∀x∈l,pS x)→∀(s:Str) (m:List Core),gvH l=some (s,m)→∀x∈m,pZ x
 | [],_,_,_,u=>by rw[gvH] at u;cases u
 | c::l,h,s,m,u=>by rw[gvH] at u;exact a2t c (h c ζ) s m u
end
theorem aYc {s:Str}{a b:Int}(h:(jG s a b).2=0):pZ (jG s a b).1:=by
 have ht:∀c,pZ (aK5 c):=fun c=>kE
 unfold jG at h ⊢
 repeat' split
 all_goals first | exact kE | exact ht _
def tA:Nat→Core→Bool
 | 0,_=>false
 | k+1,c=>
  if c.form=4 then(if(c.kids.headD zC).form=5 then false else tA k (c.kids.headD zC))
  else if c.form=6 then(if(c.kids.headD zC).form=7 then true else tA k (c.kids.headD zC))
  else if c.form=9 then(if shC (c.kids.headD zC)=true then false else tA k (c.kids.headD zC))
  else if c.form=10 then(if ¬shC (c.kids.headD zC)=true then tA k (c.kids.headD zC) else if ¬shC (c.kids.getD 1 zC)=true then tA k (c.kids.getD 1 zC) else false)
  else false
section
variable {f n:Int}{s:Str}{t:Ty}{ks:List Core}{bs:List Bind}{al:List Alt}{x y c:Core}{bd:List Bind}{k:Nat}
theorem mC:tA (k+1) (.mk f n s t ks bs al)=
  if f=4 then(if(ks.headD zC).form=5 then false else tA k (ks.headD zC))
  else if f=6 then(if(ks.headD zC).form=7 then true else tA k (ks.headD zC))
  else if f=9 then(if shC (ks.headD zC)=true then false else tA k (ks.headD zC))
  else if f=10 then(if ¬shC (ks.headD zC)=true then tA k (ks.headD zC) else if ¬shC (ks.getD 1 zC)=true then tA k (ks.getD 1 zC) else false)
  else false:=by rw[tA];rfl
theorem aEf (h4:¬f=4) (h6:¬f=6) (I:¬f=9) (u:¬f=10):∀k,tA k (.mk f n s t ks bs al)=false
 | 0=>by rw[tA]
 | k+1=>by rw[mC,φ h4,φ h6,φ I,φ u]
theorem qV (h:f=9∨f=10):shC (.mk f n s t ks bs al)=false:=by
 unfold shC;rw[gvC];rcases h with rfl | rfl<;>rfl
theorem aVi (h:gvH ks=none):shC (.mk 4 n s t ks bs al)=false:=by
 unfold shC;rw[gvC,φ (by decide),ξ rfl,h];rfl
theorem aTs (h:shC c=false):gvC c=none:=by
 unfold shC at h;cases u:gvC c with
 | none=>rfl
 | some p=>rw[u] at h;simp at h
theorem pS.stuck:∀(k:Nat) (c:Core),pS c→c.form=6→¬isR c→¬(cD bd k c).2=0
 | 0,c,_,_,_=>by rw[cD];decide
 | k+1,.mk f n s t ks bs al,h,hf,I=>fun he=>by
  obtain⟨_,_,J,N,O⟩:=h.bd;have hf:f=6:=hf;subst hf;have h7:¬(ks.headD zC).form=7:=fun e=>I ⟨rfl,e⟩
  rw[iP,φ (by decide),ξ (.inr rfl),φ (fun h=>absurd h.1 (by decide)),φ (fun h=>h7 h.2)] at he;cases ks with
  | nil=>cases he
  | cons x l=>
   have he:(aKi (shC x) (cD bd k x) (aDw (.mk 6 n s t (x::l) bs al) 0)).2=0:=he;obtain⟨_,u,_⟩:=pU he;rcases O rfl with e | e | e
   ·obtain⟨f',n',s',t',Y,Z,aa⟩:=x;have e:f'=2:=e;subst e;cases k with
    | zero=>rw[cD] at u;cases u
    | succ k=>rw[iP] at u;cases u
   ·exact pS.stuck k x (J x ζ) e (N x ζ) u
   ·exact h7 e.1
def Gs (k:Nat) (c r:Core):Prop:=pZ r∧(tA k c=true→gvC r=none∧(¬isR c→shC r=false)∧∀j,tA j r=false)
theorem aKj {P:Core→Prop}{l:List Core}(h:∀x∈l,P x) (u:P zC) (j:Nat):P (l.getD j zC):=by
 rw[B8];cases e:l[j]? with
 | none=>exact u
 | some x=>exact h x (η e)
theorem aO2 {l:List Core}:l.headD zC=l.getD 0 zC:=by cases l<;>rfl
theorem aYd (h:pS c) (h4:¬c.form=4):∀x∈c.kids,pZ x:=by
 obtain⟨f,n,s,t,ks,bs,al⟩:=c;have e:=h.bd.2.2.2.1;have h4:¬f=4:=h4;unfold tlK at e;rw[φ h4] at e;exact fun x hx=>⟨h.bd.2.2.1 x hx,e x hx⟩
theorem aSh (hbd:∀b∈bd,pZ b.body):∀(k:Nat) (c:Core),pS c→(cD bd k c).2=0→Gs k c (cD bd k c).1:=by
 intro k
 induction k with
 | zero=>intro c _ he;rw[cD] at he;cases he
 | succ k ih=>
 intro c h he;obtain⟨f,i,s,t,ks,bs,al⟩:=c;obtain⟨pb,pa,p3,p4,p5⟩:=h.bd;have Z:pZ zC:=kE;have O:∀j,¬f=6→(f=4→j=0)→(pT (cD bd k) (.mk f i s t ks bs al) j).2=0→
   ∃x y,ks[j]?=some x∧shC x=false∧(pT (cD bd k) (.mk f i s t ks bs al) j).1=.mk f i s t (ks.set j y) bs al∧pZ (.mk f i s t (ks.set j y) bs al)∧Gs k x y:=fun j h6 h4 he=>by
  unfold pT at he ⊢;cases hx:ks[j]? with
  | none=>
   have hx':(Core.mk f i s t ks bs al).kids[j]?=none:=hx;rw[hx'] at he;cases he
  | some x=>
   have hx':(Core.mk f i s t ks bs al).kids[j]?=some x:=hx;rw[hx'] at he ⊢;dsimp only at he ⊢;obtain⟨e1,e2,e3⟩:=pU he;have I:=ih x (p3 x (η hx)) e2;refine⟨x,_,rfl,e1,e3,qY h6 (fun y J=>?_) (fun y J=>?_) pb pa,I⟩
   ·exact(B5 J).elim (p3 y) fun e=>by rw[e];exact I.1.1
   ·unfold tlK at J p4;by_cases e:f=4
    ·rw[ξ e] at J p4;rw[h4 e,List.drop_set_of_lt (by decide)] at J;exact p4 y J
    ·rw[φ e] at J p4;exact(B5 J).elim (p4 y) fun e=>by rw[e];exact I.1.2
 have Y:∀{j:Nat} {x y:Core},ks[j]?=some x→(ks.set j y).getD j zC=y:=fun {j x y} hx=>by
  rw[B8,List.getElem?_set_self (Aa.1 hx).1];rfl
 have aa:∀{j:Nat} {x:Core},ks[j]?=some x→ks.getD j zC=x:=fun {j x} hx=>by rw[B8,hx];rfl
 rw[iP] at he ⊢;by_cases h1:f=1
 ·rw[ξ h1] at he ⊢;cases hf:bd.find? fun b=>decide (b.name=s) with
  | none=>rw[hf] at he;cases he
  | some b=>
   refine⟨hbd b (Bp hf),fun ht=>?_⟩;rw[aEf (by omega) (by omega) (by omega) (by omega)] at ht;cases ht
 rw[φ h1] at he ⊢;by_cases ab:f=4∨f=6
 ·rw[ξ ab] at he ⊢;by_cases ha:f=4∧(ks.headD zC).form=5
  ·rw[ξ ha];obtain⟨rfl,ha⟩:=ha;have hh:pS (ks.headD zC):=by rw[aO2];exact aKj p3 Z.1 0
   refine⟨(aJk _ _ _ _ ?_).to ?_,fun ht=>?_⟩
   ·cases ks with
    | nil=>exact Z
    | cons a l=>
     rw[show(a::l).getD 1 zC=l.getD 0 zC from rfl];exact aKj (fun x hx=>⟨p3 x (ω _ hx),p4 x hx⟩) Z 0
   ·rw[aO2 (l:=(ks.headD zC).kids)];exact aKj (aYd hh (by omega)) Z 0
   ·rw[mC,ξ rfl,ξ ha] at ht;cases ht
  rw[φ ha] at he ⊢;by_cases hb:f=6∧(ks.headD zC).form=7
  ·rw[ξ hb];obtain⟨rfl,hb⟩:=hb;have hh:pS (ks.headD zC):=by rw[aO2];exact aKj p3 Z.1 0
   have h5:((ks.headD zC).kids.headD zC).form=5:=by
    rcases p5 rfl with e | e | e
    ·omega
    ·omega
    ·exact e.2
   have hbR:pZ ((ks.headD zC).kids.headD zC):=by
    rw[aO2 (l:=(ks.headD zC).kids)];exact aKj (aYd hh (by omega)) Z 0
   have I:=aK2 (m30 ((ks.headD zC).kids.headD zC)) ((ks.headD zC).kids.headD zC) (ks.headD zC).name t;have e5:=(I hbR.1).2.2.2 (by omega)
   refine⟨I.to hbR,fun _=>?_⟩;rw[h5] at e5;refine⟨?_,fun N=>absurd ⟨rfl,hb⟩ N,fun j=>?_⟩
   all_goals dsimp only
   all_goals generalize sTR (m30 ((ks.headD zC).kids.headD zC)) ((ks.headD zC).kids.headD zC) (ks.headD zC).name t=r at e5 ⊢
   all_goals obtain⟨f',i',s',t',ks',bs',al'⟩:=r
   all_goals obtain rfl:f'=5:=e5
   ·rw[gvC];rfl
   ·exact aEf (by decide) (by decide) (by decide) (by decide) j
  rw[φ hb] at he ⊢;by_cases h6:f=6
  ·subst h6;refine absurd he fun he=>h.stuck (bd:=bd) (k+1) _ rfl (fun N=>hb ⟨rfl,N.2⟩) ?_
   rw[iP,φ (by decide),ξ ab,φ ha,φ hb];exact he
  obtain rfl:f=4:=by omega
  obtain⟨x,y,hx,hs,e,N,I⟩:=O 0 h6 (fun _=>rfl) he;rw[e];refine⟨N,fun ht=>?_⟩;have h5:¬(ks.headD zC).form=5:=fun e=>ha ⟨rfl,e⟩
  rw[mC,ξ rfl,φ h5,aO2,aa hx] at ht;obtain⟨g0,_,g2⟩:=I.2 ht;have J:(ks.set 0 y).headD zC=y:=by rw[aO2];exact Y hx
  have hgn:gvH (ks.set 0 y)=none:=by
   cases ks with
   | nil=>rfl
   | cons a l=>exact g0
  refine⟨aTs (aVi hgn),fun _=>aVi hgn,fun j=>?_⟩;cases j with
  | zero=>rfl
  | succ j=>
   rw[mC,ξ rfl,J,g2];split<;>rfl
 rw[φ ab] at he ⊢;have nt:∀{r:Core},tA (k+1) (.mk f i s t ks bs al)=false→pZ r→Gs (k+1) (.mk f i s t ks bs al) r:=fun h1 h2=>⟨h2,fun h=>by rw[h1] at h;cases h⟩
 have pk:∀x∈ks,pZ x:=aYd h (fun e=>ab (.inl e));have hh:pZ (ks.headD zC):=by rw[aO2];exact aKj pk Z 0
 by_cases h8:f=8
 ·rw[ξ h8];subst h8;refine nt (aEf (by decide) (by decide) (by decide) (by decide) _) (aVx _ _ hh fun b hb=>?_);obtain⟨y,J,rfl⟩:=Af.1 hb;exact qY (by decide) (fun x hx=>by rw[ε.1 hx];exact(pb y J).1) (fun x hx=>by rw[ε.1 hx];exact(pb y J).2) pb (by simp)
 rw[φ h8] at he ⊢;by_cases h9:f=9
 ·rw[ξ h9] at he ⊢;subst h9;by_cases ac:shC (ks.headD zC)=true
  ·rw[ξ ac] at he ⊢;refine nt (by rw[mC,φ (by decide),φ (by decide),ξ rfl,ξ ac]) ?_;cases hfs:al.findSome? fun x=>gH x (ks.headD zC) with
   | none=>rw[hfs] at he;cases he
   | some r=>
    obtain⟨x,hx,u⟩:=Cb hfs;have gx:=pa x hx;show pZ r;unfold gH at u;split at u
    ·cases u;exact gx
    split at u
    ·split at u
     ·cases u;exact gx
     ·cases u
    ·cases hgv:gvC (ks.headD zC) with
     | none=>rw[hgv] at u;cases u
     | some p=>
      rw[hgv] at u;dsimp only at u;split at u
      ·cases u;exact aVx _ _ gx (a2t _ hh.1 _ _ hgv)
      ·cases u
  ·rw[φ ac] at he ⊢;obtain⟨x,y,hx,hs,e,N,I⟩:=O 0 (by decide) (fun _=>rfl) he;rw[e];refine⟨N,fun ht=>⟨aTs (qV (.inl rfl)),fun _=>qV (.inl rfl),fun j=>?_⟩⟩;rw[mC,φ (by decide),φ (by decide),ξ rfl,φ ac,aO2,aa hx] at ht;cases j with
   | zero=>rfl
   | succ j=>
    rw[mC,φ (by decide),φ (by decide),ξ rfl,aO2,Y hx,(I.2 ht).2.2];split<;>rfl
 rw[φ h9] at he ⊢;by_cases h10:f=10
 ·rw[ξ h10] at he ⊢;subst h10;by_cases g1:¬shC (ks.headD zC)=true
  ·rw[ξ g1] at he ⊢;obtain⟨x,y,hx,hs,e,N,I⟩:=O 0 (by decide) (fun _=>rfl) he;rw[e];refine⟨N,fun ht=>⟨aTs (qV (.inr rfl)),fun _=>qV (.inr rfl),fun j=>?_⟩⟩;rw[mC,φ (by decide),φ (by decide),φ (by decide),ξ rfl,ξ g1,aO2,aa hx] at ht;obtain⟨_,q1,q2⟩:=I.2 ht;cases j with
   | zero=>rfl
   | succ j=>
    rw[mC,φ (by decide),φ (by decide),φ (by decide),ξ rfl,aO2,Y hx,ξ (by rw[q1 (pk x (η hx)).2];decide),q2]
  rw[φ g1] at he ⊢;by_cases g2:¬shC (ks.getD 1 zC)=true
  ·rw[ξ g2] at he ⊢;obtain⟨x,y,hx,hs,e,N,I⟩:=O 1 (by decide) (fun h=>by cases h) he;rw[e];refine⟨N,fun ht=>⟨aTs (qV (.inr rfl)),fun _=>qV (.inr rfl),fun j=>?_⟩⟩;rw[mC,φ (by decide),φ (by decide),φ (by decide),ξ rfl,φ g1,ξ g2,aa hx] at ht;obtain⟨_,q1,q2⟩:=I.2 ht;have e0:(ks.set 1 y).headD zC=ks.headD zC:=by cases ks<;>rfl
   cases j with
   | zero=>rfl
   | succ j=>
    rw[mC,φ (by decide),φ (by decide),φ (by decide),ξ rfl,e0,φ g1,Y hx,ξ (by rw[q1 (pk x (η hx)).2];decide),q2]
  rw[φ g2] at he ⊢;refine nt (by rw[mC,φ (by decide),φ (by decide),φ (by decide),ξ rfl,φ g1,φ g2]) ?_;split at he
  ·rename_i g3;rw[ξ g3];exact aYc he
  ·cases he
 rw[φ h10] at he;split at he<;>cases he
end
end Go.Proofs.YtockgoadliilhaaGreatDoor
