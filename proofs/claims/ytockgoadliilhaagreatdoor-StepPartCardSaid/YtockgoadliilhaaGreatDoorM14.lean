/-
  Texts Ly23 to Ly26 in one.
-/
import Derived.Test.YtockgoadliilhaaGreatDoorM13
open List (append_assoc append_nil flatMap_append flatMap_cons flatMap_nil length_append length_cons length_eq_one_iff length_map length_nil length_take map_append map_cons map_map mem_append mem_cons mem_cons_of_mem mem_cons_self mem_map mem_of_mem_take mem_singleton take_add_one take_succ_cons take_zero)
open Nat (le_refl le_trans mul_add mul_le_mul zero_le)
namespace Go.Proofs.YtockgoadliilhaaGreatDoor
open Go Go.AM
set_option maxRecDepth 20000
set_option maxHeartbeats 4000000
structure TM (V:List Str) (k:Nat) (t:Ty):Prop where
 wf:wfS t=true
 w:∀E ρ,(∀x,ρ x≤E)→tW j3 t ρ≤k+E
 v:∀x∈tfR t,x∈V
structure MW (V:List Str) (c:Core):Prop where
 q:cB (QL 403) c
 w:∀E ρ,(∀x,ρ x≤E)→cw j3 E c ρ≤3+E
 v:∀x∈tyR c,x∈V
section
variable {V:List Str}{k:Nat}
theorem TM.var {s:Str}(h:s∈V):TM V k (.mk 2 0 s []):=⟨rfl,fun E ρ I=>by rw[tW,θ rfl];have:=I s;omega,fun x hx=>by
 have:tfR (.mk 2 0 s [])=[s]:=by rw[tfR,θ rfl]
 rw[this] at hx;rw[Ac.1 hx];exact h⟩
theorem TM.con {s:Str}:TM V k (.mk 3 0 s []):=⟨rfl,fun E ρ I=>by
 have:tW j3 (.mk 3 0 s []) ρ=0:=by rw[tW,ψ (by decide),ψ (by decide),tWs];rfl
 omega,fun x hx=>by
 obtain⟨u,hu,_⟩:=xZ (by decide) hx
 cases hu⟩
theorem TM.z:TM V k zTy:=⟨rfl,fun E ρ I=>by
 have:tW j3 zTy ρ=0:=by unfold zTy;rw[tW,ψ (by decide),ψ (by decide),tWs];rfl
 omega,fun x hx=>by
 have:tfR zTy=[]:=rfl
 rw[this] at hx;cases hx⟩
theorem TM.app {a b:Ty}(ha:TM V k a) (hb:TM V k b):TM V k (.mk 4 0 [] [a,b]):=⟨by rw[wfS,aFt,aFt,aFt,ha.wf,hb.wf];rfl,fun E ρ I=>by
 have h1:=ha.w E ρ I;have h2:=hb.w E ρ I;have:tW j3 (.mk 4 0 [] [a,b]) ρ=max (tW j3 a ρ) (max (tW j3 b ρ) 0):=by rw[tW,ψ (by decide),ψ (by decide),tWs,tWs,tWs];rfl
 omega,fun x hx=>by
 obtain⟨u,hu,hy,_⟩:=xZ (by decide) hx;have:u=a∨u=b:=by simpa using hu
 rcases this with rfl | rfl
 ·exact ha.v x hy
 ·exact hb.v x hy⟩
theorem oT {f n:Int}{s:Str}{t:Ty}{ks:List Core}{bs:List Bind}{al:List Alt}(J:QL 403 f s t ks.length (bs.map bhd) (al.map ahd)) (ht:TM V 3 t) (hk:∀x∈ks,MW V x) (hb:∀b∈bs,TM V 3 b.ty∧MW V b.body) (ha:∀a∈al,MW V a.body):MW V (.mk f n s t ks bs al):=by
 refine⟨aS.2 ⟨J,fun x hx=>(hk x hx).q,fun x hx=>(hb x hx).2.q,fun x hx=>(ha x hx).q⟩,fun E ρ I=>eZ.2 ⟨by rw[dK];omega,ht.w E ρ I,fun x hx=>(hk x hx).w E _ fun y=>?_,fun x hx=>⟨(hb x hx).1.w E ρ I,(hb x hx).2.w E ρ I⟩,fun x hx=>(ha x hx).w E ρ I⟩,fun x hx=>?_⟩
 ·split
  ·unfold fO;split
   ·exact le_refl _
   ·exact I y
  ·exact I y
 ·rcases bI.1 hx with h | ⟨y,hy,h,_⟩ | ⟨y,hy,h | h⟩ | ⟨y,hy,h⟩
  ·exact ht.v x h
  ·exact(hk y hy).v x h
  ·exact(hb y hy).1.v x h
  ·exact(hb y hy).2.v x h
  ·exact(ha y hy).v x h
theorem aG4 {s:Str}(h:s.length≤30):w30 s=30:=by unfold w30;omega
theorem eJ {f:Int}{s:Str}{t:Ty}{nk:Nat}(hf:okF f nk 0 0=true) (h7:f=7→t=zTy∧¬s=[]) (ht:wfS t=true) (hs:s.length≤30) (h5:f=5→nh s):QL 403 f s t nk [] []:=
 ⟨hf,h7,ht,by simp,by unfold lw;rw[aG4 hs];decide,h5,by simp,by simp⟩
theorem ST.of {c:Core}(h:MW V c) (ht:tlC c≤6000) (hs:m30 c≤3500000) (n:Nat):ST n V c:=
 ⟨h.q,fun E _=>h.w E r0 fun _=>Ak _,h.v,ht,hs⟩
end
theorem aI3:∀s∈aOa,s.length≤30:=by decide
def pos (left:Int):Int:=((left-1).toNat:Int)
def qI (F:Int):Prop:=∀(v:Gv) (t:Ty) (n:Nat) (l:List Int) (left:Int),Gok v→7≤v.deep+F→v.deep≤8→GT n t→(n:Int)≤33+8*v.deep→Ok l→left≤100→ -1000≤left-3*pos left→
 ∃(c:Core) (l':List Int) (left':Int) (m:Nat),GC false (nmG v) m c∧Ok l'∧(left'≤left∧left-3*pos left-1≤left'-3*pos left'∧(m:Int)+4100*pos left'≤2000+4100*pos left)∧
  aW Tryz.prog 27 [.one (.vp 700 0),.pa (x7 v),tyV t] (mO l left) (.pa (aB c)) (mO l' left')
theorem aTs (F:Int) (hS:qI F) (v:Gv) (t:Ty) (n:Nat) (l:List Int) (left:Int) (hv:Gok v) (hF:7≤v.deep+1+F) (hd:v.deep≤6) (hg:GT n t) (hn:(n:Int)≤33+8*v.deep) (hl:Ok l) (hle:left≤100) (hlo: -1000≤left-3*pos left-2):
  ∃(c:Core) (l':List Int) (N:Int) (m:Nat),GC false (nmG v) m c∧Ok l'∧(N≤left∧left-3*pos left-3≤N-3*pos N∧(m:Int)+4100*pos N≤6050+4100*pos left)∧
   aW Tryz.prog 62 [.one (.vp 700 0),.pa (x7 v),tyV t] (mO l left) (.pa (aB c)) (mO l' N):=by
 have h0:=hv.d0;have hlen:=hv.len;have hvlen:=hv.vlen;obtain⟨tf,tn,ts,I⟩:=t;obtain⟨i,l1,hi,hl1,cN⟩:=j0 l left 4 (by decide) hl;have more:∀(v:Gv) (s:Str) (u:Ty) (k:Nat),Gok v→0≤v.deep→v.deep≤8→GT k u→k≤100→(s=[]∨s∈nm6)→Gok (dF v s u)∧aW Tryz.prog 60 [.pa (x7 v),Go.AM.T s,tyV u] [] (.pa (x7 (dF v s u))) []:=fun v s u k h h0 h8 hu hk hs=>by
  have:=h.len;exact⟨h.more hs hu hk,xD v s u (by omega) ⟨h0,by omega⟩⟩
 obtain⟨O,cM⟩:=more v [] (.mk tf tn ts I) n hv h0 (by omega) hg (by omega) (.inl rfl);have hd1:(dF v [] (.mk tf tn ts I)).deep=v.deep+1:=rfl;by_cases h1:i=0
 ·subst h1;obtain⟨W,l2,le2,m1,g1,hl2,⟨b1,b1',b1''⟩,cS1⟩:=hS (dF v [] (.mk tf tn ts I)) aSe 1 l1 left O (by omega) (by omega) (.con _ (by decide)) (by omega) hl1 hle (by omega);obtain⟨J,l3,le3,m2,g2,hl3,⟨b2,b2',b2''⟩,cS2⟩:=hS (dF v [] (.mk tf tn ts I)) (.mk tf tn ts I) n l2 le2 O (by omega) (by omega) hg (by omega) hl2 (by omega) (by omega);obtain⟨c3,l4,le4,m3,g3,hl4,⟨b3,b3',b3''⟩,cS3⟩:=hS (dF v [] (.mk tf tn ts I)) (.mk tf tn ts I) n l3 le3 O (by omega) (by omega) hg (by omega) hl3 (by omega) (by omega);refine⟨.mk 9 0 [] (.mk tf tn ts I) [W] [] [.mk 1 0 [84,114,117,101] [] J,.mk 1 0 [70,97,108,115,101] [] c3],l4,le4,m1+m2+m3+40,.case2 hg (by omega) g1.less g2.less0 g3.less0 (by decide) (by decide) (by decide) (by simp) (by decide) (.inl rfl) (by decide) (by decide) (by decide) (by simp) (by decide) (.inl rfl),hl4,⟨by omega,by omega,by omega⟩,?_⟩;refine bT (n:=152) tok Tryz.func62 rfl rfl rfl ?_;refine sg rfl (sg rfl (a8 (sk 1 rfl (kc cN ?_))));refine az (aC (sg rfl (aA rfl (fun _=>sk 3 rfl (kc cM ?_)) nofun)));refine kc (gD [66,111,111,108]) ?_;refine kc cS1 ?_;refine ak 3 [(6,.all)] rfl (az (aE mixed (ak 3 [] rfl (kc cM ?_))));refine ak 1 [] rfl (kc cS2 ?_);refine ak 4 [] rfl (kc cM ?_);refine ak 1 [] rfl (kc cS3 ?_);refine kz 4 rfl (AWp.sub (Sub.freeze (id:=76) rfl) ?_);refine AWp.sub (aw 76 ([.mk 1 0 [84,114,117,101] [] J,.mk 1 0 [70,97,108,115,101] [] c3].map cR)) ?_;refine AWp.sub (vp 7 (aB (.mk 9 0 [] (.mk tf tn ts I) [W] [] [.mk 1 0 [84,114,117,101] [] J,.mk 1 0 [70,97,108,115,101] [] c3]))) ?_;exact sg rfl (aI (rtC trw))
 by_cases h2:i=1
 ·subst h2;obtain⟨W,l2,le2,m1,g1,hl2,⟨b1,b1',b1''⟩,cS1⟩:=hS (dF v [] (.mk tf tn ts I)) aG5 1 l1 left O (by omega) (by omega) (.con _ (by decide)) (by omega) hl1 hle (by omega);obtain⟨j,l2b,hj,hl2b,cJ⟩:=j0 l2 le2 5 (by decide) hl2;obtain⟨J,l3,le3,m2,g2,hl3,⟨b2,b2',b2''⟩,cS2⟩:=hS (dF v [] (.mk tf tn ts I)) (.mk tf tn ts I) n l2b le2 O (by omega) (by omega) hg (by omega) hl2b (by omega) (by omega);obtain⟨c3,l4,le4,m3,g3,hl4,⟨b3,b3',b3''⟩,cS3⟩:=hS (dF v [] (.mk tf tn ts I)) (.mk tf tn ts I) n l3 le3 O (by omega) (by omega) hg (by omega) hl3 (by omega) (by omega);refine⟨.mk 9 0 [] (.mk tf tn ts I) [W] [] [.mk 2 ((j:Int)-1) [] [] J,.mk 3 0 [] [] c3],l4,le4,m1+m2+m3+40,.case2 hg (by omega) g1.less g2.less0 g3.less0 (by decide) (by omega) (by decide) (by simp) (by decide) (.inr rfl) (by decide) (by decide) (by decide) (by simp) (by decide) (.inr rfl),hl4,⟨by omega,by omega,by omega⟩,?_⟩;refine bT (n:=152) tok Tryz.func62 rfl rfl rfl ?_;refine sg rfl (sg rfl (a8 (sk 1 rfl (kc cN ?_))));refine az (aC (sg rfl (aA rfl nofun (fun _=>sg rfl (aA rfl (fun _=>sk 3 rfl (kc cM ?_)) nofun)))));refine kc (gD [73,110,116]) ?_;refine kc cS1 ?_;refine ak 3 [(6,.all)] rfl (az (aE mixed (ak 1 [] rfl (kc cJ ?_))));refine ak 4 [] rfl ?_ (hc:=by repeat (first | exact trivial | refine⟨by first | rfl | omega | (simp;omega) | (unfold Ty.name;simp;omega) | (simp;done),?_⟩));refine kc cM ?_;refine ak 1 [] rfl (kc cS2 ?_);refine ak 4 [] rfl (kc cM ?_);refine ak 1 [] rfl (kc cS3 ?_);refine kz 4 rfl (AWp.sub (Sub.freeze (id:=105) rfl) ?_);refine AWp.sub (aw 105 ([.mk 2 ((j:Int)-1) [] [] J,.mk 3 0 [] [] c3].map cR)) ?_;refine AWp.sub (vp 7 (aB (.mk 9 0 [] (.mk tf tn ts I) [W] [] [.mk 2 ((j:Int)-1) [] [] J,.mk 3 0 [] [] c3]))) ?_;exact sg rfl (aI (rtC trw))
 by_cases h3:i=2
 ·subst h3;obtain⟨⟨Y,un,us,Z⟩,l2,k,gu,hk,hl2,cU⟩:=x8 v.vars hv.vars (by omega) 1 2 (by omega) (by omega) l1 left hl1;have hk:k≤5:=hk;have gL:GT (1+k+1) (.mk 4 0 [] [.mk 3 0 [76] [],(.mk Y un us Z)]):=.app (.nm (by decide)) gu;obtain⟨W,l3,le3,m1,g1,hl3,⟨b1,b1',b1''⟩,cS1⟩:=hS (dF v [] (.mk tf tn ts I)) (.mk 4 0 [] [.mk 3 0 [76] [],(.mk Y un us Z)]) _ l2 left O (by omega) (by omega) gL (by omega) hl2 hle (by omega);obtain⟨hvx,cX⟩:=more v [120] (.mk Y un us Z) k hv h0 (by omega) gu (by omega) (.inr (by decide));obtain⟨hvy,cY⟩:=more (dF v [120] (.mk Y un us Z)) [121] (.mk 4 0 [] [.mk 3 0 [76] [],(.mk Y un us Z)]) _ hvx (by show 0≤v.deep+1;omega) (by show v.deep+1≤8;omega) gL (by omega) (.inr (by decide));have hdy:(dF (dF v [120] (.mk Y un us Z)) [121] (.mk 4 0 [] [.mk 3 0 [76] [],(.mk Y un us Z)])).deep=v.deep+1+1:=rfl;obtain⟨J,l4,le4,m2,g2,hl4,⟨b2,b2',b2''⟩,cS2⟩:=hS _ (.mk tf tn ts I) n l3 le3 hvy (by omega) (by omega) hg (by omega) hl3 (by omega) (by omega);obtain⟨c3,l5,le5,m3,g3,hl5,⟨b3,b3',b3''⟩,cS3⟩:=hS (dF v [] (.mk tf tn ts I)) (.mk tf tn ts I) n l4 le4 O (by omega) (by omega) hg (by omega) hl4 (by omega) (by omega);obtain⟨j,l6,hj,hl6,cJ⟩:=j0 l5 le5 3 (by decide) hl5;have walk:∀c:Core,c=(if j=0 then .mk 9 0 [] (.mk tf tn ts I) [W] [] [.mk 1 0 [67] [[120],[121]] J] else .mk 9 0 [] (.mk tf tn ts I) [W] [] [.mk 1 0 [67] [[120],[121]] J,.mk 1 0 [78] [] c3])→aW Tryz.prog 62 [.one (.vp 700 0),.pa (x7 v),tyV (.mk tf tn ts I)] (mO l left) (.pa (aB c)) (mO l6 le5):=by
   intro c hc;refine bT (n:=152) tok Tryz.func62 rfl rfl rfl ?_;refine sg rfl (sg rfl (a8 (sk 1 rfl (kc cN ?_))));refine az (aC (sg rfl (aA rfl nofun (fun _=>sg rfl (aA rfl nofun (fun _=>sg rfl (aA rfl (fun _=>sk 3 rfl (kc cU ?_)) nofun)))))));refine kz 2 rfl (a8 (aE mixed (kc (gD [76]) ?_)));refine ak 5 [(2,.all)] rfl (az (sk 3 rfl (kc cM ?_)));refine ak 1 [] rfl (kc cS1 ?_);refine ak 3 [(6,.all)] rfl (az (skh 4 [(0,.all)] rfl (kc cX ?_)));refine ak 1 [] rfl (kc cY ?_);refine ak 1 [] rfl (kc cS2 ?_);refine ak 4 [] rfl (kc cM ?_);refine ak 1 [] rfl (kc cS3 ?_);refine kz 4 rfl (AWp.sub (Sub.freeze (id:=142) rfl) ?_);refine AWp.sub (aw 142 ([.mk 1 0 [67] [[120],[121]] J,.mk 1 0 [78] [] c3].map cR)) ?_;refine AWp.sub (vp 7 (aB (.mk 9 0 [] (.mk tf tn ts I) [W] [] [.mk 1 0 [67] [[120],[121]] J,.mk 1 0 [78] [] c3]))) ?_;refine sk 1 rfl (kc cJ ?_);refine kz 1 rfl (aA rfl (fun hb=>?_) (fun hb=>?_))
   ·have hj0:j=0:=by have:=φ hb;omega
    rw[θ hj0] at hc;subst hc;exact ag [] rfl (sg rfl (aI (rtC trw))) (hc:=⟨by rw[aBz];simp[Core.alts],by decide,trivial⟩)
   ·have hj0:¬j=0:=by have:=δ hb;omega
    rw[ψ hj0] at hc;subst hc;exact aD (sg rfl (aI (rtC trw)))
  by_cases hj0:j=0
  ·refine⟨.mk 9 0 [] (.mk tf tn ts I) [W] [] [.mk 1 0 [67] [[120],[121]] J],l6,le5,m1+m2+20,.case1 hg (by omega) g1.less g2.in2 (by decide) (by decide) (by decide) (by decide) (by decide) (.inl rfl),hl6,⟨by omega,by omega,by omega⟩,walk _ (by rw[θ hj0])⟩
  ·refine⟨.mk 9 0 [] (.mk tf tn ts I) [W] [] [.mk 1 0 [67] [[120],[121]] J,.mk 1 0 [78] [] c3],l6,le5,m1+m2+m3+40,.case2 hg (by omega) g1.less g2.in2 g3.less0 (by decide) (by decide) (by decide) (by decide) (by decide) (.inl rfl) (by decide) (by decide) (by decide) (by simp) (by decide) (.inl rfl),hl6,⟨by omega,by omega,by omega⟩,walk _ (by rw[ψ hj0])⟩
 obtain⟨⟨Y,un,us,Z⟩,l2,k,gu,hk,hl2,cU⟩:=x8 v.vars hv.vars (by omega) 1 2 (by omega) (by omega) l1 left hl1;have hk:k≤5:=hk;obtain⟨⟨wf,wn,ws,wa⟩,l2b,kw,gw,hkw,hl2b,cW⟩:=x8 v.vars hv.vars (by omega) 1 2 (by omega) (by omega) l2 left hl2;have hkw:kw≤5:=hkw;have gL:GT (1+k+1+kw+1) (.mk 4 0 [] [.mk 4 0 [] [.mk 3 0 [80] [],(.mk Y un us Z)],(.mk wf wn ws wa)]):=.app (.app (.nm (by decide)) gu) gw;obtain⟨W,l3,le3,m1,g1,hl3,⟨b1,b1',b1''⟩,cS1⟩:=hS (dF v [] (.mk tf tn ts I)) (.mk 4 0 [] [.mk 4 0 [] [.mk 3 0 [80] [],(.mk Y un us Z)],(.mk wf wn ws wa)]) _ l2b left O (by omega) (by omega) gL (by omega) hl2b hle (by omega);obtain⟨hvx,cX⟩:=more v [121] (.mk Y un us Z) k hv h0 (by omega) gu (by omega) (.inr (by decide));obtain⟨hvy,cY⟩:=more (dF v [121] (.mk Y un us Z)) [97] (.mk wf wn ws wa) kw hvx (by show 0≤v.deep+1;omega) (by show v.deep+1≤8;omega) gw (by omega) (.inr (by decide));have hdy:(dF (dF v [121] (.mk Y un us Z)) [97] (.mk wf wn ws wa)).deep=v.deep+1+1:=rfl;obtain⟨J,l4,le4,m2,g2,hl4,⟨b2,b2',b2''⟩,cS2⟩:=hS _ (.mk tf tn ts I) n l3 le3 hvy (by omega) (by omega) hg (by omega) hl3 (by omega) (by omega);refine⟨.mk 9 0 [] (.mk tf tn ts I) [W] [] [.mk 1 0 [80] [[121],[97]] J],l4,le4,m1+m2+20,.case1 hg (by omega) g1.less g2.in2 (by decide) (by decide) (by decide) (by decide) (by decide) (.inl rfl),hl4,⟨by omega,by omega,by omega⟩,?_⟩;refine bT (n:=152) tok Tryz.func62 rfl rfl rfl ?_;refine sg rfl (sg rfl (a8 (sk 1 rfl (kc cN ?_))));refine az (aC (sg rfl (aA rfl (fun hb=>absurd (by have:=φ hb;omega) h1) (fun _=>sg rfl (aA rfl (fun hb=>absurd (by have:=φ hb;omega) h2) (fun _=>sg rfl (aA rfl (fun hb=>absurd (by have:=φ hb;omega) h3) (fun _=>sk 3 rfl (kc cU ?_)))))))));refine kz 2 rfl (sk 3 rfl (kc cW ?_));refine kz 2 rfl (a8 (aE mixed (kc (gD [80]) ?_)));refine ak 8 [(2,.all),(5,.all)] rfl (az (sk 3 rfl (kc cM ?_)));refine ak 1 [] rfl (kc cS1 ?_);refine ak 3 [(6,.all)] rfl (az (aE mixed (ak 4 [(0,.all)] rfl (kc cX ?_))));refine ak 1 [] rfl (kc cY ?_);refine ak 1 [] rfl (kc cS2 ?_);refine ak 4 [(10,.all)] rfl (az (AWp.sub (vp 7 (aB (.mk 9 0 [] (.mk tf tn ts I) [W] [] [.mk 1 0 [80] [[121],[97]] J]))) ?_));exact sg rfl (aI (rtC trw))
theorem y5 (F:Int) (hS:0≤F→qI F):qI (F+1):=by
 intro v t n l left hv hF hd hg hn hl hle hlo;have hM:1000000000≤maxLen:=by decide
 have h0:=hv.d0;have hlen:=hv.len;have hvlen:=hv.vlen;have hp0:0≤pos left:=by unfold pos;omega
 by_cases hlf:left-1<1∨6<v.deep
 ·obtain⟨c,l',m,gc,hm,hl',cL⟩:=aE4 n n t (le_refl _) hg (by omega) v l (left-1) hv (by omega) hl;have hp1:pos (left-1)≤pos left∧pos left≤pos (left-1)+1:=by unfold pos;omega
  refine⟨c,l',left-1,m,gc,hl',⟨by omega,by unfold pos at *;omega,by omega⟩,?_⟩;refine bT (n:=374) tok Tryz.func27 rfl rfl rfl ?_;refine sg rfl (sg rfl ?_ (hc:=by repeat (first | exact trivial | refine⟨by first | rfl | omega | (simp;omega) | (unfold Ty.name;simp;omega) | (simp;done),?_⟩)));refine a8 (a8 (agF 6 [] rfl rfl rfl (aA rfl (fun _=>sk 3 rfl (kc cL ?_)) (fun hb=>absurd hlf (by simpa using hb)))));exact kz 1 rfl (aI (rtC trw))
 have hF0:0≤F:=by omega
 have hps:pos (left-1)=pos left-1:=by unfold pos;omega
 have hp1:0≤pos (left-1):=by unfold pos;omega
 have more:∀(v:Gv) (s:Str) (u:Ty) (k:Nat),Gok v→0≤v.deep→v.deep≤8→GT k u→k≤100→(s=[]∨s∈nm6)→Gok (dF v s u)∧aW Tryz.prog 60 [.pa (x7 v),Go.AM.T s,tyV u] [] (.pa (x7 (dF v s u))) []:=fun v s u k h h0 h8 hu hk hs=>by
  have:=h.len;exact⟨h.more hs hu hk,xD v s u (by omega) ⟨h0,by omega⟩⟩
 obtain⟨hv1,cM⟩:=more v [] t n hv h0 (by omega) hg (by omega) (.inl rfl);have hd1:(dF v [] t).deep=v.deep+1:=rfl;obtain⟨i,l1,hi,hl1,cN⟩:=j0 l (left-1) 12 (by decide) hl;by_cases hi0:i=0
 ·obtain⟨u,W,k,gu,hk,N,cU⟩:=x8 v.vars hv.vars (by omega) 2 1 (by omega) (by omega) l1 (left-1) hl1;have hk:k≤13:=hk;obtain⟨s,l3,hs,hl3,cNm⟩:=aE3 W (left-1) v N;have hs6:s∈nm6:=ω.2 (.inl hs);obtain⟨hvs,cMs⟩:=more v s u k hv h0 (by omega) gu (by omega) (.inr hs6);have hds:(dF v s u).deep=v.deep+1:=rfl;obtain⟨c1,l4,O,m1,g1,Z,⟨b1,b1',b1''⟩,cS1⟩:=hS (by omega) (dF v s u) t n l3 (left-1) hvs (by omega) (by omega) hg (by omega) hl3 (by omega) (by omega);obtain⟨Y,l5,le2,m2,g2,hl5,⟨b2,b2',b2''⟩,cS2⟩:=hS (by omega) (dF v [] t) u k l4 O hv1 (by omega) (by omega) gu (by omega) Z (by omega) (by omega);have cA:=fR (.mk 5 0 s u [c1] [] []) Y;refine⟨.mk 4 0 [] zTy [.mk 5 0 s u [c1] [] [],Y] [] [],l5,le2,m1+4+m2+1,.app (.lam hs6 gu (by omega) g1.within) g2.less,hl5,⟨by omega,by omega,by omega⟩,?_⟩;refine bT (n:=374) tok Tryz.func27 rfl rfl rfl ?_;refine sg rfl (sg rfl ?_ (hc:=by repeat (first | exact trivial | refine⟨by first | rfl | omega | (simp;omega) | (unfold Ty.name;simp;omega) | (simp;done),?_⟩)));refine a8 (a8 (agF 6 [] rfl rfl rfl (aA rfl (fun hb=>absurd (by simpa using hb) hlf) (fun _=>aD (a8 (sk 1 rfl (kc cN ?_)))))));refine az (aC (sg rfl (aA rfl (fun _=>sk 3 rfl (kc (cU) ?_)) (fun hb=>absurd (δ hb) (by omega)))));refine kz 2 rfl (sk 2 rfl (kc (cNm) ?_));refine kz 1 rfl (sk 6 rfl (kc (cMs) ?_));refine ak 1 [] rfl (kc (cS1) ?_);refine ak 4 [(9,.all)] rfl (az (AWp.sub (vp 9 (aB (.mk 5 0 s u [c1] [] []))) ?_));refine sk 4 rfl (kc (cM) ?_);refine ak 1 [] rfl (kc (cS2) ?_);refine kc (cA) ?_;exact kz 1 rfl (aI (rtC trw))
 by_cases hi1:i=1
 ·obtain⟨u,W,k,gu,hk,N,cU⟩:=x8 v.vars hv.vars (by omega) 2 1 (by omega) (by omega) l1 (left-1) hl1;have hk:k≤13:=hk;obtain⟨s,l3,hs,hl3,cNm⟩:=aE3 W (left-1) v N;have hs6:s∈nm6:=ω.2 (.inl hs);obtain⟨hvs,cMs⟩:=more v s u k hv h0 (by omega) gu (by omega) (.inr hs6);have hds:(dF v s u).deep=v.deep+1:=rfl;obtain⟨c1,l4,O,m1,g1,Z,⟨b1,b1',b1''⟩,cS1⟩:=hS (by omega) (dF v s u) u k l3 (left-1) hvs (by omega) (by omega) gu (by omega) hl3 (by omega) (by omega);obtain⟨Y,l5,le2,m2,g2,hl5,⟨b2,b2',b2''⟩,cS2⟩:=hS (by omega) (dF v s u) t n l4 O hvs (by omega) (by omega) hg (by omega) Z (by omega) (by omega);refine⟨.mk 8 0 [] zTy [Y] [.mk s u c1] [],l5,le2,m2+m1+5,.lt hs6 gu (by omega) g2.within g1.within,hl5,⟨by omega,by omega,by omega⟩,?_⟩;refine bT (n:=374) tok Tryz.func27 rfl rfl rfl ?_;refine sg rfl (sg rfl ?_ (hc:=by repeat (first | exact trivial | refine⟨by first | rfl | omega | (simp;omega) | (unfold Ty.name;simp;omega) | (simp;done),?_⟩)));refine a8 (a8 (agF 6 [] rfl rfl rfl (aA rfl (fun hb=>absurd (by simpa using hb) hlf) (fun _=>aD (a8 (sk 1 rfl (kc cN ?_)))))));refine az (aC (sg rfl (aA rfl (fun hb=>absurd (by have:=φ hb;omega) hi0) (fun _=>sg rfl (aA rfl (fun _=>sk 3 rfl (kc (cU) ?_)) (fun hb=>absurd (δ hb) (by omega)))))));refine kz 2 rfl (sk 2 rfl (kc (cNm) ?_));refine kz 1 rfl (sk 3 rfl (kc (cMs) ?_));refine kz 2 rfl (sk 3 rfl (kc (cS1) ?_));refine kz 2 rfl (skh 8 [(4,.all)] rfl (kc (cS2) ?_));exact ak 3 [(9,.all)] rfl (az (aI (rtC trw)))
 by_cases hi2:i=2
 ·obtain⟨c1,W,O,m1,g1,N,⟨b1,b1',b1''⟩,cC⟩:=aTs F (hS (by omega)) v t n l1 (left-1) hv (by omega) (by omega) hg (by omega) hl1 (by omega) (by omega);refine⟨c1,W,O,m1,g1,N,⟨by omega,by omega,by omega⟩,?_⟩;refine bT (n:=374) tok Tryz.func27 rfl rfl rfl ?_;refine sg rfl (sg rfl ?_ (hc:=by repeat (first | exact trivial | refine⟨by first | rfl | omega | (simp;omega) | (unfold Ty.name;simp;omega) | (simp;done),?_⟩)));refine a8 (a8 (agF 6 [] rfl rfl rfl (aA rfl (fun hb=>absurd (by simpa using hb) hlf) (fun _=>aD (a8 (sk 1 rfl (kc cN ?_)))))));refine az (aC (sg rfl (aA rfl (fun hb=>absurd (by have:=φ hb;omega) hi0) (fun _=>sg rfl (aA rfl (fun hb=>absurd (by have:=φ hb;omega) hi1) (fun _=>sg rfl (aA rfl (fun _=>sk 3 rfl (kc (cC) ?_)) (fun hb=>absurd (δ hb) (by omega)))))))));exact kz 1 rfl (aI (rtC trw))
 by_cases hi3:i=3
 ·obtain⟨u,W,k,gu,hk,N,cU⟩:=x8 v.vars hv.vars (by omega) 2 1 (by omega) (by omega) l1 (left-1) hl1;have hk:k≤13:=hk;obtain⟨j,l3,hj,hl3,cJ⟩:=j0 W (left-1) 3 (by decide) N;have hj:j<3:=by omega
  obtain⟨s,hs⟩:∃s,([[97],[98],[99]]:List Str)[j]?=some s:=aK (by simpa using hj);have hs':=bJ bO hs;have hs1:s.length=1:=by
   have:j=0∨j=1∨j=2:=by omega
   rcases this with rfl | rfl | rfl<;>(simp at hs;subst hs;rfl)
  have hs8:s++[39]∈tvN:=by
   have:j=0∨j=1∨j=2:=by omega
   rcases this with rfl | rfl | rfl<;>(simp at hs;subst hs;decide)
  have gX:GT 1 (.mk 2 0 (s++[39]) []):=.var _ hs8
  have hvi:Gok ⟨v.l,v.vars++[s++[39]],v.deep+1⟩:=⟨hv.all,fun x hx=>by
   rcases ω.1 hx with hx | hx
   ·exact hv.vars x hx
   ·rw[Ac.1 hx];exact hs8,by show 0≤v.deep+1;omega,by show(v.l.length:Int)≤v.deep+1;omega,by show((v.vars++[s++[39]]).length:Int)≤v.deep+1+1;rw[Aa];simp only[Bk,List.length_nil];omega⟩
  obtain⟨hvp,cP⟩:=more ⟨v.l,v.vars++[s++[39]],v.deep+1⟩ [112] _ 1 hvi (by show 0≤v.deep+1;omega) (by show v.deep+1≤8;omega) gX (by omega) (.inr (by decide));have hdp:(dF ⟨v.l,v.vars++[s++[39]],v.deep+1⟩ [112] (.mk 2 0 (s++[39]) [])).deep=v.deep+1+1:=rfl;obtain⟨c1,l4,O,m1,g1,Z,⟨b1,b1',b1''⟩,cS1⟩:=hS (by omega) _ t n l3 (left-1) hvp (by omega) (by omega) hg (by omega) hl3 (by omega) (by omega);have cH:=aZx v.vars (s++[39]) (by unfold Fits;omega);have head:∀(c:Core) (l':List Int) (le':Int),(s++[39]∈v.vars→aW Tryz.prog 58 [.one (.vp 700 0),.pa (x7 v),tyV t] (mO l4 O) (.pa (aB c)) (mO l' le'))→
    (¬s++[39]∈v.vars→∃Y:Core,c=.mk 4 0 [] zTy [.mk 6 0 [] u [.mk 7 0 (s++[39]) zTy [.mk 5 0 [112] (.mk 2 0 (s++[39]) []) [c1] [] []] [] []] [] [],Y] [] []∧aW Tryz.prog 27 [.one (.vp 700 0),.pa (x7 (dF v [] t)),tyV u] (mO l4 O) (.pa (aB Y)) (mO l' le'))→
    aW Tryz.prog 27 [.one (.vp 700 0),.pa (x7 v),tyV t] (mO l left) (.pa (aB c)) (mO l' le'):=by
   intro c l' le' hA hB;refine bT (n:=374) tok Tryz.func27 rfl rfl rfl ?_;refine sg rfl (sg rfl ?_ (hc:=by repeat (first | exact trivial | refine⟨by first | rfl | omega | (simp;omega) | (unfold Ty.name;simp;omega) | (simp;done),?_⟩)));refine a8 (a8 (agF 6 [] rfl rfl rfl (aA rfl (fun hb=>absurd (by simpa using hb) hlf) (fun _=>aD (a8 (sk 1 rfl (kc cN ?_)))))));refine az (aC (sg rfl (aA rfl (fun hb=>absurd (by have:=φ hb;omega) hi0) (fun _=>sg rfl (aA rfl (fun hb=>absurd (by have:=φ hb;omega) hi1) (fun _=>sg rfl (aA rfl (fun hb=>absurd (by have:=φ hb;omega) hi2) (fun _=>sg rfl (aA rfl (fun _=>sk 3 rfl (kc (cU) ?_)) (fun hb=>absurd (δ hb) (by omega)))))))))));refine kz 2 rfl (sk 2 rfl (kc (cJ) ?_));refine ak 3 [(3,.row j []),(4,.row j (bO s))] rfl (az (sg rfl ?_ (hc:=by repeat (first | exact trivial | refine⟨by first | rfl | omega | (simp;omega) | (unfold Ty.name;simp;omega) | (simp;done),?_⟩))));refine sgh [(4,.all)] rfl (sg rfl ?_ (hc:=by repeat (first | exact trivial | refine⟨by first | rfl | omega | (simp;omega) | (unfold Ty.name;simp;omega) | (simp;done),?_⟩)));refine sg rfl ?_ (hc:=by repeat (first | exact trivial | refine⟨by first | rfl | omega | (simp;omega) | (unfold Ty.name;simp;omega) | (simp;done),?_⟩));refine AWp.sub (Sub.freeze (id:=132) rfl) ?_;rw[show v.vars.map bO++[[C.str (s++[39])]]=(v.vars++[s++[39]]).map bO by rw[As];rfl];refine AWp.sub (vp 16 (x7 ⟨v.l,v.vars++[s++[39]],v.deep+1⟩) (hp:=.c .refl (.hs rfl (by simp) (Go.AM.take_all (by simp)) (.c .refl .nil)))) ?_;refine AWp.sub (vp 17 (bD (.mk 2 0 (s++[39]) []))) ?_;refine sk 4 rfl (kc (cP) ?_);refine ak 1 [] rfl (kc (cS1) ?_);refine ak 4 [(7,.all)] rfl (az (AWp.sub (vp 18 (aB (.mk 5 0 [112] (.mk 2 0 (s++[39]) []) [c1] [] []))) ?_));refine a8 (sk 4 rfl ?_ (hc:=by repeat (first | exact trivial | refine⟨by first | rfl | omega | (simp;omega) | (unfold Ty.name;simp;omega) | (simp;done),?_⟩)));refine kc cH ?_;refine az (aA rfl (fun hb=>?_) (fun hb=>?_))
   ·have cLf:=hA (φ hb);refine sk 3 rfl (kc (cLf) ?_);exact kz 1 rfl (aI (rtC trw))
   obtain⟨Y,rfl,cS2⟩:=hB (δ hb);have cA:=fR (.mk 6 0 [] u [.mk 7 0 (s++[39]) zTy [.mk 5 0 [112] (.mk 2 0 (s++[39]) []) [c1] [] []] [] []] [] []) Y;refine aD (sgh [(3,.all)] rfl ?_ (hc:=by repeat (first | exact trivial | refine⟨by first | rfl | omega | (simp;omega) | (unfold Ty.name;simp;omega) | (simp;done),?_⟩)));refine AWp.sub (vp 19 (aB (.mk 7 0 (s++[39]) zTy [.mk 5 0 [112] (.mk 2 0 (s++[39]) []) [c1] [] []] [] []))) ?_;refine skh 7 [(2,.all)] rfl (kc (cM) ?_);refine ak 1 [] rfl (kc (cS2) ?_);refine kc (cA) ?_;exact kz 1 rfl (aI (rtC trw))
  by_cases hH:s++[39]∈v.vars
  ·obtain⟨Y,l5,m2,g2,hm2,hl5,cLf⟩:=aE4 n n t (le_refl _) hg (by omega) v l4 O hv (by omega) Z;exact⟨Y,l5,O,m2,g2,hl5,⟨by omega,by omega,by omega⟩,head _ _ _ (fun _=>cLf) (fun h=>absurd hH h)⟩
  ·obtain⟨Y,l5,le2,m2,g2,hl5,⟨b2,b2',b2''⟩,cS2⟩:=hS (by omega) (dF v [] t) u k l4 O hv1 (by omega) (by omega) gu (by omega) Z (by omega) (by omega);exact⟨_,l5,le2,m1+4+20+1+m2+1,.tr gu (by omega) hs8 (by decide) gX (by omega) g1.within g2.less,hl5,⟨by omega,by omega,by omega⟩,head _ _ _ (fun h=>absurd h hH) (fun _=>⟨Y,rfl,cS2⟩)⟩
 by_cases hi4:i=4
 ·obtain⟨u,W,k,gu,hk,N,cU⟩:=x8 v.vars hv.vars (by omega) 1 2 (by omega) (by omega) l1 (left-1) hl1;have hk:k≤5:=hk;have gF:GT (k+n+3) (iR u t):=gu.fn hg;have cFn:=sP u t;obtain⟨c1,l3,O,m1,g1,hl3,⟨b1,b1',b1''⟩,cS1⟩:=hS (by omega) (dF v [] t) (iR u t) (k+n+3) W (left-1) hv1 (by omega) (by omega) gF (by omega) N (by omega) (by omega);obtain⟨Y,l4,le2,m2,g2,Z,⟨b2,b2',b2''⟩,cS2⟩:=hS (by omega) (dF v [] t) u k l3 O hv1 (by omega) (by omega) gu (by omega) hl3 (by omega) (by omega);have cA:=fR c1 Y;refine⟨.mk 4 0 [] zTy [c1,Y] [] [],l4,le2,m1+m2+1,.app g1.less g2.less,Z,⟨by omega,by omega,by omega⟩,?_⟩;refine bT (n:=374) tok Tryz.func27 rfl rfl rfl ?_;refine sg rfl (sg rfl ?_ (hc:=by repeat (first | exact trivial | refine⟨by first | rfl | omega | (simp;omega) | (unfold Ty.name;simp;omega) | (simp;done),?_⟩)));refine a8 (a8 (agF 6 [] rfl rfl rfl (aA rfl (fun hb=>absurd (by simpa using hb) hlf) (fun _=>aD (a8 (sk 1 rfl (kc cN ?_)))))));refine az (aC (sg rfl (aA rfl (fun hb=>absurd (by have:=φ hb;omega) hi0) (fun _=>sg rfl (aA rfl (fun hb=>absurd (by have:=φ hb;omega) hi1) (fun _=>sg rfl (aA rfl (fun hb=>absurd (by have:=φ hb;omega) hi2) (fun _=>sg rfl (aA rfl (fun hb=>absurd (by have:=φ hb;omega) hi3) (fun _=>sg rfl (aA rfl (fun _=>sk 3 rfl (kc (cU) ?_)) (fun hb=>absurd (δ hb) (by omega)))))))))))));refine ak 1 [] rfl (kc (cFn) ?_);refine kz 2 rfl (sk 3 rfl (kc (cM) ?_));refine ak 1 [] rfl (kc (cS1) ?_);refine ak 3 [] rfl (kc (cM) ?_);refine ak 7 [(12,.row 0 (bD (aM6 (.mk 3 0 arrow []) u))),(15,.row 1 (bD u))] rfl (kc (cS2) ?_);refine kc (cA) ?_;exact kz 1 rfl (aI (rtC trw))
 obtain⟨J,L,hLg,hLn,cSp⟩:=aK8 hg (by omega);by_cases hI:bb J.form J.name [73,110,116]=true
 ·obtain⟨j,W,hj,N,cJ⟩:=j0 l1 (left-1) 4 (by decide) hl1;have hj:j<4:=by omega
  obtain⟨s,hs⟩:∃s,([[97,100,100],[115,117,98],[109,117,108],[100,105,118]]:List Str)[j]?=some s:=aK (by simpa using hj);have hs':=bJ bO hs;have hsp:s∈aOa:=by
   have:j=0∨j=1∨j=2∨j=3:=by omega
   rcases this with rfl | rfl | rfl | rfl<;>(simp at hs;subst hs;decide)
  obtain⟨c1,l3,O,m1,g1,hl3,⟨b1,b1',b1''⟩,cS1⟩:=hS (by omega) (dF v [] t) t n W (left-1) hv1 (by omega) (by omega) hg (by omega) N (by omega) (by omega);obtain⟨Y,l4,le2,m2,g2,Z,⟨b2,b2',b2''⟩,cS2⟩:=hS (by omega) (dF v [] t) t n l3 O hv1 (by omega) (by omega) hg (by omega) hl3 (by omega) (by omega);refine⟨.mk 10 0 s zTy [c1,Y] [] [],l4,le2,m1+m2+5,.prim hsp g1.less g2.less,Z,⟨by omega,by omega,by omega⟩,?_⟩;refine bT (n:=374) tok Tryz.func27 rfl rfl rfl ?_;refine sg rfl (sg rfl ?_ (hc:=by repeat (first | exact trivial | refine⟨by first | rfl | omega | (simp;omega) | (unfold Ty.name;simp;omega) | (simp;done),?_⟩)));refine a8 (a8 (agF 6 [] rfl rfl rfl (aA rfl (fun hb=>absurd (by simpa using hb) hlf) (fun _=>aD (a8 (sk 1 rfl (kc cN ?_)))))));refine az (aC (sg rfl (aA rfl (fun hb=>absurd (by have:=φ hb;omega) hi0) (fun _=>sg rfl (aA rfl (fun hb=>absurd (by have:=φ hb;omega) hi1) (fun _=>sg rfl (aA rfl (fun hb=>absurd (by have:=φ hb;omega) hi2) (fun _=>sg rfl (aA rfl (fun hb=>absurd (by have:=φ hb;omega) hi3) (fun _=>sg rfl (aA rfl (fun hb=>absurd (by have:=φ hb;omega) hi4) (fun _=>aD (sk 1 rfl (kc (cSp) ?_))))))))))))));refine kz 6 rfl (a8 (aC (a8 (agF 4 [] rfl rfl rfl (aA rfl (fun _=>sk 2 rfl (kc (cJ) ?_)) (fun hb=>by have:=hI.symm.trans hb;cases this))))));refine ak 3 [(3,.row j []),(4,.row j (bO s))] rfl (az (sk 4 rfl (kc (cM) ?_)));refine ak 1 [] rfl (kc (cS1) ?_);refine ak 3 [] rfl (kc (cM) ?_);refine ak 1 [] rfl (kc (cS2) ?_);exact ak 3 [(13,.all)] rfl (az (aI (rtC trw)))
 by_cases hB:bb J.form J.name [66,111,111,108]=true
 ·obtain⟨j,W,hj,N,cJ⟩:=j0 l1 (left-1) 2 (by decide) hl1;have hj:j<2:=by omega
  obtain⟨s,hs⟩:∃s,([[101,113],[108,116]]:List Str)[j]?=some s:=aK (by simpa using hj);have hs':=bJ bO hs;have hsp:s∈aOa:=by
   have:j=0∨j=1:=by omega
   rcases this with rfl | rfl<;>(simp at hs;subst hs;decide)
  have gI:GT 1 aG5:=.con _ (by decide);obtain⟨c1,l3,O,m1,g1,hl3,⟨b1,b1',b1''⟩,cS1⟩:=hS (by omega) (dF v [] t) aG5 1 W (left-1) hv1 (by omega) (by omega) gI (by omega) N (by omega) (by omega);obtain⟨Y,l4,le2,m2,g2,Z,⟨b2,b2',b2''⟩,cS2⟩:=hS (by omega) (dF v [] t) aG5 1 l3 O hv1 (by omega) (by omega) gI (by omega) hl3 (by omega) (by omega);refine⟨.mk 10 0 s zTy [c1,Y] [] [],l4,le2,m1+m2+5,.prim hsp g1.less g2.less,Z,⟨by omega,by omega,by omega⟩,?_⟩;refine bT (n:=374) tok Tryz.func27 rfl rfl rfl ?_;refine sg rfl (sg rfl ?_ (hc:=by repeat (first | exact trivial | refine⟨by first | rfl | omega | (simp;omega) | (unfold Ty.name;simp;omega) | (simp;done),?_⟩)));refine a8 (a8 (agF 6 [] rfl rfl rfl (aA rfl (fun hb=>absurd (by simpa using hb) hlf) (fun _=>aD (a8 (sk 1 rfl (kc cN ?_)))))));refine az (aC (sg rfl (aA rfl (fun hb=>absurd (by have:=φ hb;omega) hi0) (fun _=>sg rfl (aA rfl (fun hb=>absurd (by have:=φ hb;omega) hi1) (fun _=>sg rfl (aA rfl (fun hb=>absurd (by have:=φ hb;omega) hi2) (fun _=>sg rfl (aA rfl (fun hb=>absurd (by have:=φ hb;omega) hi3) (fun _=>sg rfl (aA rfl (fun hb=>absurd (by have:=φ hb;omega) hi4) (fun _=>aD (sk 1 rfl (kc (cSp) ?_))))))))))))));refine kz 6 rfl (a8 (aC (a8 (agF 4 [] rfl rfl rfl (aA rfl (fun hb=>absurd hb hI) (fun _=>a8 (agF 4 [] rfl rfl rfl (aA rfl (fun _=>a8 (aE mixed (kc (gD [73,110,116]) ?_))) (fun hb=>by have:=hB.symm.trans hb;cases this)))))))));refine kz 2 rfl (sk 2 rfl (kc (cJ) ?_));refine ak 5 [(3,.row j []),(4,.row j (bO s))] rfl (kc (cM) ?_);refine ak 1 [] rfl (kc (cS1) ?_);refine ak 3 [] rfl (kc (cM) ?_);refine ak 1 [] rfl (kc (cS2) ?_);exact ak 3 [(17,.all)] rfl (az (aI (rtC trw)))
 have hl2e:∃W,Ok W∧(((bb J.form J.name [76]=true∧L.length=1)∧∃j:Nat,j=0∧aW Tryz.prog 25 [.one (.vp 700 0),I .i64 3] (mO l1 (left-1)) (I .i64 j) (mO W (left-1)))∨(¬(bb J.form J.name [76]=true∧L.length=1)∧W=l1))∨((bb J.form J.name [76]=true∧L.length=1)∧Ok W∧∃j:Nat,0<j∧aW Tryz.prog 25 [.one (.vp 700 0),I .i64 3] (mO l1 (left-1)) (I .i64 j) (mO W (left-1))):=by
  by_cases hX:bb J.form J.name [76]=true∧L.length=1
  ·obtain⟨j,W,_,N,cJ⟩:=j0 l1 (left-1) 3 (by decide) hl1;by_cases hj:j=0
   ·exact⟨W,.inl ⟨N,.inl ⟨hX,j,hj,cJ⟩⟩⟩
   ·exact⟨W,.inr ⟨hX,N,j,by omega,cJ⟩⟩
  ·exact⟨l1,.inl ⟨hl1,.inr ⟨hX,rfl⟩⟩⟩
 obtain⟨W,⟨N,hl12⟩ | ⟨hX,N,j,hj,cJ⟩⟩:=hl2e
 rotate_left
 ·obtain⟨x,rfl⟩:∃x,L=[x]:=Bp.1 hX.2;obtain⟨e3,e4⟩:=oP hX.1;have d3:decide (J.form=3)=true:=Ai e3;have d4:decide (J.name=[76])=true:=Ai e4;obtain⟨kx,_,gx,_,hkx⟩:=hLg;have cG:=nX [67] [x] (by simp);obtain⟨c1,l3,O,m1,g1,hl3,⟨b1,b1',b1''⟩,cS1⟩:=hS (by omega) (dF v [] t) x kx W (left-1) hv1 (by omega) (by omega) gx (by omega) N (by omega) (by omega);obtain⟨Y,l4,le2,m2,g2,Z,⟨b2,b2',b2''⟩,cS2⟩:=hS (by omega) (dF v [] t) t n l3 O hv1 (by omega) (by omega) hg (by omega) hl3 (by omega) (by omega);have cA1:=fR (gZ [67] [x]) c1;have cA2:=fR (.mk 4 0 [] zTy [gZ [67] [x],c1] [] []) Y;refine⟨.mk 4 0 [] zTy [.mk 4 0 [] zTy [gZ [67] [x],c1] [] [],Y] [] [],l4,le2,9+1+m1+1+m2+1,.app (.app (.tc (by decide) gx (by omega)) g1.less) g2.less,Z,⟨by omega,by omega,by omega⟩,?_⟩;refine bT (n:=374) tok Tryz.func27 rfl rfl rfl ?_;refine sg rfl (sg rfl ?_ (hc:=by repeat (first | exact trivial | refine⟨by first | rfl | omega | (simp;omega) | (unfold Ty.name;simp;omega) | (simp;done),?_⟩)));refine a8 (a8 (agF 6 [] rfl rfl rfl (aA rfl (fun hb=>absurd (by simpa using hb) hlf) (fun _=>aD (a8 (sk 1 rfl (kc cN ?_)))))));refine az (aC (sg rfl (aA rfl (fun hb=>absurd (by have:=φ hb;omega) hi0) (fun _=>sg rfl (aA rfl (fun hb=>absurd (by have:=φ hb;omega) hi1) (fun _=>sg rfl (aA rfl (fun hb=>absurd (by have:=φ hb;omega) hi2) (fun _=>sg rfl (aA rfl (fun hb=>absurd (by have:=φ hb;omega) hi3) (fun _=>sg rfl (aA rfl (fun hb=>absurd (by have:=φ hb;omega) hi4) (fun _=>aD (sk 1 rfl (kc (cSp) ?_))))))))))))));refine kz 6 rfl (a8 (aC (a8 (agF 4 [] rfl rfl rfl (aA rfl (fun hb=>absurd hb hI) (fun _=>a8 (agF 4 [] rfl rfl rfl (aA rfl (fun hb=>absurd hb hB) (fun _=>skh 15 [(3,.bv true),(7,.bv true),(8,.bv true),(12,.bv true)] rfl (kcG cJ ?_))))))))));refine ak 3 [(17,.bv true)] rfl (az (aA rfl (fun _=>sk 1 rfl (kc (cG) ?_)) (fun hb=>absurd (δ hb) (by omega))));refine ak 3 [] rfl (kc (cM) ?_);refine ak 3 [(7,.row 0 []),(8,.row 0 (bD x))] rfl (kc (cS1) ?_);refine kc (cA1) ?_;refine ak 3 [] rfl (kc (cM) ?_);refine ak 1 [] rfl (kc (cS2) ?_);refine kc (cA2) ?_;exact kz 1 rfl (aI (rtC trw))
 by_cases hP:bb J.form J.name [80]=true∧L.length=2
 ·obtain⟨x,y,rfl⟩:∃x y,L=[x,y]:=by
   match L,hP.2 with
   | [x,y],_=>exact⟨x,y,rfl⟩
  obtain⟨e3,e4⟩:=oP hP.1;have d3:decide (J.form=3)=true:=Ai e3;have d4:decide (J.name=[76])=false:=by rw[e4];rfl
  obtain⟨kx,mx,gx,⟨ky,_,gy,_,hky⟩,hkx⟩:=hLg;have cG:=nX [80] [x,y] (by simp);obtain⟨c1,l3,O,m1,g1,hl3,⟨b1,b1',b1''⟩,cS1⟩:=hS (by omega) (dF v [] t) x kx l1 (left-1) hv1 (by omega) (by omega) gx (by omega) hl1 (by omega) (by omega);obtain⟨Y,l4,le2,m2,g2,Z,⟨b2,b2',b2''⟩,cS2⟩:=hS (by omega) (dF v [] t) y ky l3 O hv1 (by omega) (by omega) gy (by omega) hl3 (by omega) (by omega);have cA1:=fR (gZ [80] [x,y]) c1;have cA2:=fR (.mk 4 0 [] zTy [gZ [80] [x,y],c1] [] []) Y;refine⟨.mk 4 0 [] zTy [.mk 4 0 [] zTy [gZ [80] [x,y],c1] [] [],Y] [] [],l4,le2,9+1+1+m1+1+m2+1,.app (.app (.tc2 (by decide) gx (by omega) gy (by omega)) g1.less) g2.less,Z,⟨by omega,by omega,by omega⟩,?_⟩;refine bT (n:=374) tok Tryz.func27 rfl rfl rfl ?_;refine sg rfl (sg rfl ?_ (hc:=by repeat (first | exact trivial | refine⟨by first | rfl | omega | (simp;omega) | (unfold Ty.name;simp;omega) | (simp;done),?_⟩)));refine a8 (a8 (agF 6 [] rfl rfl rfl (aA rfl (fun hb=>absurd (by simpa using hb) hlf) (fun _=>aD (a8 (sk 1 rfl (kc cN ?_)))))));refine az (aC (sg rfl (aA rfl (fun hb=>absurd (by have:=φ hb;omega) hi0) (fun _=>sg rfl (aA rfl (fun hb=>absurd (by have:=φ hb;omega) hi1) (fun _=>sg rfl (aA rfl (fun hb=>absurd (by have:=φ hb;omega) hi2) (fun _=>sg rfl (aA rfl (fun hb=>absurd (by have:=φ hb;omega) hi3) (fun _=>sg rfl (aA rfl (fun hb=>absurd (by have:=φ hb;omega) hi4) (fun _=>aD (sk 1 rfl (kc (cSp) ?_))))))))))))));refine kz 6 rfl (a8 (aC (a8 (agF 4 [] rfl rfl rfl (aA rfl (fun hb=>absurd hb hI) (fun _=>a8 (agF 4 [] rfl rfl rfl (aA rfl (fun hb=>absurd hb hB) (fun _=>sgh [(3,.bv true),(7,.bv true),(8,.bv false),(12,.bv false)] rfl (aA rfl nofun (fun _=>a8 (agF 4 [] rfl rfl rfl (aA rfl (fun _=>?_) (fun hb=>?_))))))))))))))
  ·refine sk 1 rfl (kc (cG) ?_);refine ak 3 [] rfl (kc (cM) ?_);refine ak 3 [(7,.row 0 []),(8,.row 0 (bD x))] rfl (kc (cS1) ?_);refine kc (cA1) ?_;refine ak 3 [] rfl (kc (cM) ?_);refine ak 3 [(16,.row 1 []),(17,.row 1 (bD y))] rfl (kc (cS2) ?_);refine kc (cA2) ?_;exact kz 1 rfl (aI (rtC trw))
  ·exfalso;simp[e3,e4] at hb
 rcases uD hg with⟨m1,m2,a,b,ga,gb,hnm,hte,cF⟩ | cF
 ·obtain⟨s,l3,hs,hl3,cNm⟩:=aE3 W (left-1) v N;have hs6:s∈nm6:=ω.2 (.inl hs);obtain⟨hvs,cMs⟩:=more v s a m1 hv h0 (by omega) ga (by omega) (.inr hs6);have hds:(dF v s a).deep=v.deep+1:=rfl;obtain⟨c3,l4,le3,m3,g3,Z,⟨b3,b3',b3''⟩,cS3⟩:=hS (by omega) (dF v s a) b m2 l3 (left-1) hvs (by omega) (by omega) gb (by omega) hl3 (by omega) (by omega);refine⟨.mk 5 0 s a [c3] [] [],l4,le3,m3+4,.lam hs6 ga (by omega) g3.within,Z,⟨by omega,by omega,by omega⟩,?_⟩;refine bT (n:=374) tok Tryz.func27 rfl rfl rfl ?_;refine sg rfl (sg rfl ?_ (hc:=by repeat (first | exact trivial | refine⟨by first | rfl | omega | (simp;omega) | (unfold Ty.name;simp;omega) | (simp;done),?_⟩)));refine a8 (a8 (agF 6 [] rfl rfl rfl (aA rfl (fun hb=>absurd (by simpa using hb) hlf) (fun _=>aD (a8 (sk 1 rfl (kc cN ?_)))))));refine az (aC (sg rfl (aA rfl (fun hb=>absurd (by have:=φ hb;omega) hi0) (fun _=>sg rfl (aA rfl (fun hb=>absurd (by have:=φ hb;omega) hi1) (fun _=>sg rfl (aA rfl (fun hb=>absurd (by have:=φ hb;omega) hi2) (fun _=>sg rfl (aA rfl (fun hb=>absurd (by have:=φ hb;omega) hi3) (fun _=>sg rfl (aA rfl (fun hb=>absurd (by have:=φ hb;omega) hi4) (fun _=>aD (sk 1 rfl (kc (cSp) ?_))))))))))))));refine kz 6 rfl (a8 (aC (a8 (agF 4 [] rfl rfl rfl (aA rfl (fun hb=>absurd hb hI) (fun _=>a8 (agF 4 [] rfl rfl rfl (aA rfl (fun hb=>absurd hb hB) (fun _=>a8 (AWp.cut (mk [(0,.one (.vp 700 0)),(4,.one (.vp 4 0)),(5,.one (.vp 5 0)),(6,.one (.vp 6 0)),(21,.one (.vp 21 0)),(22,.one (.hs 510 0 L.length L.length)),(268,B false)] ([(4,.var 78 (vRt v)),(5,.var 33 (tR t)),(6,.var 37 [.c (.int .i64 0),.c (.int .i64 0),.c (.str []),.c (.int .i64 0),.c (.int .i64 0),.c (.str []),.c .nl,.c .nl,.c .nl,.c .nl]),(21,.var 33 (tR J)),(510,.arr 33 4 (L.map bD) 2)]++mO W (left-1))) ?_ ?_))))))))))
  ·rcases hl12 with⟨hX,j,hj0,cJ⟩ | ⟨hX,rfl⟩
   ·obtain⟨e3,e4⟩:=oP hX.1;have d3:decide (J.form=3)=true:=Ai e3;have d4:decide (J.name=[76])=true:=Ai e4;have d5:decide ((L.length:Int)=1)=true:=Ai (by rw[hX.2];rfl);subst hj0;refine aE mixed (ak 15 [(3,.bv true),(7,.bv true),(8,.bv true),(12,.bv true),(13,.bv true)] rfl (kcG cJ ?_ (hw:=d5)));exact ak 3 [(13,.bv true),(17,.bv true)] rfl (az sl)
   ·by_cases e3:J.form=3
    ·have d3:decide (J.form=3)=true:=Ai e3;by_cases e4:J.name=[76]
     ·have d4:decide (J.name=[76])=true:=Ai e4;have e5:¬L.length=1:=fun h=>hX ⟨by unfold bb;rw[d3,d4];rfl,h⟩
      have d5:decide ((L.length:Int)=1)=false:=Am (by omega);exact ag [(3,.bv true),(7,.bv true),(8,.bv true),(12,.bv true),(13,.bv false),(17,.bv false)] rfl sl
     ·have d4:decide (J.name=[76])=false:=Am e4;exact ag [(3,.bv true),(7,.bv true),(8,.bv false),(12,.bv false)] rfl sl
    ·have d3:decide (J.form=3)=false:=Am e3;exact ag [(3,.bv false),(7,.bv false)] rfl sl
  refine aA rfl nofun (fun _=>a8 (agF 4 [] rfl rfl rfl (aA rfl (fun hb=>absurd (aFh hb) hP) (fun _=>aD (a8 (sk 1 rfl (kc cF ?_)))))));refine az (aA rfl (fun _=>?_) nofun);subst hte;refine sk 2 rfl (kc (cNm) ?_);refine kz 1 rfl (skh 18 [(3,.row 0 (bD (aM6 (.mk 3 0 arrow []) a))),(6,.row 1 (bD a)),(13,.row 0 (bD (aM6 (.mk 3 0 arrow []) a))),(16,.row 1 (bD a))] rfl (kc (cMs) ?_));refine ak 4 [(21,.row 1 (bD b))] rfl (kc (cS3) ?_);exact ak 3 [(24,.all)] rfl (az (aI (rtC trw)))
 ·obtain⟨Y,l5,m2,g2,hm2,hl5,cLf⟩:=aE4 n n t (le_refl _) hg (by omega) v W (left-1) hv (by omega) N;refine⟨Y,l5,left-1,m2,g2,hl5,⟨by omega,by omega,by omega⟩,?_⟩;refine bT (n:=374) tok Tryz.func27 rfl rfl rfl ?_;refine sg rfl (sg rfl ?_ (hc:=by repeat (first | exact trivial | refine⟨by first | rfl | omega | (simp;omega) | (unfold Ty.name;simp;omega) | (simp;done),?_⟩)));refine a8 (a8 (agF 6 [] rfl rfl rfl (aA rfl (fun hb=>absurd (by simpa using hb) hlf) (fun _=>aD (a8 (sk 1 rfl (kc cN ?_)))))));refine az (aC (sg rfl (aA rfl (fun hb=>absurd (by have:=φ hb;omega) hi0) (fun _=>sg rfl (aA rfl (fun hb=>absurd (by have:=φ hb;omega) hi1) (fun _=>sg rfl (aA rfl (fun hb=>absurd (by have:=φ hb;omega) hi2) (fun _=>sg rfl (aA rfl (fun hb=>absurd (by have:=φ hb;omega) hi3) (fun _=>sg rfl (aA rfl (fun hb=>absurd (by have:=φ hb;omega) hi4) (fun _=>aD (sk 1 rfl (kc (cSp) ?_))))))))))))));refine kz 6 rfl (a8 (aC (a8 (agF 4 [] rfl rfl rfl (aA rfl (fun hb=>absurd hb hI) (fun _=>a8 (agF 4 [] rfl rfl rfl (aA rfl (fun hb=>absurd hb hB) (fun _=>a8 (AWp.cut (mk [(0,.one (.vp 700 0)),(4,.one (.vp 4 0)),(5,.one (.vp 5 0)),(6,.one (.vp 6 0)),(21,.one (.vp 21 0)),(22,.one (.hs 510 0 L.length L.length)),(268,B false)] ([(4,.var 78 (vRt v)),(5,.var 33 (tR t)),(6,.var 37 [.c (.int .i64 0),.c (.int .i64 0),.c (.str []),.c (.int .i64 0),.c (.int .i64 0),.c (.str []),.c .nl,.c .nl,.c .nl,.c .nl]),(21,.var 33 (tR J)),(510,.arr 33 4 (L.map bD) 2)]++mO W (left-1))) ?_ ?_))))))))))
  ·rcases hl12 with⟨hX,j,hj0,cJ⟩ | ⟨hX,rfl⟩
   ·obtain⟨e3,e4⟩:=oP hX.1;have d3:decide (J.form=3)=true:=Ai e3;have d4:decide (J.name=[76])=true:=Ai e4;have d5:decide ((L.length:Int)=1)=true:=Ai (by rw[hX.2];rfl);subst hj0;refine aE mixed (ak 15 [(3,.bv true),(7,.bv true),(8,.bv true),(12,.bv true),(13,.bv true)] rfl (kcG cJ ?_ (hw:=d5)));exact ak 3 [(13,.bv true),(17,.bv true)] rfl (az sl)
   ·by_cases e3:J.form=3
    ·have d3:decide (J.form=3)=true:=Ai e3;by_cases e4:J.name=[76]
     ·have d4:decide (J.name=[76])=true:=Ai e4;have e5:¬L.length=1:=fun h=>hX ⟨by unfold bb;rw[d3,d4];rfl,h⟩
      have d5:decide ((L.length:Int)=1)=false:=Am (by omega);exact ag [(3,.bv true),(7,.bv true),(8,.bv true),(12,.bv true),(13,.bv false),(17,.bv false)] rfl sl
     ·have d4:decide (J.name=[76])=false:=Am e4;exact ag [(3,.bv true),(7,.bv true),(8,.bv false),(12,.bv false)] rfl sl
    ·have d3:decide (J.form=3)=false:=Am e3;exact ag [(3,.bv false),(7,.bv false)] rfl sl
  refine aA rfl nofun (fun _=>a8 (agF 4 [] rfl rfl rfl (aA rfl (fun hb=>absurd (aFh hb) hP) (fun _=>aD (a8 (sk 1 rfl (kc cF ?_)))))));refine az (aA rfl nofun (fun _=>aD (sk 3 rfl (kc (cLf) ?_))));exact kz 1 rfl (aI (rtC trw))
theorem aK9:∀F:Nat,qI F
 | 0=>by
  have:=y5 (-1) (fun h=>by omega);intro v t n l left hv J hd hg hn hl hle I;exact this v t n l left hv (by omega) hd hg hn hl hle I
 | F+1=>y5 F fun _=>aK9 F
theorem oO (s:Str) (t:Ty):aW Tryz.prog 28 [Go.AM.T s,tyV t] [] (tyV (.mk 5 0 s [t])) []:=by
 refine bT (n:=9) tok Tryz.func28 rfl rfl rfl ?_;exact sg rfl (sgh [(2,.all)] rfl (aI (rtC trw)))
theorem aE2 (l:List Int) (hl:aR5 l) (hf:Fits l):∃(c:Core) (t:Ty) (m:Nat),m≤110000∧((GC false [] m c∧∃n,GT n t∧n≤29)∨((∃s c0 m0,c=.mk 7 0 s zTy [c0] [] []∧s∈tvN∧m=m0+20∧GC false [] m0 c0)∧∃n u,GT n u∧n≤33∧t=.mk 5 0 [97] [u]))∧
  aW Tryz.prog 8 [.one (.c (.sl 1 (l.map aM8)))] [] (.tup [.pa (aB c),tyV t]) []:=by
 have N:aR5 (l.take 60):=fun x hx=>hl x (Bs hx)
 have O:Fits (l.take 60):=by
  unfold Fits at *;rw[At];omega
 have W:=aXx l 60 hf (by omega);obtain⟨t,l1,n,gt,hn,Y,cT⟩:=x8 [] (fun x hx=>by cases hx) (by simp) 3 0 (by omega) (by omega) (l.take 60) 26 ⟨N,O⟩;have hn:n≤29:=hn;obtain⟨i,Z,hi,I,cN⟩:=j0 l1 26 3 (by decide) Y;have hp:pos 26=25:=rfl;by_cases h0:i=0
 ·subst h0;have gA:GT 1 (.mk 2 0 [97] []):=.var _ (by decide);have gF:=gA.fn gt;have cF:=sP (.mk 2 0 [97] []) t;obtain⟨c,l3,le,m,gc,hl3,⟨b1,b2,b3⟩,J⟩:=aK9 7 ⟨[],[[97]],0⟩ (iR (.mk 2 0 [97] []) t) _ Z 26 ⟨fun x hx=>(by cases hx),fun x hx=>by rw[Ac.1 hx];decide,Int.le_refl _,by decide,by decide⟩ (by decide) (by decide) gF (by show _≤33+8*(0:Int);omega) I (by decide) (by rw[hp];decide);have hp2:0≤pos le:=by unfold pos;omega
  have cA:=oO [97] (iR (.mk 2 0 [97] []) t);refine⟨.mk 7 0 [97] zTy [c] [] [],_,m+20,by omega,.inr ⟨⟨_,_,_,rfl,by decide,rfl,gc⟩,_,_,gF,by omega,rfl⟩,?_⟩;refine bT (n:=35) tok Tryz.func8 rfl rfl rfl ?_;refine sg rfl (sk 1 rfl (kc W ?_));refine ak 3 [(3,.id 700)] rfl (az (sk 1 rfl (kc cT ?_)));refine kz 2 rfl (a8 (sk 1 rfl (kc cN ?_)));refine kz 1 rfl (aA rfl (fun _=>sk 2 rfl (kc cF ?_)) nofun);refine kz 2 rfl (skh 4 [(1,.all)] rfl (kc J ?_));refine kz 2 rfl (skh 4 [(1,.all)] rfl (kc cA ?_));exact kz 2 rfl (aI ⟨.inr rfl,⟨_,_,.cell rfl (tg rfl) rfl rfl rfl (.cell rfl (tg rfl) rfl rfl rfl .nil),.cons (.pa (.c .refl (.c .refl (.c .refl (.c .refl (.c .refl (.c .refl (.c .nl (.c .refl (.c .nl (.c .nl .nil))))))))))) (.cons .refl .nil),rfl⟩,trivial,rfl⟩)
 ·obtain⟨c,l3,le,m,gc,hl3,⟨b1,b2,b3⟩,J⟩:=aK9 7 ⟨[],[],0⟩ t n Z 26 ⟨fun x hx=>(by cases hx),fun x hx=>(by cases hx),Int.le_refl _,by decide,by decide⟩ (by decide) (by decide) gt (by show _≤33+8*(0:Int);omega) I (by decide) (by rw[hp];decide);have hp2:0≤pos le:=by unfold pos;omega
  refine⟨c,t,m,by omega,.inl ⟨gc,n,gt,hn⟩,?_⟩;refine bT (n:=35) tok Tryz.func8 rfl rfl rfl ?_;refine sg rfl (sk 1 rfl (kc W ?_));refine ak 3 [(3,.id 700)] rfl (az (sk 1 rfl (kc cT ?_)));refine kz 2 rfl (a8 (sk 1 rfl (kc cN ?_)));refine kz 1 rfl (aA rfl (fun hb=>absurd (by have:=φ hb;omega) h0) (fun _=>aD (sk 3 rfl (kc J ?_))));exact kz 3 rfl (aI ⟨.inr rfl,⟨_,_,.cell rfl (tg rfl) rfl rfl rfl (.cell rfl (tg rfl) rfl rfl rfl .nil),.cons .refl (.cons .refl .nil),rfl⟩,trivial,rfl⟩)
theorem GC.up {L:List Str}{m:Nat}{c:Core}(h:GC false L m c):GC true L m c:=by
 induction h with
 | var h hL=>exact .var h hL
 | con h=>exact .con h
 | int h=>exact .int h
 | app _ _ I J=>exact .app I J
 | lam h ht hk _ I=>exact .lam h ht hk I
 | tc h ht hk=>exact .tc h ht hk
 | tc2 h hu hj ht hk=>exact .tc2 h hu hj ht hk
 | tr hu hj hs hx ht hk _ _ I J=>exact .tr hu hj hs hx ht hk I J
 | tlam hz _ _ _=>cases hz
 | lt h ht hk _ _ I J=>exact .lt h ht hk I J
 | case1 ht hk _ _ h1 h2 h3 h4 h5 h6 I J=>exact .case1 ht hk I J h1 h2 h3 h4 h5 h6
 | case2 ht hk _ _ _ h1 h2 h3 h4 h5 h6 h1' h2' h3' h4' h5' h6' I J N=>exact .case2 ht hk I J N h1 h2 h3 h4 h5 h6 h1' h2' h3' h4' h5' h6'
 | prim h _ _ I J=>exact .prim h I J
 | fail ht hk=>exact .fail ht hk
theorem aGl:∀{k:Nat}{t:Ty},GT k t→TM tvN 3 t:=by
 intro k t h
 induction h with
 | var s hs=>exact .var hs
 | con s hs=>exact .con
 | app ha hb I J=>exact .app I J
theorem yQ:∀s∈nm6,nh s:=by unfold nh;decide
theorem tZ:∀s∈nm6,s.length≤30:=by decide
theorem aYt:∀s∈tvN,¬s=[]:=by decide
theorem lwA {s:Str}{vs:List Str}(h3:s.length≤8) (h4:∀x∈vs,x∈nm6) (h5:vs.length≤2):1+w30 s+(vs.map fun v=>1+w30 v).sum≤93:=by
 have I:=aG4 (show s.length≤30 by omega);have J:=qX (g:=fun v:Str=>1+w30 v) (K:=31) (l:=vs) fun v hv=>by
  have:=aG4 (tZ _ (h4 v hv));omega
 omega
def gQ (m:Nat) (c:Core):Prop:=MW tvN c∧m30 c≤31*m∧20*tlC c≤m
theorem qN {α:Type}{P:α→Prop}{x y:α}(hx:P x) (hy:P y):∀z∈[x,y],P z:=fun z hz=>by
 rcases Ao.1 hz with rfl | hz
 ·exact hx
 ·rw[Ac.1 hz];exact hy
theorem fV {α:Type}{P:α→Prop}{x:α}(hx:P x):∀z∈[x],P z:=fun z hz=>by rw[Ac.1 hz];exact hx
section
variable {m n k:Nat}{s:Str}{t:Ty}{a b:Core}
theorem aU7:w30 ([]:Str)=30:=rfl
theorem aKl (h:s.length≤8):gQ 9 (.mk 2 0 s zTy [] [] []):=by
 have I:=aU7;have:=aG4 (show s.length≤30 by omega);refine⟨oT (eJ rfl (fun h=>by cases h) rfl (by omega) (fun h=>by cases h)) .z (by simp) (by simp) (by simp),?_,?_⟩
 ·rw[m30,cE,fF,gP];omega
 ·rw[tlC,iU,pQ,oV,ψ (by decide)];omega
theorem aQ9 (I:gQ m a) (J:gQ n b):gQ (m+n+1) (.mk 4 0 [] zTy [a,b] [] []):=by
 have W:=aU7;obtain⟨N,a2,a3⟩:=I;obtain⟨O,Y,Z⟩:=J;refine⟨oT (eJ rfl (fun h=>by cases h) rfl (by decide) (fun h=>by cases h)) .z (qN N O) (by simp) (by simp),?_,?_⟩
 ·rw[m30,cE,cE,cE,fF,gP];omega
 ·rw[tlC,iU,iU,iU,pQ,oV,ψ (by decide)];omega
theorem aQ8 (h:s∈nm6) (ht:GT k t) (I:gQ m a):gQ (m+4) (.mk 5 0 s t [a] [] []):=by
 have N:=aU7;obtain⟨J,a2,a3⟩:=I;have:=aG4 (tZ _ h);refine⟨oT (eJ rfl (fun h=>by cases h) (aGl ht).wf (tZ _ h) (fun _=>yQ _ h)) (aGl ht) (fV J) (by simp) (by simp),?_,?_⟩
 ·rw[m30,cE,cE,fF,gP];omega
 ·rw[tlC,iU,iU,pQ,oV,ψ (by decide)];omega
theorem wR (ht:GT k t) (I:gQ m a):gQ (m+1) (.mk 6 0 [] t [a] [] []):=by
 have N:=aU7;obtain⟨J,a2,a3⟩:=I;refine⟨oT (eJ rfl (fun h=>by cases h) (aGl ht).wf (by decide) (fun h=>by cases h)) (aGl ht) (fV J) (by simp) (by simp),?_,?_⟩
 ·rw[m30,cE,cE,fF,gP];omega
 ·rw[tlC,iU,iU,pQ,oV,ψ (by decide)];omega
theorem aKk (h:s∈tvN) (I:gQ m a):gQ (m+20) (.mk 7 0 s zTy [a] [] []):=by
 have N:=aU7;obtain⟨J,a2,a3⟩:=I;have O:=aYu s h;have:=aG4 (show s.length≤30 by omega);refine⟨oT (eJ rfl (fun _=>⟨rfl,aYt s h⟩) rfl (by omega) (fun h=>by cases h)) .z (fV J) (by simp) (by simp),?_,?_⟩
 ·rw[m30,cE,cE,fF,gP];omega
 ·rw[tlC,iU,iU,pQ,oV,θ rfl];omega
end
theorem a0l:∀{z:Bool}{L:List Str}{m:Nat}{c:Core},GC z L m c→MW tvN c∧m30 c≤31*m∧20*tlC c≤m:=by
 intro z L m c h;have hw0:w30 ([]:Str)=30:=rfl
 induction h with
 | @var L s h hL=>
  have:=aG4 (tZ _ h);refine⟨oT (eJ rfl (fun h=>by cases h) rfl (tZ _ h) (fun h=>by cases h)) .z (by simp) (by simp) (by simp),?_,?_⟩
  ·rw[m30,cE,fF,gP];omega
  ·rw[tlC,iU,pQ,oV,ψ (by decide)];omega
 | con h=>exact aKl h
 | int h=>
  refine⟨oT (eJ rfl (fun h=>by cases h) rfl (by decide) (fun h=>by cases h)) .z (by simp) (by simp) (by simp),?_,?_⟩
  ·rw[m30,cE,fF,gP];omega
  ·rw[tlC,iU,pQ,oV,ψ (by decide)];omega
 | app ha hb I J=>exact aQ9 I J
 | lam h ht hk ha I=>exact aQ8 h ht I
 | tc h ht hk=>exact wR ht (aKl h)
 | tc2 h hu hj ht hk=>exact wR ht (wR hu (aKl h))
 | tr hu hj hs hx ht hk ha hb I J=>exact aQ9 (wR hu (aKk hs (aQ8 hx ht I))) J
 | tlam _ h ha I=>exact aKk h I
 | @lt L m n k s t a b h ht hk ha hb I J=>
  obtain⟨N,a2,a3⟩:=I;obtain⟨O,W,Y⟩:=J;have:=aG4 (tZ _ h);refine⟨oT ⟨rfl,fun h=>(by cases h),rfl,fun p hp=>?_,?_,fun h=>(by cases h),fun p hp=>?_,by simp⟩ .z (fV N) (fun x hx=>?_) (by simp),?_,?_⟩
  ·rw[Ac.1 hp];exact(aGl ht).wf
  ·unfold lw;show 1+w30 []+(1+w30 s+0)+0≤403;omega
  ·rw[Ac.1 hp];exact yQ _ h
  ·rw[Ac.1 hx];exact⟨aGl ht,O⟩
  ·rw[m30,cE,cE,fF,fF,gP];omega
  ·rw[tlC,iU,iU,pQ,pQ,oV,ψ (by decide)];omega
 | @case1 L m n k t a b f i s vs ht hk ha hb h1 h2 h3 h4 h5 h6 I J=>
  obtain⟨N,a2,a3⟩:=I;obtain⟨O,W,Y⟩:=J;have hl:=lwA h3 h4 h5;refine⟨oT ⟨rfl,fun h=>(by cases h),(aGl ht).wf,by simp,?_,fun h=>(by cases h),by simp,fun p hp v hv=>?_⟩ (aGl ht) (fV N) (by simp) (fun x hx=>?_),?_,?_⟩
  ·unfold lw;show 1+w30 []+0+(1+w30 s+(vs.map fun v=>1+w30 v).sum+0)≤403;omega
  ·rw[Ac.1 hp] at hv;exact yQ _ (h4 v hv)
  ·rw[Ac.1 hx];exact O
  ·rw[m30,cE,cE,fF,gP,gP];omega
  ·rw[tlC,iU,iU,pQ,oV,oV,ψ (by decide)];omega
 | @case2 L m n o k t a b c f i s vs f' i' s' vs' ht hk ha hb hc h1 h2 h3 h4 h5 h6 h1' h2' h3' h4' h5' h6' I J Z=>
  obtain⟨N,a2,a3⟩:=I;obtain⟨O,W,Y⟩:=J;obtain⟨c1,c2,c3⟩:=Z;have hl:=lwA h3 h4 h5;have hl':=lwA h3' h4' h5';refine⟨oT ⟨rfl,fun h=>(by cases h),(aGl ht).wf,by simp,?_,fun h=>(by cases h),by simp,fun p hp v hv=>?_⟩ (aGl ht) (fV N) (by simp) (fun x hx=>?_),?_,?_⟩
  ·unfold lw;show 1+w30 []+0+(1+w30 s+(vs.map fun v=>1+w30 v).sum+(1+w30 s'+(vs'.map fun v=>1+w30 v).sum+0))≤403;omega
  ·have:p=(s,vs)∨p=(s',vs'):=by simpa [ahd,Alt.name,Alt.vars] using hp
   rcases this with rfl | rfl
   ·exact yQ _ (h4 v hv)
   ·exact yQ _ (h4' v hv)
  ·have:x=.mk f i s vs b∨x=.mk f' i' s' vs' c:=by simpa using hx
   rcases this with rfl | rfl
   ·exact O
   ·exact c1
  ·rw[m30,cE,cE,fF,gP,gP,gP];omega
  ·rw[tlC,iU,iU,pQ,oV,oV,oV,ψ (by decide)];omega
 | @prim L m n s a b h ha hb I J=>
  obtain⟨N,a2,a3⟩:=I;obtain⟨O,W,Y⟩:=J;have:=aG4 (aI3 _ h);refine⟨oT (eJ rfl (fun h=>by cases h) rfl (aI3 _ h) (fun h=>by cases h)) .z (qN N O) (by simp) (by simp),?_,?_⟩
  ·rw[m30,cE,cE,cE,fF,gP];omega
  ·rw[tlC,iU,iU,iU,pQ,oV,ψ (by decide)];omega
 | fail ht hk=>
  refine⟨oT (eJ rfl (fun h=>by cases h) (aGl ht).wf (by decide) (fun h=>by cases h)) (aGl ht) (by simp) (by simp) (by simp),?_,?_⟩
  ·rw[m30,cE,fF,gP];omega
  ·rw[tlC,iU,pQ,oV,ψ (by decide)];omega
def V0:List Str:=a0i++tvN
theorem aPw:¬([]:Str)∈V0:=by decide
theorem aAm:V0.length=8:=rfl
theorem MW.mono {V W:List Str}{c:Core}(h:MW V c) (hv:∀x∈V,x∈W):MW W c:=⟨h.q,h.w,fun x hx=>hv x (h.v x hx)⟩
structure MK (c:Core):Prop where
 m:MW V0 c
 t:tlC c≤6000
 s:m30 c≤3500000
theorem MK.st {c:Core}(h:MK c) (n:Nat):ST n V0 c:=ST.of h.m h.t h.s n
theorem aKn {z:Bool}{L:List Str}{m:Nat}{c:Core}(h:GC z L m c) (hm:m≤110000):MK c:=by
 obtain⟨h1,h2,h3⟩:=a0l h;exact⟨h1.mono fun x hx=>ω.2 (.inr hx),by omega,by omega⟩
def dg (L:List Str):List (Str×Str):=L.map fun s=>(s,s)
theorem aE6:∀L:List Str,L.zip L=dg L
 | []=>rfl
 | s::L=>by rw[List.zip_cons_cons,aE6 L];rfl
theorem aLa {L M:List Str}:dg (L++M)=dg L++dg M:=As
theorem AV.dg:∀{L:List Str}{s:Str},s∈L→AV (dg L) s s
 | a::L,s,h=>by
  by_cases e:s=a
  ·rw[e];exact .here
  ·exact .there e e (AV.dg ((Ao.1 h).resolve_left e))
section
variable {u:Str}{f n:Int}{s s':Str}{t:Ty}{ks ks':List Core}{bs:List Bind}{al:List Alt}{L':List Str}
theorem RV.mk' (h1:¬f=1) (h5:¬f=5) (hs:f=7∨s=s') (lk:ks.length=ks'.length) (hbn:∀b∈bs,b.name∈nm6) (kk:∀(i:Nat) (x y:Core),ks[i]?=some x→ks'[i]?=some y→RV u (dg (bs.map Bind.name++L')) (tE x) (tE y))
  (kb:∀b∈bs,RV u (dg (bs.map Bind.name++L')) (tE b.body) (tE b.body)) (ka:∀a∈al,(a.form=1∨a.vars=[])∧(∀v∈a.vars,v∈nm6)∧RV u (dg (a.vars++L')) (tE a.body) (tE a.body)):
  RV u (dg L') (tE (.mk f n s t ks bs al)) (tE (.mk f n s' t ks' bs al)):=by
 have N:∀z:Str,gvN f z (bs.map tEB)=bs.map Bind.name:=fun z=>by unfold gvN;rw[ψ h5,A1];rfl
 rw[iE,iE];refine .node h1 (fun e=>absurd e h5) ?_ (by rw[ξ,ξ];exact lk) rfl rfl (fun b hb=>?_) (fun i p q hp I=>?_) (fun i p q hp I=>?_) (fun i p q hp I=>?_) (fun i p q hp I=>?_)
 ·rcases hs with h | h
  ·exact .inr (.inl h)
  ·exact .inr (.inr (by rw[h]))
 ·obtain⟨b,kb,rfl⟩:=Ad.1 hb;exact hbn b kb
 ·obtain⟨p,J,rfl⟩:=dH hp;obtain⟨q,O,rfl⟩:=dH I;rw[N,N,aE6,←aLa];exact kk i p q J O
 ·obtain⟨p,J,rfl⟩:=dH hp;rw[hp] at I;obtain rfl:=Option.some.inj I;rw[N,N,aE6,←aLa];exact kb p (η J)
 ·obtain⟨p,J,rfl⟩:=dH hp;rw[hp] at I;obtain rfl:=Option.some.inj I;obtain⟨g1,g2,_⟩:=ka p (η J);exact⟨⟨rfl,rfl,rfl,rfl,g1⟩,rfl,g2⟩
 ·obtain⟨p,J,rfl⟩:=dH hp;rw[hp] at I;obtain rfl:=Option.some.inj I;obtain⟨_,_,g3⟩:=ka p (η J);rw[aE6,←aLa];exact g3
theorem RV.lam' {a d:Core}(hs:PP u s s') (h:RV u ((s,s')::dg L') (tE a) (tE d)):RV u (dg L') (tE (.mk 5 n s t [a] [] [])) (tE (.mk 5 n s' t [d] [] [])):=by
 rw[iE,iE];refine .node (by decide) (fun _=>⟨hs,rfl⟩) (.inl rfl) rfl rfl rfl (fun b hb=>by cases hb) (fun i p q hp I=>?_) (fun i p q hp=>by cases hp) (fun i p q hp=>by cases hp) (fun i p q hp=>by cases hp);cases i with
 | zero=>
  obtain rfl:=Option.some.inj hp;obtain rfl:=Option.some.inj I;exact h
 | succ i=>cases hp
end
theorem iH {P:Core→Core→Prop}{a b:Core}(h:P a b):∀(i:Nat) (x y:Core),[a][i]?=some x→[b][i]?=some y→P x y
 | 0,x,y,hx,hy=>by
  obtain rfl:=Option.some.inj hx;obtain rfl:=Option.some.inj hy;exact h
 | i+1,x,y,hx,_=>by cases hx
theorem uX {P:Core→Core→Prop}{a b I b':Core}(h:P a I) (h2:P b b'):∀(i:Nat) (x y:Core),[a,b][i]?=some x→[I,b'][i]?=some y→P x y
 | 0,x,y,hx,hy=>by
  obtain rfl:=Option.some.inj hx;obtain rfl:=Option.some.inj hy;exact h
 | i+1,x,y,hx,hy=>iH h2 i x y hx hy
theorem bH {α:Type}{P:α→Prop}:∀x∈([]:List α),P x:=fun x hx=>by cases hx
theorem rI {P:Core→Core→Prop}:∀(i:Nat) (x y:Core),([]:List Core)[i]?=some x→([]:List Core)[i]?=some y→P x y:=fun i x y hx=>by cases hx
theorem GC.refl {z:Bool}{u:Str}{L:List Str}{m:Nat}{c:Core}(h:GC z L m c):∀{L':List Str},(∀s∈nm6,s∈L→s∈L')→RV u (dg L') (tE c) (tE c):=by
 have bind:∀{L L':List Str} {s:Str},(∀x∈nm6,x∈L→x∈L')→∀x∈nm6,x∈L++[s]→x∈s::L':=fun hm x hx h=>by
  rcases ω.1 h with h | h
  ·exact κ _ (hm x hx h)
  ·rw[Ac.1 h];exact ζ
 have vars:∀{L L' vs:List Str},(∀x∈nm6,x∈L→x∈L')→∀x∈nm6,x∈L++vs→x∈vs++L':=fun hm x hx h=>by
  rcases ω.1 h with h | h
  ·exact ω.2 (.inr (hm x hx h))
  ·exact ω.2 (.inl h)
 induction h with
 | var h hL=>exact fun hm=>by rw[iE];exact .var (AV.dg (hm _ h hL))
 | con h=>exact fun _=>.mk' (by decide) (by decide) (.inr rfl) rfl bH rI bH bH
 | int h=>exact fun _=>.mk' (by decide) (by decide) (.inr rfl) rfl bH rI bH bH
 | app _ _ I J=>exact fun hm=>.mk' (by decide) (by decide) (.inr rfl) rfl bH (uX (I hm) (J hm)) bH bH
 | lam h _ _ _ I=>exact fun hm=>.lam' ⟨h,.inl rfl⟩ (I (L':=_::_) (bind hm))
 | tc _ _ _=>exact fun _=>.mk' (by decide) (by decide) (.inr rfl) rfl bH (iH (.mk' (by decide) (by decide) (.inr rfl) rfl bH rI bH bH)) bH bH
 | tc2 _ _ _ _ _=>exact fun _=>.mk' (by decide) (by decide) (.inr rfl) rfl bH (iH (.mk' (by decide) (by decide) (.inr rfl) rfl bH (iH (.mk' (by decide) (by decide) (.inr rfl) rfl bH rI bH bH)) bH bH)) bH bH
 | tr _ _ _ hx _ _ _ _ I J=>
  exact fun hm=>.mk' (by decide) (by decide) (.inr rfl) rfl bH (uX (.mk' (by decide) (by decide) (.inr rfl) rfl bH (iH (.mk' (by decide) (by decide) (.inl rfl) rfl bH (iH (.lam' ⟨hx,.inl rfl⟩ (I (L':=_::_) (bind hm)))) bH bH)) bH bH) (J hm)) bH bH
 | tlam _ _ _ I=>exact fun hm=>.mk' (by decide) (by decide) (.inl rfl) rfl bH (iH (I hm)) bH bH
 | lt h _ _ _ _ I J=>exact fun hm=>.mk' (by decide) (by decide) (.inr rfl) rfl (fV h) (iH (I (bind hm))) (fV (J (bind hm))) bH
 | case1 _ _ _ _ h1 h2 h3 h4 h5 h6 I J=>exact fun hm=>.mk' (by decide) (by decide) (.inr rfl) rfl bH (iH (I hm)) bH (fV ⟨h6,h4,J (vars hm)⟩)
 | case2 _ _ _ _ _ h1 h2 h3 h4 h5 h6 h1' h2' h3' h4' h5' h6' I J N=>exact fun hm=>.mk' (by decide) (by decide) (.inr rfl) rfl bH (iH (I hm)) bH (qN ⟨h6,h4,J (vars hm)⟩ ⟨h6',h4',N (vars hm)⟩)
 | prim _ _ _ I J=>exact fun hm=>.mk' (by decide) (by decide) (.inr rfl) rfl bH (uX (I hm) (J hm)) bH bH
 | fail _ _=>exact fun _=>.mk' (by decide) (by decide) (.inr rfl) rfl bH rI bH bH
theorem MW.re {V:List Str}{f n:Int}{s s':Str}{t:Ty}{ks ks':List Core}{bs:List Bind}{al:List Alt}(h:MW V (.mk f n s t ks bs al)) (J:QL 403 f s' t ks'.length (bs.map bhd) (al.map ahd)) (hk:∀x∈ks',MW V x):MW V (.mk f n s' t ks' bs al):=by
 obtain⟨_,_,N,O⟩:=aS.1 h.q;refine⟨aS.2 ⟨J,fun x hx=>(hk x hx).q,N,O⟩,fun E ρ I=>?_,fun x hx=>?_⟩
 ·obtain⟨W,Y,_,Z,w5⟩:=eZ.1 (h.w E ρ I);refine eZ.2 ⟨W,Y,fun x hx=>(hk x hx).w E _ fun y=>?_,Z,w5⟩;split
  ·unfold fO;split
   ·exact le_refl _
   ·exact I y
  ·exact I y
 ·rcases bI.1 hx with h1 | ⟨y,hy,h1,_⟩ | h1
  ·exact h.v x (bI.2 (.inl h1))
  ·exact(hk y hy).v x h1
  ·exact h.v x (bI.2 (.inr (.inr h1)))
section
variable {k:Nat}{V L:List Str}{f n:Int}{s:Str}{t:Ty}{bs:List Bind}{al:List Alt}
end
section
variable {k:Nat}{V L:List Str}{n:Int}{s:Str}{t:Ty}{a r:Core}
end
theorem aZi {k:Nat}{t:Ty}(h:GT k t):tn t≤9*k:=by
 induction h with
 | var s h=>have:=aYu s h;rw[tn,tns];omega
 | con s h=>rw[tn,tns];omega
 | app _ _ I i2=>rw[tn,tns,tns,tns];show 1+0+_≤_;omega
def TB9 (t:Ty):Prop:=tn t≤1000000000
theorem aYv:TB9 zTy:=by unfold TB9 zTy;rw[tn,tns];decide
theorem sK {k:Nat}{t:Ty}(h:GT k t) (hk:k≤100):TB9 t:=by have:=aZi h;unfold TB9;omega
theorem aZk {z:Bool}{L:List Str}{m:Nat}{c:Core}(h:GC z L m c):allT TB9 c:=by
 have hz:=aYv
 induction h with
 | var h hL=>exact⟨hz,trivial,trivial,trivial⟩
 | con h=>exact⟨hz,trivial,trivial,trivial⟩
 | int h=>exact⟨hz,trivial,trivial,trivial⟩
 | app _ _ I J=>exact⟨hz,⟨I,J,trivial⟩,trivial,trivial⟩
 | lam h ht hk _ I=>exact⟨sK ht hk,⟨I,trivial⟩,trivial,trivial⟩
 | tc h ht hk=>exact⟨sK ht hk,⟨⟨hz,trivial,trivial,trivial⟩,trivial⟩,trivial,trivial⟩
 | tc2 h hu hj ht hk=>exact⟨sK ht hk,⟨⟨sK hu hj,⟨⟨hz,trivial,trivial,trivial⟩,trivial⟩,trivial,trivial⟩,trivial⟩,trivial,trivial⟩
 | tr hu hj hs hx ht hk _ _ I J=>exact⟨hz,⟨⟨sK hu hj,⟨⟨hz,⟨⟨sK ht hk,⟨I,trivial⟩,trivial,trivial⟩,trivial⟩,trivial,trivial⟩,trivial⟩,trivial,trivial⟩,J,trivial⟩,trivial,trivial⟩
 | tlam O h _ I=>exact⟨hz,⟨I,trivial⟩,trivial,trivial⟩
 | lt h ht hk _ _ I J=>exact⟨hz,⟨I,trivial⟩,⟨sK ht hk,J,trivial⟩,trivial⟩
 | case1 ht hk _ _ h1 h2 h3 h4 h5 h6 I J=>exact⟨sK ht hk,⟨I,trivial⟩,trivial,⟨J,trivial⟩⟩
 | case2 ht hk _ _ _ h1 h2 h3 h4 h5 h6 h1' h2' h3' h4' h5' h6' I J N=>exact⟨sK ht hk,⟨I,trivial⟩,trivial,⟨J,N,trivial⟩⟩
 | prim h _ _ I J=>exact⟨hz,⟨I,J,trivial⟩,trivial,trivial⟩
 | fail ht hk=>exact⟨sK ht hk,trivial,trivial,trivial⟩
theorem aTi {L:List Str}{m:Nat}{c:Core}(h:GC false L m c):N0 c:=by
 have one:∀{f n:Int} {s:Str} {t:Ty} {x:Core},¬f=7→N0 x→N0 (.mk f n s t [x] [] []):=fun hf hx=>.mk (fun e=>absurd e hf) (fV hx) bH bH
 have two:∀{f n:Int} {s:Str} {t:Ty} {x y:Core},¬f=7→N0 x→N0 y→N0 (.mk f n s t [x,y] [] []):=fun hf hx hy=>.mk (fun e=>absurd e hf) (qN hx hy) bH bH
 induction h with
 | var h hL=>exact N0.leaf
 | con h=>exact N0.leaf
 | int h=>exact N0.leaf
 | app _ _ I J=>exact two (by decide) I J
 | lam h ht hk _ I=>exact one (by decide) I
 | tc h ht hk=>exact one (by decide) N0.leaf
 | tc2 h hu hj ht hk=>exact one (by decide) (one (by decide) N0.leaf)
 | tr hu hj hs hx ht hk _ _ I J=>exact two (by decide) (one (by decide) (.mk (fun _=>rfl) (fV (one (by decide) I)) bH bH)) J
 | tlam hz h _ I=>cases hz
 | lt h ht hk _ _ I J=>exact .mk (fun e=>by cases e) (fV I) (fV J) bH
 | case1 ht hk _ _ h1 h2 h3 h4 h5 h6 I J=>exact .mk (fun e=>by cases e) (fV I) bH (fV J)
 | case2 ht hk _ _ _ h1 h2 h3 h4 h5 h6 h1' h2' h3' h4' h5' h6' I J N=>exact .mk (fun e=>by cases e) (fV I) bH (qN J N)
 | prim h _ _ I J=>exact two (by decide) I J
 | fail ht hk=>exact N0.leaf
section
variable {y:Str}{b:Core}
theorem aP4:∀(k:Nat) (c:Core),N0 c→N0 (unR y b k c)
 | 0,c,h=>by rw[unR];exact h
 | k+1,.mk f n s t ks bs al,h=>by
  rw[unR];split
  ·exact N0.leaf
  split
  ·obtain⟨_,I,J,N⟩:=h.inv;refine .mk (fun e=>by omega) (fun x hx=>?_) J N;obtain⟨z,hz,rfl⟩:=Ad.1 hx;exact aP4 k z (I z hz)
  ·exact h
theorem aWt (c:Core):31≤m30 c:=by
 obtain⟨f,n,s,t,ks,bs,al⟩:=c;rw[m30];have:=jT s;omega
theorem rO {g:Core→Core}:∀{l:List Core},(∀x∈l,m30 (g x)≤m30 x)→cE (l.map g)≤cE l
 | [],_=>le_refl _
 | x::l,h=>by
  rw[Al,cE,cE];have:=h x ζ;have:=rO (g:=g) (l:=l) fun z hz=>h z (κ _ hz)
  omega
theorem qO {g:Core→Core}:∀{l:List Core},(∀x∈l,tlC (g x)≤tlC x)→iU (l.map g)≤iU l
 | [],_=>le_refl _
 | x::l,h=>by
  rw[Al,iU,iU];have:=h x ζ;have:=qO (g:=g) (l:=l) fun z hz=>h z (κ _ hz)
  omega
theorem MW.vC {V:List Str}(hy:y.length≤30):MW V (vC y):=oT (eJ rfl (fun h=>by cases h) rfl hy (fun h=>by cases h)) .z (by simp) (by simp) (by simp)
theorem MW.kids {V:List Str}{f n:Int}{s:Str}{t:Ty}{ks:List Core}{bs:List Bind}{al:List Alt}(h7:¬f=7) (h:MW V (.mk f n s t ks bs al)) {x:Core}(hx:x∈ks):MW V x:=by
 refine⟨(aS.1 h.q).2.1 x hx,fun E ρ I=>?_,fun z hz=>h.v z (bI.2 (.inr (.inl ⟨x,hx,hz,.inl h7⟩)))⟩;have:=(eZ.1 (h.w E ρ I)).2.2.1 x hx;rwa [ψ h7] at this
theorem aAs {V:List Str}(hy:y.length≤30):∀(k:Nat) (c:Core),MW V c→MW V (unR y b k c)∧m30 (unR y b k c)≤m30 c∧tlC (unR y b k c)≤tlC c
 | 0,c,h=>by rw[unR];exact⟨h,le_refl _,le_refl _⟩
 | k+1,.mk f n s t ks bs al,h=>by
  rw[unR];split
  ·refine⟨.vC hy,?_,by rw[aSb];exact Ak _⟩;have h1:=aWt (.mk f n s t ks bs al);have h2:=aG4 hy;have:m30 (vC y)=31:=by unfold Go.Proofs.YtockgoadliilhaaGreatDoor.vC;rw[m30,cE,fF,gP];omega
   omega
  split
  ·rename_i hf;have I:=fun x (hx:x∈ks)=>aAs hy k x (h.kids (by omega) hx)
   refine⟨h.re (by rw[ξ];exact(aS.1 h.q).1) fun x hx=>?_,?_,?_⟩
   ·obtain⟨z,hz,rfl⟩:=Ad.1 hx;exact(I z hz).1
   ·rw[m30,m30];have:=rO fun x hx=>(I x hx).2.1
    omega
   ·rw[tlC,tlC];have:=qO fun x hx=>(I x hx).2.2
    omega
  ·exact⟨h,le_refl _,le_refl _⟩
def HN:Core→Core→Prop:=fun _ _=>False
theorem HN.ok {bd:List Bind}:HOK HN bd:=⟨fun _ _ h=>h.elim,fun _ _ h=>h.elim,fun _ _ _ h=>h.elim⟩
theorem aP3:∀(k:Nat) (c:Core),cB (QL 403) c→RA HN (dg [y]) (tE c) (tE c)→RA HN (dg [y]) (tE (unR y b k c)) (tE (unR y b k c))
 | 0,c,_,h=>by rw[unR];exact h
 | k+1,.mk f n s t ks bs al,J,h=>by
  rw[unR];split
  ·rw[aVi];exact .var (AV.dg ζ)
  split
  ·rename_i hf;rcases h.inv with h | ⟨h,_⟩ | ⟨h1,h⟩
   ·exact h.elim
   ·omega
   obtain⟨_,rfl,rfl⟩:=hY J hf;have hg:gvN f s []=[]:=by unfold gvN;rw[ψ (by omega)];rfl
   refine ND.ra h1 ⟨rfl,rfl,.inr (.inr rfl),rfl,rfl,rfl,fun i p q hp I=>?_,fun i p q hp=>(by cases hp),fun i p q hp=>(by cases hp)⟩;rw[hp] at I;obtain rfl:=Option.some.inj I;obtain⟨x,hx,rfl⟩:=dH hp;have:=h.kk i x x hx hx;rw[hg] at this ⊢;exact aP3 k x ((aS.1 J).2.1 x (η hx)) this
  ·exact h
end
theorem aP1:∀(k:Nat) (c:Core),aU c≤k→cB (QL 403) c→LC c
 | 0,c,h,_=>by have:=bR c;omega
 | k+1,.mk f n s t ks bs al,h,O=>by
  obtain⟨W,z2,z3,_⟩:= @dW f n s t ks bs al;obtain⟨⟨I,_,_,_,J,_⟩,Y,Z,k3⟩:=aS.1 O;have hb:=aZ7 J;have ha:∀a∈al,a.vars.length≤12:=fun a h=>aZ8 J (Ad.2 ⟨a,h,rfl⟩)
  rw[ξ] at hb;have N:=aH8 (al.map ahd);rw[ξ] at N;have hk:ks.length≤2:=by
   unfold okF at I;split at I
   ·have:=(φ I).1;omega
   split at I
   ·have:=(φ I).1;omega
   split at I
   ·have:=(φ I).1;omega
   split at I
   ·have:=(φ I).1;omega
   ·have:=(φ I).1;omega
  unfold lw at J;exact .mk (by omega) (by omega) (fun a h=>by have:=ha a h;omega) (fun x hx=>aP1 k x (by have:=W x hx;omega) (Y x hx)) (fun x hx=>aP1 k x.body (by have:=z2 x hx;omega) (Z x hx)) fun x hx=>aP1 k x.body (by have:=z3 x hx;omega) (k3 x hx)
structure BG (V:List Str) (b:Core):Prop where
 cg:CG 1000 650000 403 b
 cw:∀E,3≤E→cw j3 E b r0≤3+E
 ty:∀x∈tyR b,x∈V
theorem BG.of {V:List Str}(I:V.length≤480000) {n:Nat}{c:Core}(hn:n≤1) (h:ST n V c):BG V c:=⟨h.cg (by omega) I,fun E J=>h.cw E (by omega),h.ty⟩
theorem BG.of_SR {V:List Str}(I:V.length≤480000) {s:Nat}{c:Core}(hs:s≤3500000) (h:SR 1 V s c):BG V c:=⟨h.cg (by omega) hs I,fun E J=>h.cw E (by omega),h.ty⟩
def lJ (y:Str) (t:Ty) (u b:Core):Core:=.mk 4 0 [] zTy [.mk 5 0 y t [u] [] [],b] [] []
theorem sA {bd:List Bind}{y:Str}{t:Ty}{u b:Core}:bK bd (m30 (lJ y t u b)) (lJ y t u b)=(dA (m30 u) u y b,0):=by
 obtain⟨k,hk⟩:∃k,m30 (lJ y t u b)=k+1:=⟨m30 (lJ y t u b)-1,by have:=dX (lJ y t u b);omega⟩
 rw[hk];unfold lJ;rw[jJ,ψ (by decide),θ (.inl rfl),θ ⟨rfl,rfl⟩];rfl
theorem aMg (W:cK 540000000000) {V:List Str}(Y:V.length≤480000) {m:Mod}{y:Str}{t:Ty}{u b:Core}(hy:y.length≤30) (J:nh y) (ht:wfS t=true) (hu:ST 0 V u) (hb:BG V b):SG m 1 V (lJ y t u b):=by
 have N:=hu.cg (by omega) Y;have I:=uF W (D:=1000) (M:=650000) (X:=403) (by decide) (by decide) (m30 u) u (le_refl _) N y b hb.cg;have hB:Big=250000000000:=rfl;have Z:=hb.cg.sz;have O:=hu.sz;have hw:=aG4 hy;have aa:w30 ([]:Str)=30:=rfl;refine⟨aS.2 ⟨eJ rfl (fun h=>by cases h) rfl (by decide) (fun h=>by cases h),qN (aS.2 ⟨eJ rfl (fun h=>by cases h) ht hy (fun _=>J),fV hu.q,bH,bH⟩) hb.cg.q,bH,bH⟩,?_,fun h=>(by cases h),fun _=>?_,fun _ _=>?_⟩
 ·refine le_trans (bZ _) ?_;unfold lJ;rw[m30,cE,cE,cE,m30,cE,cE,fF,gP];omega
 ·rw[sA];exact aPe (.inl rfl) (aLv m 0 [] zTy u b _ 0 y t I.imp)
 ·rw[sA];dsimp only;have hz:=I.sz (m30 b/31+1) (by omega) (by omega);have h1:m30 u*(m30 b/31+1)≤3500000*8064516130:=mul_le_mul O (by omega);have h2:=size_le (dA (m30 u) u y b);have h3:=bZ (dA (m30 u) u y b);refine⟨aP1 _ _ (le_refl _) I.rx.q,by omega,fun hs=>⟨I.rx.q,fun E hE=>?_,fun x hx=>(I.rx.ty x hx).elim (hu.ty x) (hb.ty x),?_,?_⟩⟩
  ·have g1:=I.rx.cw j3 E r0;have g2:=hu.cw E (by omega);have g3:=hb.cw E (by omega);omega
  ·have:=n8 (dA (m30 u) u y b);omega
  ·have:=kU (X:=403) (dA (m30 u) u y b) I.rx.q;omega
theorem aQd {n B:Int}(h1: -(10*B)<n) (h2:n<10*B): -B<n.tdiv 10∧n.tdiv 10<B:=by
 rcases Int.le_total 0 n with h | h
 ·rw[Int.tdiv_eq_ediv_of_nonneg h];omega
 ·obtain⟨m,rfl⟩:∃m,n= -m:=⟨-n,by omega⟩
  rw[Int.neg_tdiv,Int.tdiv_eq_ediv_of_nonneg (by omega)];omega
theorem aVb (n:Int): -10<n.tmod 10∧n.tmod 10<10:=by
 rcases Int.le_total 0 n with h | h
 ·rw[Int.tmod_eq_emod_of_nonneg h];omega
 ·obtain⟨m,rfl⟩:∃m,n= -m:=⟨-n,by omega⟩
  rw[Int.neg_tmod,Int.tmod_eq_emod_of_nonneg (by omega)];omega
theorem aOw {n:Int}(h:i64 n):i64 (n.tdiv 10):=by
 have:=aQd (n:=n) (B:=922337203685477581) (by unfold i64 at h;omega) (by unfold i64 at h;omega);unfold i64;omega
theorem aXh (k:Nat) (N:∀n:Int,-((10:Int)^k)<n→n<(10:Int)^k→i64 n→k≤30→1≤k→∃s:Str,s.length≤k+1∧aW Tryz.prog 45 [I .i64 n] [] (Go.AM.T s) []) (n:Int) (h1: -((10:Int)^(k+1))<n) (h2:n<(10:Int)^(k+1)) (hn:i64 n) (hk:k+1≤30):
  ∃s:Str,s.length≤k+2∧aW Tryz.prog 45 [I .i64 n] [] (Go.AM.T s) []:=by
 obtain⟨r1,r2⟩:=aVb n;have O:=aOw hn;have hM:1000000000≤maxLen:=by decide
 obtain⟨r',J,hr0⟩:∃r':Int,(r'=if n.tmod 10<0 then 0-n.tmod 10 else n.tmod 10)∧0≤r'∧r'<10:=⟨_,rfl,by split<;>omega⟩
 obtain⟨d,hd⟩:∃d:UInt8,d=UInt8.ofNat (IntKind.u8.wrap (48+r')).toNat:=⟨_,rfl⟩
 by_cases W: -10<n∧n<10
 ·refine⟨if n<0 then [45,d] else [d],by split<;>simp,?_⟩;refine bT (n:=32) tok Tryz.func45 rfl rfl rfl ?_;refine sg rfl (sk 1 rfl (kw (op:=.rem) (a:=n) (b:=10) (n.tmod 10) rfl ?_));refine kz 1 rfl (a8 (sg rfl (AWp.cut (mk [(0,I .i64 n),(3,I .i64 r')] []) ?_ ?_)))
  ·refine aA rfl (fun hb=>?_) (fun hb=>?_)
   ·have hb:n.tmod 10<0:=φ hb;rw[θ hb] at J;subst J;exact ag [] rfl sl
   ·have hb:¬n.tmod 10<0:=δ hb;rw[ψ hb] at J;subst J;exact aD sl
  refine sg rfl (AWp.sub (st2:=mk [(0,I .i64 n),(4,Go.AM.T [d])] []) (sl (he:=⟨rfl,by rw[hd];rfl,trivial⟩)) ?_);refine a8 (a8 (agF 3 [] rfl rfl rfl (aA rfl (fun _=>a8 (sg rfl ?_)) (fun hb=>by simp at hb;omega))));by_cases h0:n<0
  ·rw[θ h0];exact aA rfl (fun _=>sg rfl (aI rtT)) (fun hb=>absurd h0 (δ hb))
  ·rw[ψ h0];exact aA rfl (fun hb=>absurd (φ hb) h0) (fun _=>aD (sg rfl (aI rtT)))
 ·have Y:1≤k:=by
   cases k with
   | zero=>simp at h1 h2;omega
   | succ k=>omega
  have Z:(10:Int)^(k+1)=10*(10:Int)^k:=by rw[Int.pow_succ,Int.mul_comm]
  rw[Z] at h1 h2;obtain⟨q1,q2⟩:=aQd h1 h2;obtain⟨s,hs,hc⟩:=N (n.tdiv 10) q1 q2 O (by omega) Y;refine⟨s++[d],by rw[Aa];simp;omega,?_⟩;refine bT (n:=32) tok Tryz.func45 rfl rfl rfl ?_;refine sg rfl (sk 1 rfl (kw (op:=.rem) (a:=n) (b:=10) (n.tmod 10) rfl ?_));refine kz 1 rfl (a8 (sg rfl (AWp.cut (mk [(0,I .i64 n),(3,I .i64 r')] []) ?_ ?_)))
  ·refine aA rfl (fun hb=>?_) (fun hb=>?_)
   ·have hb:n.tmod 10<0:=φ hb;rw[θ hb] at J;subst J;exact ag [] rfl sl
   ·have hb:¬n.tmod 10<0:=δ hb;rw[ψ hb] at J;subst J;exact aD sl
  refine sg rfl (AWp.sub (st2:=mk [(0,I .i64 n),(4,Go.AM.T [d])] []) (sl (he:=⟨rfl,by rw[hd];rfl,trivial⟩)) ?_);refine a8 (a8 (agF 3 [] rfl rfl rfl (aA rfl (fun hb=>by simp at hb;exact absurd ⟨hb.1,hb.2⟩ W) (fun _=>aD (sk 1 rfl (kw (op:=.quo) (a:=n) (b:=10) (n.tdiv 10) (by show(if(10:Int)=0 then none else some (IntKind.i64.wrap (n.tdiv 10)))=some (n.tdiv 10);rw[ψ (by decide),B9 _ O]) ?_))))));refine kc hc ?_;exact kz 3 rfl (aI (rtT (hc:=.refl)))
theorem aXi:∀(k:Nat) (n:Int),-((10:Int)^k)<n→n<(10:Int)^k→i64 n→k≤30→1≤k→∃s:Str,s.length≤k+1∧aW Tryz.prog 45 [I .i64 n] [] (Go.AM.T s) []
 | 0,n,_,_,_,_,h=>absurd h (by decide)
 | k+1,n,h1,h2,h3,h4,_=>aXh k (fun n=>aXi k n) n h1 h2 h3 h4
theorem aRg (n:Int) (h:i64 n):∃s:Str,s.length≤21∧aW Tryz.prog 45 [I .i64 n] [] (Go.AM.T s) []:=by
 have N:(10:Int)^20=100000000000000000000:=rfl;have J:=h;unfold i64 at J;exact aXi 20 n (by omega) (by omega) h (by omega) (by omega)
inductive KC:Core→Prop
 | mk {f n:Int} {s:Str} {ks:List Core} (h1:¬f=1) (h5:¬f=5) (h7:¬f=7) (hf:i64 f) (hn:i64 n) (hk:∀x∈ks,KC x):KC (.mk f n s zTy ks [] [])
theorem aLd {ks:List Core}:∀i,bW (ks.take i)≤bW ks:=by
 induction ks with
 | nil=>intro i;simp
 | cons c l I=>
  intro i;cases i with
  | zero=>rw[Cm,bW];omega
  | succ i=>rw[Az,bW,bW];have:=I i;omega
theorem zB {S:Core→Str}{K:Nat}:∀{l:List Core},(∀x∈l,(S x).length≤K*aU x)→(l.flatMap S).length≤K*bW l
 | [],_=>by simp
 | c::l,h=>by
  rw[Ci,Aa,bW,Cv];have:=h c ζ;have:=zB (l:=l) fun x hx=>h x (κ _ hx)
  omega
theorem a0m:∀(k:Nat) (c:Core),aU c≤k→KC c→aU c≤1000000→∃s:Str,s.length≤100*aU c∧aW Tryz.prog 39 [.pa (aB c),bN [],bN []] [] (Go.AM.T s) []:=by
 intro k
 induction k with
 | zero=>intro c h;have:=bR c;omega
 | succ k ih=>
 intro c h hc hsz;obtain⟨h1,h5,h7,hf,hn,W⟩:=hc;rename_i f n nm ks;have hM:1000000000≤maxLen:=by decide
 have hcs:aU (.mk f n nm zTy ks [] [])=1+nm.length+bW ks:=by rw[aU,fW,fX];rfl
 obtain⟨S1,l1,c1⟩:=aRg f hf;obtain⟨S2,l2,c2⟩:=aRg n hn;have N:∀x:Core,∃s:Str,x∈ks→s.length≤100*aU x∧aW Tryz.prog 39 [.pa (aB x),bN [],bN []] [] (Go.AM.T s) []:=fun x=>by
  by_cases hx:x∈ks
  ·have:=mD hx;obtain⟨s,g1,g2⟩:=ih x (by omega) (W x hx) (by omega);exact⟨s,fun _=>⟨g1,g2⟩⟩
  ·exact⟨[],fun h=>absurd h hx⟩
 obtain⟨S,hS⟩:=Classical.axiomOfChoice N;have J:∀i,((ks.take i).flatMap S).length≤100*bW ks:=fun i=>by
  have:=zB (S:=S) (K:=100) (l:=ks.take i) fun x hx=>(hS x (Bs hx)).1
  have:=aLd (ks:=ks) i;omega
 have O:(aQ ks).length=ks.length:=by rw[aZ,ξ]
 have hkc:ks.length≤bW ks:=by
  clear N hS J O hcs hsz W h ih
  induction ks with
  | nil=>simp
  | cons c l ih=>rw[bW,Aj];have:=bR c;omega
 refine⟨([40]++S1++[32]++S2++[32])++nm++(ks.take ks.length).flatMap S++[41],?_,?_⟩
 ·have:=J ks.length;simp only[Aa,Aj,length_nil];omega
 have hl0:([40]++S1++[32]++S2++[32]:Str).length≤50:=by simp only[Aa,Aj,length_nil];omega
 refine bT (n:=200) tok Tryz.func39 rfl rfl rfl ?_;refine sg rfl (sk 2 rfl (kc c1 ?_));refine ak 4 [] rfl ?_ (hc:=by repeat (first | exact trivial | refine⟨by first | rfl | (simp;omega),?_⟩));refine kc c2 ?_;refine ak 3 [] rfl ?_ (hc:=by repeat (first | exact trivial | refine⟨by first | rfl | (simp;omega),?_⟩));refine az ?_;generalize hpre:([40]++S1++[32]++S2++[32]:Str)=pre at *;have hd5:(!decide (f=5))=true:=by simp[h5]
 refine a8 (sg rfl (aA rfl (fun hb=>absurd (φ hb) h1) (fun _=>aD (a8 (sgh [(3,.bv true),(7,.bv true)] rfl (aA rfl (fun _=>ag [] rfl (a8 (sg rfl (aA rfl (fun hb=>absurd hb (by simp[Core.ty,zTy,Ty.form])) (fun _=>aD (sg rfl (AWp.sub (Sub.own (t:=8) (id:=720) 9 1 rfl rfl) ?_)))))) (hc:=⟨by show pre.length+nm.length≤maxLen;omega,trivial⟩)) (fun hb=>absurd hb (by simp[Core.form,h7]))))))));refine sgh [(2,.all)] rfl (sg rfl (AWp.sub (Sub.own (t:=9) (id:=721) 9 1 rfl rfl) ?_));refine sgh [(2,.all)] rfl (a8 (sg rfl (aA rfl (fun hb=>absurd (φ hb) h5) (fun _=>aD (a8 (sg rfl (aA rfl (fun hb=>absurd (φ hb) h7) (fun _=>aD (AWp.sub (Sub.freeze (id:=720) rfl) (AWp.sub (Sub.freeze (id:=721) rfl) (AWp.sub (cv 8 []) (AWp.sub (cv 9 []) ?_))))))))))));refine a8 (sg rfl (aC (aL (fun _:Unit=>mk [(3,.one (.vp 3 0)),(7,Go.AM.T (pre++nm)),(8,bN []),(9,bN []),(10,I .i64 0)] [(3,.var 37 (b9 (.mk f n nm zTy ks [] [])))]) (fun _=>True) (fun _=>0) () trivial sl ?_)));intro _ _;refine a8 (sg rfl (aA rfl (fun hb=>by simp[l9,aR,gM,c8] at hb) (fun _=>aM (a8 (sg rfl (aC (aL (fun i:Nat=>mk [(3,.one (.vp 3 0)),(7,Go.AM.T (pre++nm++(ks.take i).flatMap S)),(8,bN []),(9,bN []),(11,I .i64 i)] [(3,.var 37 (b9 (.mk f n nm zTy ks [] [])))]) (fun i=>i≤ks.length) (fun i=>ks.length-i) 0 (Ak _) (sl (he:=⟨rfl,by rw[Cm,Cy,A8];rfl,rfl,rfl,rfl,trivial⟩)) ?_)))))));intro i hi;refine a8 (sg rfl (aA rfl (fun hb=>?_) (fun hb=>?_)))
 ·have Y:i<ks.length:=ltD hb O;obtain⟨x,hx⟩:=aK Y;have Z:=η hx;have hx':(aQ ks)[i]?=some (aB x):=by rw[aZ];exact bJ aB hx
  obtain⟨g1,g2⟩:=hS x Z;have hst:(ks.take (i+1)).flatMap S=(ks.take i).flatMap S++S x:=by rw[Bh,hx,flatMap_append];simp
  have h3:=J i;have h4:=mD Z;refine aD (a8 (aC (aE mixed (ak 8 [(4,.row i (aB x))] rfl (kc g2 ?_)))));refine kz 2 rfl (ag [] rfl ⟨i+1,Y,by dsimp only;omega,sl (he:=⟨rfl,by rw[hst,←Aw];rfl,rfl,rfl,rfl,trivial⟩)⟩) (hc:=⟨by simp only[Aa];omega,trivial⟩)
 have hge:=geD hb O hi;subst hge;have h3:=J ks.length;refine aM (a8 (sg rfl (aC (aL (fun _:Unit=>mk [(3,.one (.vp 3 0)),(7,Go.AM.T (pre++nm++(ks.take ks.length).flatMap S)),(12,I .i64 0)] [(3,.var 37 (b9 (.mk f n nm zTy ks [] [])))]) (fun _=>True) (fun _=>0) () trivial sl ?_))));intro _ _;refine a8 (sg rfl (aA rfl (fun hb=>by simp[l9,aR,gM,c8] at hb) (fun _=>aM (a8 (sg rfl (aC (aL (fun _:Unit=>mk [(3,.one (.vp 3 0)),(7,Go.AM.T (pre++nm++(ks.take ks.length).flatMap S)),(13,I .i64 0)] [(3,.var 37 (b9 (.mk f n nm zTy ks [] [])))]) (fun _=>True) (fun _=>0) () trivial sl ?_)))))));intro _ _;exact a8 (sg rfl (aA rfl (fun hb=>by simp[l9,aR,gM,c8] at hb) (fun _=>aM (sg rfl (aI (rtT (hc:=.refl))) (hc:=⟨by simp only[Aa,Aj,length_nil];omega,trivial⟩)))))
theorem aPf {c:Core}(hc:KC c) (I:aU c≤1000000):aW Tryz.prog 12 [.pa (aB c),.pa (aB c)] [] (B true) []:=by
 obtain⟨s,_,hs⟩:=a0m _ c (le_refl _) hc I;refine bT (n:=10) tok Tryz.func12 rfl rfl rfl ?_;refine sg rfl (sk 1 rfl (kc hs ?_));refine ak 1 [] rfl (kc hs ?_);refine kz 2 rfl ?_;have e:decide (s=s)=true:=Ai rfl;exact aI (rtT (hv:=by show some (B (decide (s=s)))=some (B true);rw[e]))
def aOv (s:Str) (t:Ty) (c:Core):Core:=.mk 5 0 s t [c] [] []
def aGq (f a:Core):Core:=.mk 4 0 [] zTy [f,a] [] []
def xVC:Core:=.mk 1 0 [120] zTy [] [] []
theorem aLt (s:Str) (t:Ty) (c:Core) (h1:aW Tryz.prog 48 [tyV t] [] (tyV t) []) (h2:aW Tryz.prog 47 [.pa (aB c)] [] (.pa (aB c)) []):aW Tryz.prog 20 [Go.AM.T s,tyV t,.pa (aB c)] [] (.pa (aB (aOv s t c))) []:=by
 refine bT (n:=14) tok Tryz.func20 rfl rfl rfl ?_;exact sg rfl (sgh [(2,.pc (tyV t)),(4,.pc (.pa (aB c))),(5,.all)] rfl (aI (rtC trw)))
theorem aB7 (c a:Core) (h2:aW Tryz.prog 47 [.pa (aB c)] [] (.pa (aB c)) []) (h1:aW Tryz.prog 47 [.pa (aB a)] [] (.pa (aB a)) []):aW Tryz.prog 19 [.pa (aB c),.one (.c (.sl 10 [aB a]))] [] (.pa (aB (aGq c a))) []:=by
 refine bT (n:=23) tok Tryz.func19 rfl rfl rfl ?_;refine sg rfl (sgh [(1,.pc (.pa (aB c)))] rfl (a8 (sg rfl (aC (aL (fun i:Nat=>mk [(4,.one (.vp 4 0)),(5,.one (.vp 5 0)),(10,.one (.c (.sl 10 [aB a]))),(11,I .i64 1),(12,I .i64 i)] [(4,.var 37 bM),(5,.var 37 (b9 (if i=0 then c else aGq c a)))]) (fun i=>i≤1) (fun i=>1-i) 0 (Ak _) sl ?_)))));intro i hi;refine sg rfl (a8 (aA rfl (fun hb=>?_) (fun hb=>?_)))
 ·have J:i=0:=by
   have:(i:Int)<1:=φ hb;omega
  subst J;rw[θ rfl];exact aD (a8 (aC (sgh [(0,.row 0 (aB a))] rfl (ag [(2,.pc (.pa (aB a))),(3,.all)] rfl (ag [] rfl ⟨1,le_refl _,by dsimp only;omega,Sub.trans sl (vp 5 (aB (aGq c a)))⟩)))))
 have N:i=1:=by
  have:¬(i:Int)<1:=δ hb;omega
 subst N;rw[ψ (by omega)];exact aM (sg rfl (aI (rtC trw)))
def vM:Core:=.mk 10 0 aUt zTy [j5 2,j5 3] [] []
def xU (x:Core):Core:=.mk 10 0 aBn zTy [x,x] [] []
def aUv:Core:=aOv [120] aG5 (xU xVC)
def aKc:Core:=aGq aUv vM
theorem aNp (k:Nat) (b:Core):dA (k+2) (xU xVC) [120] b=xU b:=by
 have hx:dA (k+1) xVC [120] b=b:=by rw[dA];exact θ ⟨rfl,rfl⟩
 have hp:cD (dA (k+1)) [120] b [] [xVC,xVC]=([],[b,b]):=by
  unfold cD;rw[θ ⟨by simp[xVC,pfR],by simp⟩];simp[kC,hx]
 rw[dA,ψ (by rintro⟨h,_⟩;cases h),ψ (by rintro⟨h,_⟩;cases h),xU,oQ];have h0:gvN 10 aBn []=[]:=rfl;simp[zNm,zKs,zBs,h0,hp];rfl
def m0:Mod:=⟨[],[]⟩
theorem aQ3 (n:Nat):ST n [] aKc:=by
 have I:cB (QL 403) xVC:=aCj rfl (by decide) (by decide) (by decide);have J:∀i,cB (QL 403) (j5 i):=fun i=>aCj rfl (by decide) (by decide) (by decide)
 have N:cB (QL 403) (xU xVC):=aS.2 ⟨⟨rfl,fun h=>(by cases h),rfl,by simp,by decide,fun h=>(by cases h),by simp,by simp⟩,fun x hx=>by
  have:x=xVC:=by simpa using hx
  rw[this];exact I,by simp,by simp⟩
 have O:cB (QL 403) vM:=aS.2 ⟨⟨rfl,fun h=>(by cases h),rfl,by simp,by decide,fun h=>(by cases h),by simp,by simp⟩,fun x hx=>by
  have:x=j5 2∨x=j5 3:=by simpa using hx
  rcases this with rfl | rfl<;>exact J _,by simp,by simp⟩
 have W:cB (QL 403) aUv:=aS.2 ⟨⟨rfl,fun h=>(by cases h),rfl,by simp,by decide,fun _=>(by unfold nh;decide),by simp,by simp⟩,fun x hx=>by
  have:x=xU xVC:=by simpa using hx
  rw[this];exact N,by simp,by simp⟩
 refine⟨aS.2 ⟨⟨rfl,fun h=>(by cases h),rfl,by simp,by decide,fun h=>(by cases h),by simp,by simp⟩,fun x hx=>?_,by simp,by simp⟩,fun E _=>?_,fun x hx=>?_,by decide,by decide⟩
 ·have:x=aUv∨x=vM:=by simpa using hx
  rcases this with rfl | rfl
  ·exact W
  ·exact O
 ·have e:cw j3 E aKc r0=0:=by rfl
  rw[e];omega
 ·have e:tyR aKc=[]:=by rfl
  rw[e] at hx;cases hx
theorem aTa:m30 aKc=248:=by decide
theorem aEo:bK [] (m30 aKc) aKc=(xU vM,0):=by
 rw[aTa];show bK [] (247+1) (.mk 4 0 [] zTy [aUv,vM] [] [])=_;rw[jJ,ψ (by decide),θ (by decide),θ ⟨rfl,rfl⟩];show(dA (m30 (xU xVC)) (xU xVC) [120] vM,(0:Int))=_;rw[show m30 (xU xVC)=91+2 by decide,aNp]
theorem aKb:oB [] aKc=(xU vM,0):=by
 unfold oB;rw[aEo];rfl
theorem aWw:bK [] (m30 (xU vM)) (xU vM)=(.mk 10 0 aBn zTy [j5 6,vM] [] [],0):=by kernel_rfl
theorem aWv:bK [] (m30 (.mk 10 0 aBn zTy [j5 6,vM] [] [])) (.mk 10 0 aBn zTy [j5 6,vM] [] [])=(.mk 10 0 aBn zTy [j5 6,j5 6] [] [],0):=by kernel_rfl
theorem aWu:bK [] (m30 (.mk 10 0 aBn zTy [j5 6,j5 6] [] [])) (.mk 10 0 aBn zTy [j5 6,j5 6] [] [])=(j5 12,0):=by kernel_rfl
theorem aOu:b7 [] 10 0 aKc=(j5 12,4,0):=by
 show b7 [] (9+1) 0 aKc=_;rw[b7,ψ (by decide),aEo,θ rfl,ψ (by decide)];show b7 [] (8+1) 1 (xU vM)=_;rw[b7,ψ (by decide),aWw,θ rfl,ψ (by decide)];show b7 [] (7+1) 2 (.mk 10 0 aBn zTy [j5 6,vM] [] [])=_;rw[b7,ψ (by decide),aWv,θ rfl,ψ (by decide)];show b7 [] (6+1) 3 (.mk 10 0 aBn zTy [j5 6,j5 6] [] [])=_;rw[b7,ψ (by decide),aWu,θ rfl,ψ (by decide)];show b7 [] (5+1) 4 (j5 12)=_;rw[b7,θ (by decide)]
theorem aWx:KC (xU vM):=by
 have hi:∀i,i64 i→KC (j5 i):=fun i h=>.mk (by decide) (by decide) (by decide) (by unfold i64;omega) h (by simp)
 have hs:KC vM:=.mk (by decide) (by decide) (by decide) (by unfold i64;omega) (by unfold i64;omega) (fun x hx=>by
  have:x=j5 2∨x=j5 3:=by simpa using hx
  rcases this with rfl | rfl<;>exact hi _ (by unfold i64;omega))
 exact .mk (by decide) (by decide) (by decide) (by unfold i64;omega) (by unfold i64;omega) (fun x hx=>by
  have:x=vM:=by simpa using hx
  rw[this];exact hs)
theorem aLo:aW Tryz.prog 13 [] [] (B true) []:=by
 have J:cK 540000000000:=fun k hk=>aLp k (by omega)
 have N:BI [] m0.binds:=⟨by decide,fun b hb=>by cases hb⟩
 have h1:=aTz [73,110,116];have h2:=s7 [120];have h3:=aLu 2;have h4:=aLu 3;have O:aW Tryz.prog 48 [tyV aG5] [] (tyV aG5) []:=aLh J aG5 rfl (by decide);have I:aW Tryz.prog 48 [tyV zTy] [] (tyV zTy) []:=aLh J zTy rfl (by decide);have W:allT TyG aKc:=by
  have v:TyG zTy∧True∧True∧True:=⟨I,trivial,trivial,trivial⟩
  exact⟨I,⟨⟨O,⟨⟨I,⟨v,v,trivial⟩,trivial,trivial⟩,trivial⟩,trivial,trivial⟩,⟨I,⟨v,v,trivial⟩,trivial,trivial⟩,trivial⟩,trivial,trivial⟩
 have h5:=aLt [120] aG5 (xU xVC) O (pB _ _ (le_refl _) (by decide) W.2.1.1.2.1.1);have h6:=aB7 aUv vM (pB _ _ (le_refl _) (by decide) W.2.1.1) (pB _ _ (le_refl _) (by decide) W.2.1.2.1);have h7:=aLy J (n:=0) (U:=[]) (by omega) (by decide) (by simp) N (m:=m0) (aQ3 0);rw[show m0.binds=[] from rfl,aKb] at h7;have Z:=aRt J (n:=0) (U:=[]) (by decide) (by simp) N (m:=m0) 10 (by omega) (SG.of J (by omega) (by decide) N (aQ3 0));rw[show m0.binds=[] from rfl,aOu] at Z;have Y:ST 0 [] (j5 3):=(aCi (n:=0) (U:=[]) (w:=0) rfl (by decide) (by decide) (by decide)).st (by decide);have h9:=aLy J (n:=0) (U:=[]) (by omega) (by decide) (by simp) N (m:=m0) Y;rw[show oB m0.binds (j5 3)=(zC,21) from rfl] at h9;have h10:=aPf aWx (by decide);refine bT (n:=75) tok Tryz.func13 rfl rfl rfl ?_;exact sg rfl (sgh [(0,.pc (tyV aG5))] rfl (sgh [(0,.pc (.pa (aB xVC)))] rfl (sgh [(2,.all)] rfl (sgh [(0,.pc (.pa (aB (j5 2)))),(1,.pc (.pa (aB (j5 3)))),(2,.all)] rfl (sgh [(2,.pc (.pa (aB aUv))),(4,.all),(5,.pc (.pa (aB aKc)))] rfl (sgh [(2,.pc (eW (xU vM,0)))] rfl (sgh [(2,.pc (whV (j5 12,4,0)))] rfl (sgh [(1,.pc (.pa (aB (j5 3)))),(2,.pc (eW (zC,21)))] rfl (sgh [(2,.bv true),(6,.all),(8,.pc (B true)),(9,.bv true),(10,.bv true),(13,.bv true),(14,.bv true),(17,.bv true),(18,.bv true),(22,.bv true),(23,.bv true),(26,.bv true)] rfl (aI rtT))))))))))
def fA:Ty:=.mk 2 0 [97] []
def fB:Ty:=.mk 2 0 [98] []
def tcn (s:Str):Ty:=.mk 3 0 s []
def tap (f a:Ty):Ty:=.mk 4 0 [] [f,a]
def tal (s:Str) (t:Ty):Ty:=.mk 5 0 s [t]
def l7:Ty:=tap (tcn [76]) fA
def x5:Ty:=tap (tap (tcn [80]) fA) fB
def fId:Ty:=tal [98] (iR fB fB)
def aTo:Ty:=tap (tcn [75,64]) fA
def aJp:Str:=[66,111,111,108]
def FL:List Fld:=[⟨[78],0,2,0,tal [97] l7⟩,⟨[67],1,2,2,tal [97] (iR fA (iR l7 l7))⟩,⟨[80],0,1,2,tal [97] (tal [98] (iR fA (iR fB x5)))⟩,
 ⟨[70,97,108,115,101],0,2,0,tcn aJp⟩,⟨[84,114,117,101],1,2,0,tcn aJp⟩,⟨[75,64],0,1,2,tal [97] (iR fA (iR fId aTo))⟩]
theorem aPj:aW Tryz.prog 14 [] [] (.one (.c (.sl 8 (FL.map iO)))) []:=by
 have h1:=gD [76];have h2:=gD [80];have h3:=gD [75,64];have h4:=gD aJp;have h5:=sP fB fB;have h6:=oO [97] l7;have h7:=sP l7 l7;have h8:=sP fA (iR l7 l7);have h9:=oO [97] (iR fA (iR l7 l7));have I:=sP fB x5;have J:=sP fA (iR fB x5);have N:=oO [98] (iR fA (iR fB x5));have O:=oO [97] (tal [98] (iR fA (iR fB x5)));have W:=sP fId aTo;have Y:=sP fA (iR fId aTo);have Z:=oO [97] (iR fA (iR fId aTo));refine bT (n:=59) tok Tryz.func14 rfl rfl rfl ?_;refine sg rfl (sg rfl (AWp.sub (vp 1 (bD fA)) ?_));refine sg rfl (AWp.sub (vp 2 (bD fB)) ?_);exact sgh [(0,.pc (tyV (tcn [76]))),(2,.all)] rfl (sgh [(0,.pc (tyV (tcn [80]))),(2,.all),(5,.all)] rfl (sgh [(2,.pc (tyV (iR fB fB))),(3,.all)] rfl (sgh [(0,.pc (tyV (tcn [75,64]))),(2,.all)] rfl (sgh [(1,.pc (tyV (tal [97] l7))),(6,.pc (tyV (iR l7 l7))),(7,.pc (tyV (iR fA (iR l7 l7)))),(8,.pc (tyV (tal [97] (iR fA (iR l7 l7))))),(13,.pc (tyV (iR fB x5))),(14,.pc (tyV (iR fA (iR fB x5)))),(15,.pc (tyV (tal [98] (iR fA (iR fB x5))))),(16,.pc (tyV (tal [97] (tal [98] (iR fA (iR fB x5)))))),(18,.pc (tyV (tcn aJp))),(20,.pc (tyV (tcn aJp))),(25,.pc (tyV (iR fId aTo))),(26,.pc (tyV (iR fA (iR fId aTo)))),(27,.pc (tyV (tal [97] (iR fA (iR fId aTo))))),(29,.all)] rfl (aI rtT)))))
end Go.Proofs.YtockgoadliilhaaGreatDoor
