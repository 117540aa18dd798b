/-
  Texts Ly18 to Lx24 in one.
-/
import Derived.Test.YtglfogjcijokpaaGreatDoorM15
open List (foldl_append foldl_cons length_append length_cons length_eq_one_iff length_map length_nil length_take map_append mem_append mem_cons mem_cons_of_mem mem_cons_self mem_of_mem_take mem_singleton)
open Nat (le_refl zero_le)
namespace Go.Proofs.YtglfogjcijokpaaGreatDoor
open Go Go.AM
set_option maxRecDepth 20000
set_option maxHeartbeats 4000000
theorem aXg (s:Str) (a b:Int):(fJ s w9=none∧dM s a b=(zC,51))∨
  ∃(fn:FuncId) (r:Core),jZ Tryz.prog fn∧fJ s w9=some [.fn fn]∧(s=aKk→b=0→dM s a b=(zC,53))∧(¬(s=aKk∧b=0)→dM s a b=(r,0)∧aU Tryz.prog fn [I .i64 a,I .i64 b] [] (.pa (aB r)) []):=by
 by_cases h1:s=aVc
 ·subst h1;exact .inr ⟨_,_,sB (by kernel_rfl),rfl,fun h=>absurd h (by decide),fun _=>⟨rfl,a3p a b⟩⟩
 by_cases h2:s=aU9
 ·subst h2;exact .inr ⟨_,_,sB (by kernel_rfl),rfl,fun h=>absurd h (by decide),fun _=>⟨rfl,a3m a b⟩⟩
 by_cases h3:s=aVb
 ·subst h3;exact .inr ⟨_,_,sB (by kernel_rfl),rfl,fun h=>absurd h (by decide),fun _=>⟨rfl,a3n a b⟩⟩
 by_cases h4:s=aKk
 ·subst h4;refine .inr ⟨154,iQ (IntKind.i64.wrap (a.tdiv b)),sB (by kernel_rfl),rfl,fun _ h=>?_,fun h=>?_⟩
  ·subst h;rfl
  ·have hb:¬b=0:=fun e=>h ⟨rfl,e⟩
   refine⟨?_,a3o a b hb⟩;unfold dM;rw[ψ (by decide),ψ (by decide),ψ (by decide),ξ rfl,ψ hb]
 by_cases h5:s=nEq
 ·subst h5;exact .inr ⟨_,_,sB (by kernel_rfl),rfl,fun h=>absurd h (by decide),fun _=>⟨rfl,a6i a b⟩⟩
 by_cases q:s=nLt
 ·subst q;exact .inr ⟨_,_,sB (by kernel_rfl),rfl,fun h=>absurd h (by decide),fun _=>⟨rfl,a6h a b⟩⟩
 refine .inl ⟨?_,?_⟩
 ·unfold w9;simp only[fJ];rw[ψ (fun e=>h1 e.symm),ψ (fun e=>h2 e.symm),ψ (fun e=>h3 e.symm),ψ (fun e=>h4 e.symm),ψ (fun e=>h5 e.symm),ψ (fun e=>q e.symm)]
 ·unfold dM;rw[ψ h1,ψ h2,ψ h3,ψ h4,ψ h5,ψ q]
theorem aYs (m:Mod) (i:Int) (s:Str) (t:Ty) (a b:Core) (pa pb:CE) (hsa:aU Tryz.prog 30 [.pa (aB a)] [] (B (shC a)) []) (hsb:aU Tryz.prog 30 [.pa (aB b)] [] (B (shC b)) [])
  (O:shC a=false→aU Tryz.prog 124 [.pa (nU m),.pa (aB (.mk 10 i s t [a,b] [] [])),I .i64 (0:Nat)] [] (dP pa) [])
  (W:shC b=false→aU Tryz.prog 124 [.pa (nU m),.pa (aB (.mk 10 i s t [a,b] [] [])),I .i64 (1:Nat)] [] (dP pb) []):
  aU Tryz.prog 73 [.pa (nU m),.pa (aB (.mk 10 i s t [a,b] [] []))] [] (dP (if ¬shC a=true then pa else if ¬shC b=true then pb else if a.form=3∧b.form=3 then dM s a.n b.n else(zC,51))) []:=by
 refine bL (n:=76) tok Tryz.func73 rfl rfl rfl ?_;refine sg rfl (a8 (sg rfl (aC (aO (fun k:Nat=>mk [(2,.one (.vp 2 0)),(3,.one (.vp 3 0)),(4,.one (.vp 4 0)),(11,.one (.c (.sl 10 (aR [a,b])))),(12,I .i64 (2:Nat)),(13,I .i64 k)] [(2,.var 81 ((nU m).map .c)),(3,.var 34 (b7 (.mk 10 i s t [a,b] [] []))),(4,.var 34 bI)]) (fun k=>k≤2∧(0<k→shC a=true)∧(1<k→shC b=true)) (fun k=>2-k) 0 ⟨by omega,fun h=>absurd h (by omega),fun h=>absurd h (by omega)⟩ sl ?_))));rintro k ⟨hk,g1,g2⟩;refine sg rfl (a8 (aA rfl (fun hb=>?_) (fun hb=>?_)))
 ·have hlt:k<2:=by have:=θ hb;omega
  refine aD (a8 (aC ?_));by_cases h0:k=0
  ·subst h0;refine sgh [(1,.row 0 (aB a))] rfl (sk 1 rfl (kc hsa ?_));refine kz 1 rfl ?_;cases hs:shC a with
   | false=>
    have O:=O hs;rw[ξ Ao];refine aA rfl (fun _=>sk 3 rfl (kc O ?_)) (fun hb=>absurd hb (by decide));exact kz 4 rfl (aF (fM trw))
   | true=>
    exact aA rfl (fun hb=>absurd hb (by decide)) (fun _=>aD (ag [] rfl ⟨1,⟨by omega,fun _=>rfl,fun h=>absurd h (by omega)⟩,by dsimp only;omega,sl⟩))
  ·have h1:k=1:=by omega
   subst h1;have q:=g1 (by omega);refine sgh [(1,.row 1 (aB b))] rfl (sk 1 rfl (kc hsb ?_));refine kz 1 rfl ?_;cases hs:shC b with
   | false=>
    have W:=W hs;rw[ψ (fun h=>h q),ξ Ao];refine aA rfl (fun _=>sk 3 rfl (kc W ?_)) (fun hb=>absurd hb (by decide));exact kz 4 rfl (aF (fM trw))
   | true=>
    exact aA rfl (fun hb=>absurd hb (by decide)) (fun _=>aD (ag [] rfl ⟨2,⟨by omega,fun _=>q,fun _=>rfl⟩,by dsimp only;omega,sl⟩))
 have hk2:k=2:=by have:=Aa hb;omega
 subst hk2;have q:=g1 (by omega);have aa:=g2 (by omega);rw[ψ (fun h=>h q),ψ (fun h=>h aa)];refine aM (a8 (aE mixed (kc aY2 ?_)));have hmp:iA w9:=aBa;rcases aXg s a.n b.n with⟨hfd,hr⟩ | ⟨fn,r,Z,hfd,hdz,hok⟩
 ·--no such name
  refine ak 8 [(3,.look none)] rfl (az ?_);rw[hr,ite_self];exact a8 (aC (a8 (sg rfl (aA rfl (fun _=>aD (aA rfl (fun _=>sg rfl (aF (fM trw))) (fun hb=>absurd hb (by decide)))) (fun hb=>absurd hb (by decide))))))
 ·refine ak 8 [(3,.look (some [.fn fn]))] rfl (az (a8 (aC (a8 (sg rfl (aA rfl (fun hb=>by simp[uX] at hb) (fun _=>sgh [(2,.row 0 (aB a))] rfl ?_)))))));by_cases ha:a.form=3
  ·refine aA rfl (fun hb=>absurd hb (by simp[ha])) (fun _=>ag [(2,.row 1 (aB b))] rfl ?_);by_cases J:b.form=3
   ·rw[ξ ⟨ha,J⟩];refine aA rfl (fun hb=>absurd hb (by simp[J])) (fun _=>?_);by_cases hd:s=aKk
    ·subst hd;refine sgh [(3,.bv true),(6,.row 1 (aB b)),(10,.bv true)] rfl ?_;by_cases Y:b.n=0
     ·rw[hdz rfl Y];exact aA rfl (fun _=>sg rfl (aF (fM trw))) (fun hb=>absurd Y (Aa hb))
     ·obtain⟨e,hc⟩:=hok fun h=>Y h.2
      rw[e];refine aA rfl (fun hb=>absurd (θ hb) Y) (fun _=>aD (AWp.sub (Sub.fnClo 8 rfl) ?_));refine skh 11 [(3,.row 0 (aB a)),(8,.row 1 (aB b))] rfl (kv (args:=[I .i64 a.n,I .i64 b.n]) (caps:=[]) hc ?_ Z);exact kz 2 rfl (aF (fM trw))
    ·obtain⟨e,hc⟩:=hok fun h=>hd h.1
     rw[e];have hd':decide (s=aKk)=false:=Ae hd;refine sgh [(3,.bv false),(10,.bv false)] rfl (aA rfl nofun (fun _=>aD (AWp.sub (Sub.fnClo 8 rfl) ?_)));refine skh 11 [(3,.row 0 (aB a)),(8,.row 1 (aB b))] rfl (kv (args:=[I .i64 a.n,I .i64 b.n]) (caps:=[]) hc ?_ Z);exact kz 2 rfl (aF (fM trw))
   ·rw[ψ fun h=>J h.2];exact aA rfl (fun _=>sg rfl (aF (fM trw))) (fun hb=>absurd hb (by simp[J]))
  ·rw[ψ fun h=>ha h.1];exact aA rfl (fun _=>aD (aA rfl (fun _=>sg rfl (aF (fM trw))) (fun hb=>absurd hb (by simp[ha])))) (fun hb=>absurd hb (by simp[ha]))
section
variable {m:Mod}{f i:Int}{s:Str}{t:Ty}{ks:List Core}{bs:List Bind}{al:List Alt}{p:CE}
theorem a6f (h:aU Tryz.prog 69 [.pa (nU m),.pa (aB (.mk 1 i s t ks bs al))] [] (dP p) []):aU Tryz.prog 31 [.pa (nU m),.pa (aB (.mk 1 i s t ks bs al))] [] (dP p) []:=by
 refine bL (n:=48) tok Tryz.func31 rfl rfl rfl ?_;refine sg rfl (a8 (sg rfl (aC (sg rfl (aA rfl (fun _=>sk 2 rfl (kc h ?_)) (fun hb=>by simp[Core.form] at hb))))));exact kz 4 rfl (aF (fM trw))
theorem aY0 (hf:f=4∨f=6) (h:aU Tryz.prog 70 [.pa (nU m),.pa (aB (.mk f i s t ks bs al))] [] (dP p) []):aU Tryz.prog 31 [.pa (nU m),.pa (aB (.mk f i s t ks bs al))] [] (dP p) []:=by
 refine bL (n:=48) tok Tryz.func31 rfl rfl rfl ?_;refine sg rfl (a8 (sg rfl (aC (sg rfl (aA rfl (fun hb=>by have h0:f=1:=θ hb;omega) (fun _=>a8 (sg rfl ?_)))))));rcases hf with rfl | rfl
 ·refine aA rfl (fun _=>aD (aA rfl (fun _=>sk 2 rfl (kc h ?_)) (fun hb=>by simp[Core.form] at hb))) (fun hb=>by simp[Core.form] at hb);exact kz 4 rfl (aF (fM trw))
 ·refine aA rfl (fun hb=>by simp[Core.form] at hb) (fun _=>ag [] rfl (aA rfl (fun _=>sk 2 rfl (kc h ?_)) (fun hb=>by simp[Core.form] at hb)));exact kz 4 rfl (aF (fM trw))
theorem a6e (h:aU Tryz.prog 71 [.pa (nU m),.pa (aB (.mk 8 i s t ks bs al))] [] (dP p) []):aU Tryz.prog 31 [.pa (nU m),.pa (aB (.mk 8 i s t ks bs al))] [] (dP p) []:=by
 refine bL (n:=48) tok Tryz.func31 rfl rfl rfl ?_;refine sg rfl (a8 (sg rfl (aC (sg rfl (aA rfl (fun hb=>by simp[Core.form] at hb) (fun _=>a8 (sg rfl (aA rfl (fun hb=>by simp[Core.form] at hb) (fun _=>ag [] rfl (aA rfl (fun hb=>by simp[Core.form] at hb) (fun _=>sg rfl (aA rfl (fun _=>sk 2 rfl (kc h ?_)) (fun hb=>by simp[Core.form] at hb)))))))))))));exact kz 4 rfl (aF (fM trw))
theorem a6d (h:aU Tryz.prog 72 [.pa (nU m),.pa (aB (.mk 9 i s t ks bs al))] [] (dP p) []):aU Tryz.prog 31 [.pa (nU m),.pa (aB (.mk 9 i s t ks bs al))] [] (dP p) []:=by
 refine bL (n:=48) tok Tryz.func31 rfl rfl rfl ?_;refine sg rfl (a8 (sg rfl (aC (sg rfl (aA rfl (fun hb=>by simp[Core.form] at hb) (fun _=>a8 (sg rfl (aA rfl (fun hb=>by simp[Core.form] at hb) (fun _=>ag [] rfl (aA rfl (fun hb=>by simp[Core.form] at hb) (fun _=>sg rfl (aA rfl (fun hb=>by simp[Core.form] at hb) (fun _=>sg rfl (aA rfl (fun _=>sk 2 rfl (kc h ?_)) (fun hb=>by simp[Core.form] at hb)))))))))))))));exact kz 4 rfl (aF (fM trw))
theorem a3g (h:aU Tryz.prog 73 [.pa (nU m),.pa (aB (.mk 10 i s t ks bs al))] [] (dP p) []):aU Tryz.prog 31 [.pa (nU m),.pa (aB (.mk 10 i s t ks bs al))] [] (dP p) []:=by
 refine bL (n:=48) tok Tryz.func31 rfl rfl rfl ?_;refine sg rfl (a8 (sg rfl (aC (sg rfl (aA rfl (fun hb=>by simp[Core.form] at hb) (fun _=>a8 (sg rfl (aA rfl (fun hb=>by simp[Core.form] at hb) (fun _=>ag [] rfl (aA rfl (fun hb=>by simp[Core.form] at hb) (fun _=>sg rfl (aA rfl (fun hb=>by simp[Core.form] at hb) (fun _=>sg rfl (aA rfl (fun hb=>by simp[Core.form] at hb) (fun _=>sg rfl (aA rfl (fun _=>sk 2 rfl (kc h ?_)) (fun hb=>by simp[Core.form] at hb)))))))))))))))));exact kz 4 rfl (aF (fM trw))
theorem a6g (h1:¬f=1) (h4:¬f=4) (J:¬f=6) (O:¬f=8) (W:¬f=9) (I:¬f=10):aU Tryz.prog 31 [.pa (nU m),.pa (aB (.mk f i s t ks bs al))] [] (dP (if f=11 then(zC,52) else(zC,51))) []:=by
 refine bL (n:=48) tok Tryz.func31 rfl rfl rfl ?_;refine sg rfl (a8 (sg rfl (aC (sg rfl (aA rfl (fun hb=>absurd (θ hb) h1) (fun _=>a8 (sg rfl (aA rfl (fun hb=>absurd (θ hb) h4) (fun _=>ag [] rfl (aA rfl (fun hb=>absurd (θ hb) J) (fun _=>sg rfl (aA rfl (fun hb=>absurd (θ hb) O) (fun _=>sg rfl (aA rfl (fun hb=>absurd (θ hb) W) (fun _=>sg rfl (aA rfl (fun hb=>absurd (θ hb) I) (fun _=>sg rfl ?_)))))))))))))))));by_cases q:f=11
 ·subst q;rw[ξ rfl];exact aA rfl (fun _=>sg rfl (aF (fM trw))) (fun hb=>by simp[Core.form] at hb)
 ·rw[ψ q];exact aA rfl (fun hb=>absurd (θ hb) q) (fun _=>aD (sg rfl (aF (fM trw))))
end
theorem a3e (hI:cE 540000000000) {n:Nat}{U:List Str}(hn:n≤299) (hU:U.length≤480000) {m:Mod}(hB:BI U m.binds):∀(k:Nat) (c:Core),m30 c≤k→ST n U c→
  aU Tryz.prog 31 [.pa (nU m),.pa (aB c)] [] (dP (dT m.binds k c)) []:=by
 intro k
 induction k with
 | zero=>intro c h;have:=dB c;omega
 | succ k ih=>
 intro c h hc;obtain⟨f,i,s,t,ks,bs,al⟩:=c;have hsz:=hc.sz;have hm:∀x∈ks,m30 x<m30 (.mk f i s t ks bs al):=fun x hx=>by have:=dQ hx;rw[m30];omega
 have aa:∀x∈ks,aV x≤570000000000:=fun x hx=>by have:=bU x;have:=hm x hx;omega
 have ab:∀x∈ks,¬f=7→aU Tryz.prog 30 [.pa (aB x)] [] (B (shC x)) []:=fun x hx h7=>aE1 403 x (hc.kid h7 hx).q (aa x hx)
 have O:∀(j:Nat) (x:Core),ks[j]?=some x→¬f=7→ks.length≤2→aU Tryz.prog 124 [.pa (nU m),.pa (aB (.mk f i s t ks bs al)),I .i64 (j:Nat)] [] (dP (qY (dT m.binds k) (.mk f i s t ks bs al) j)) []:=fun j x hx h7 hl=>by
  have W:=δ hx;exact a6l m 403 (.mk f i s t ks bs al) x j (dT m.binds k) hx (by show ks.length≤_;omega) (hc.kid h7 W).q (aa x W) fun _=>ih x (by have:=hm x W;omega) (hc.kid h7 W)
 rw[eM];by_cases h1:f=1
 ·subst h1;rw[ξ rfl];exact a6f (aYt m (by have:=hB.len;omega) 1 i s t ks bs al)
 rw[ψ h1];by_cases J:f=4∨f=6
 ·rw[ξ J];by_cases ha:f=4∧(ks.headD zC).form=5
  ·rw[ξ ha];obtain⟨rfl,ha⟩:=ha;obtain⟨⟨a,b,rfl⟩,rfl,rfl⟩:=lT hc.q (.inl rfl);have Z:=hc.kid (by decide) (x:=a) φ;obtain⟨f',i',s',t',ks',bs',al'⟩:=a;have ha:f'=5:=ha;subst ha;obtain⟨⟨body,rfl⟩,rfl,rfl⟩:=dG Z.q (.inl rfl);exact aY0 (.inl rfl) (a32 hI hn hU m i s t body b i' s' t' hc)
  rw[ψ ha];by_cases hb:f=6∧(ks.headD zC).form=7
  ·rw[ξ hb];obtain⟨rfl,hb⟩:=hb;obtain⟨⟨a,rfl⟩,rfl,rfl⟩:=dG hc.q (.inr (.inl rfl));have Z:=hc.kid (by decide) (x:=a) φ;obtain⟨f',i',s',t',ks',bs',al'⟩:=a;have hb:f'=7:=hb;subst hb;obtain⟨⟨body,rfl⟩,rfl,rfl⟩:=dG Z.q (.inr (.inr rfl));exact aY0 (.inr rfl) (a30 hI hn hU m i s t body i' s' t' hc)
  rw[ψ hb];have hex:∃a ks1,ks=a::ks1∧ks.length≤2:=by
   rcases J with rfl | rfl
   ·obtain⟨⟨a,b,rfl⟩,_⟩:=lT hc.q (.inl rfl);exact⟨a,[b],rfl,le_refl _⟩
   ·obtain⟨⟨a,rfl⟩,_⟩:=dG hc.q (.inr (.inl rfl));exact⟨a,[],rfl,by simp⟩
  obtain⟨a,ks1,rfl,hl⟩:=hex;exact aY0 J (a3z m f i s t a ks1 bs al _ ha hb (O 0 a rfl (by omega) hl))
 rw[ψ J];by_cases h8:f=8
 ·rw[ξ h8];subst h8;obtain⟨⟨a,rfl⟩,rfl,h12⟩:=aDg hc.q;exact a6e (a6k hI hn hU m i s t a bs hc)
 rw[ψ h8];by_cases h9:f=9
 ·rw[ξ h9];subst h9;obtain⟨⟨a,rfl⟩,rfl,h12,hv⟩:=zY hc.q;have Z:=hc.kid (by decide) (x:=a) φ;have hca:=aa a φ;have hcc:=aY8 m i s t a al (qY (dT m.binds k) (.mk 9 i s t [a] [] al) 0) h12 (ab a φ (by decide)) (fun _=>O 0 a rfl (by decide) (by simp)) fun x hx=>by
   refine aYy x a hca (aPl 403 a Z.q hca) fun s1 l1 hg hlv=>?_
   have kx:=hc.alt hx;have hm':=eS hx;obtain⟨g1,_⟩:=aQm hn hU (s:=m30 (.mk 9 i s t [a] [] al)) (by rw[m30,bV,bV];omega) hsz kx Z (hv x hx) hg hlv;exact(aTa hI (by decide) (by decide) x.body _ _ hlv.symm (by have:=hv x hx;omega) g1).1
  exact a6d hcc
 rw[ψ h9];by_cases Y:f=10
 ·rw[ξ Y];subst Y;obtain⟨⟨a,b,rfl⟩,rfl,rfl⟩:=lT hc.q (.inr rfl);exact a3g (aYs m i s t a b _ _ (ab a φ (by decide)) (ab b (η _ φ) (by decide)) (fun _=>O 0 a rfl (by decide) (le_refl _)) (fun _=>O 1 b rfl (by decide) (le_refl _)))
 rw[ψ Y];exact a6g h1 (fun e=>J (.inl e)) (fun e=>J (.inr e)) h8 h9 Y
theorem a42:UOk zTy:=⟨by decide,by unfold zTy;rw[fvm];decide⟩
noncomputable def nI (bd:List Bind) (c:Core):CE:=if shC c=true then(zC,21) else if(dT bd (m30 c) c).2=0 then((dT bd (m30 c) c).1,0) else(zC,(dT bd (m30 c) c).2)
theorem a3d (J:cE 540000000000) {D M X:Nat}(I:M+D≤700000) {c:Core}(hc:CG D M X c) (O:¬([]:Str)∈tyR c):aU Tryz.prog 32 [.pa (aB c),Go.AM.T [],tyV zTy] [] (.pa (aB c)) []:=by
 have h:=(aE3 J I (m30 c) c (le_refl _) hc [] zTy a42).imp;rwa [a07 (m30 c) c (le_refl _) hc.q O] at h
section
variable {n:Nat}{U:List Str}
theorem a35 (I:cE 540000000000) (hn:n≤299) (J:U.length≤480000) (hz:¬([]:Str)∈U) {m:Mod}(O:BI U m.binds) {c:Core}(hc:ST n U c):
  aU Tryz.prog 10 [.pa (nU m),.pa (aB c)] [] (dP (nI m.binds c)) []:=by
 have hcs:=bU c;have W:=hc.sz;have Y:=aE1 403 c hc.q (by omega);have Z:=a3e I hn J O (m30 c) c (le_refl _) hc;have hok:=aGn I hn J O (m30 c) c (le_refl _) hc;unfold nI;generalize dT m.binds (m30 c) c=p at *;refine bL (n:=25) tok Tryz.func10 rfl rfl rfl ?_;refine sg rfl (a8 (sk 1 rfl (kc Y ?_)));refine az ?_;cases hs:shC c with
 | true=>
  rw[ξ rfl];exact aA rfl (fun _=>sg rfl (aF (fM trw))) nofun
 | false=>
  rw[ψ Ao];refine aA rfl nofun (fun _=>aD (sk 3 rfl (kc Z ?_)));refine kz 6 rfl ?_;obtain⟨r,e⟩:=p;dsimp only at hok ⊢;by_cases he:e=0
  ·subst he;have hr:=hok rfl;have hzz:=a3d I (by decide) (hr.cg (n:=n+1) (by omega) W J) (fun h=>hz (hr.ty _ h));rw[ξ rfl];refine a8 (sg rfl (aA rfl (fun hb=>absurd hb (by decide)) (fun _=>aD (sk 2 rfl (kc hzz ?_)))));exact kz 2 rfl (aF (fM trw))
  ·rw[ψ he];exact a8 (sg rfl (aA rfl (fun _=>sg rfl (aF (fM trw))) (fun hb=>absurd hb (by simp[he]))))
end
section
variable {n:Nat}{U:List Str}
end
def aKl (s:Str) (t:Ty) (c:Core):Core:=.mk 5 0 s t [c] [] []
def aJ3 (f a:Core):Core:=.mk 4 0 [] zTy [f,a] [] []
def xVC:Core:=.mk 1 0 [120] zTy [] [] []
theorem aY7 (s:Str) (t:Ty) (c:Core) (h1:aU Tryz.prog 80 [tyV t] [] (tyV t) []) (h2:aU Tryz.prog 74 [.pa (aB c)] [] (.pa (aB c)) []):aU Tryz.prog 37 [Go.AM.T s,tyV t,.pa (aB c)] [] (.pa (aB (aKl s t c))) []:=by
 refine bL (n:=14) tok Tryz.func37 rfl rfl rfl ?_;exact sg rfl (sgh [(2,.pc (tyV t)),(4,.pc (.pa (aB c))),(5,.all)] rfl (aF (rtC trw)))
theorem aY9 (c a:Core) (h2:aU Tryz.prog 74 [.pa (aB c)] [] (.pa (aB c)) []) (h1:aU Tryz.prog 74 [.pa (aB a)] [] (.pa (aB a)) []):aU Tryz.prog 36 [.pa (aB c),.one (.c (.sl 10 [aB a]))] [] (.pa (aB (aJ3 c a))) []:=by
 refine bL (n:=23) tok Tryz.func36 rfl rfl rfl ?_;refine sg rfl (sgh [(1,.pc (.pa (aB c)))] rfl (a8 (sg rfl (aC (aO (fun i:Nat=>mk [(4,.one (.vp 4 0)),(5,.one (.vp 5 0)),(10,.one (.c (.sl 10 [aB a]))),(11,I .i64 1),(12,I .i64 i)] [(4,.var 34 bI),(5,.var 34 (b7 (if i=0 then c else aJ3 c a)))]) (fun i=>i≤1) (fun i=>1-i) 0 (Ak _) sl ?_)))));intro i hi;refine sg rfl (a8 (aA rfl (fun hb=>?_) (fun hb=>?_)))
 ·have q:i=0:=by
   have:(i:Int)<1:=θ hb;omega
  subst q;rw[ξ rfl];exact aD (a8 (aC (sgh [(0,.row 0 (aB a))] rfl (ag [(2,.pc (.pa (aB a))),(3,.all)] rfl (ag [] rfl ⟨1,le_refl _,by dsimp only;omega,Sub.trans sl (vp 5 (aB (aJ3 c a)))⟩)))))
 have J:i=1:=by
  have:¬(i:Int)<1:=Aa hb;omega
 subst J;rw[ψ (by omega)];exact aM (sg rfl (aF (rtC trw)))
inductive GC:Nat→Core→Prop
 | var {s:Str} (h:s∈nm6):GC 4 (.mk 1 0 s zTy [] [] [])
 | con {s:Str} (h:s.length≤8):GC 9 (.mk 2 0 s zTy [] [] [])
 | int {n:Int} (h: -100≤n∧n≤100):GC 1 (.mk 3 n [] zTy [] [] [])
 | app {m n:Nat} {a b:Core} (ha:GC m a) (hb:GC n b):GC (m+n+1) (.mk 4 0 [] zTy [a,b] [] [])
 | lam {m k:Nat} {s:Str} {t:Ty} {a:Core} (h:s∈nm6) (ht:GT k t) (hk:k≤100) (ha:GC m a):GC (m+4) (.mk 5 0 s t [a] [] [])
 | tapp {m k:Nat} {t:Ty} {a:Core} (ht:GT k t) (hk:k≤100) (ha:GC m a):GC (m+1) (.mk 6 0 [] t [a] [] [])
 | tlam {m:Nat} {s:Str} {a:Core} (h:s∈tvN) (ha:GC m a):GC (m+20) (.mk 7 0 s zTy [a] [] [])
 | lt {m n k:Nat} {s:Str} {t:Ty} {a b:Core} (h:s∈nm6) (ht:GT k t) (hk:k≤100) (ha:GC m a) (hb:GC n b):GC (m+n+5) (.mk 8 0 [] zTy [a] [.mk s t b] [])
 | case1 {m n k:Nat} {t:Ty} {a b:Core} {f i:Int} {s:Str} {vs:List Str} (ht:GT k t) (hk:k≤100) (ha:GC m a) (hb:GC n b) (h1:1≤f∧f≤3) (h2: -100≤i∧i≤100) (h3:s.length≤8) (h4:∀x∈vs,x∈nm6) (h5:vs.length≤2):GC (m+n+20) (.mk 9 0 [] t [a] [] [.mk f i s vs b])
 | case2 {m n o k:Nat} {t:Ty} {a b c:Core} {f i:Int} {s:Str} {vs:List Str} {f' i':Int} {s':Str} {vs':List Str} (ht:GT k t) (hk:k≤100) (ha:GC m a) (hb:GC n b) (hc:GC o c) (h1:1≤f∧f≤3) (h2: -100≤i∧i≤100) (h3:s.length≤8) (h4:∀x∈vs,x∈nm6) (h5:vs.length≤2) (h1':1≤f'∧f'≤3) (h2': -100≤i'∧i'≤100) (h3':s'.length≤8) (h4':∀x∈vs',x∈nm6) (h5':vs'.length≤2):GC (m+n+o+40) (.mk 9 0 [] t [a] [] [.mk f i s vs b,.mk f' i' s' vs' c])
 | prim {m n:Nat} {s:Str} {a b:Core} (h:s∈aR8) (ha:GC m a) (hb:GC n b):GC (m+n+5) (.mk 10 0 s zTy [a,b] [] [])
 | fail {k:Nat} {t:Ty} (ht:GT k t) (hk:k≤100):GC 1 (.mk 11 0 [] t [] [] [])
def aIa (l:List (Str×Ty)):Env:=l.foldl (fun Γ p=>if p.1=[] then Γ else upd Γ p.1 p.2) e0
theorem aB7 (l:List (Str×Ty)) (s:Str) (t:Ty):aIa (l++[(s,t)])=if s=[] then aIa l else upd (aIa l) s t:=by
 unfold aIa;rw[Bv];rfl
theorem aS0 (l:List (Str×Ty)) (t:Ty):aIa (l++[([],t)])=aIa l:=by rw[aB7,ξ rfl]
theorem aB8 (l:List (Str×Ty)) {s:Str}(hs:s∈nm6) (t:Ty):aIa (l++[(s,t)])=upd (aIa l) s t:=by
 rw[aB7,ψ];rintro rfl;exact absurd hs (by decide)
theorem aB6:∀(l:List (Str×Ty)) (Γ:Env) (x:Str) (w:Ty),l.foldl (fun Γ p=>if p.1=[] then Γ else upd Γ p.1 p.2) Γ x=some w→Γ x=some w∨∃p∈l,p.2=w
 | [],Γ,x,w,h=>.inl h
 | p::l,Γ,x,w,h=>by
  rcases aB6 l _ x w h with h | ⟨q,I,e⟩
  ·have h:(if p.1=[] then Γ else upd Γ p.1 p.2) x=some w:=h;by_cases e:p.1=[]
   ·rw[ξ e] at h;exact .inl h
   ·rw[ψ e] at h;unfold upd at h;split at h
    ·exact .inr ⟨p,φ,Option.some.inj h⟩
    ·exact .inl h
  ·exact .inr ⟨q,η _ I,e⟩
theorem aYg:∀(l:List (Str×Ty)) (Γ:Env) (k:Nat) (x:Str×Ty),l[k]?=some x→¬x.1=[]→(∀(j:Nat) (y:Str×Ty),k<j→l[j]?=some y→¬y.1=x.1)→l.foldl (fun Γ p=>if p.1=[] then Γ else upd Γ p.1 p.2) Γ x.1=some x.2:=by
 intro l
 induction l with
 | nil=>intro Γ k x h;simp at h
 | cons p l ih=>
  intro Γ k x h hx J;rw[Ck];cases k with
  | succ k=>exact ih _ k x (by simpa using h) hx fun j y hjk I=>J (j+1) y (by omega) (by simpa using I)
  | zero=>
   have e:p=x:=by simpa using h
   subst e;rw[ψ hx];have O:∀(m:List (Str×Ty)) (Γ:Env),(∀y∈m,¬y.1=p.1)→m.foldl (fun Γ p=>if p.1=[] then Γ else upd Γ p.1 p.2) Γ p.1=Γ p.1:=by
    intro m
    induction m with
    | nil=>intro Γ _;rfl
    | cons q m W=>
     intro Γ Y;rw[Ck,W _ fun y I=>Y y (η _ I)];split
     ·rfl
     ·exact aS fun e=>Y q φ e.symm
   rw[O l _ fun y I=>by
    obtain⟨j,Z,e⟩:=List.getElem_of_mem I
    exact J (j+1) y (by omega) (by rw[Bg,List.getElem?_eq_getElem Z,e])]
   unfold upd;rw[ξ rfl]
structure GCW (v:Gv) (m:Nat) (c:Core) (t:Ty):Prop where
 g:GC m c
 w:WT v.vars (aIa v.l) c t
theorem GCW.less {v:Gv}{u t:Ty}{m:Nat}{c:Core}(h:GCW (dH v [] u) m c t):GCW v m c t:=⟨h.g,by have:=h.w;unfold dH at this;rwa [aS0] at this⟩
theorem GCW.in {v:Gv}{s:Str}{u t:Ty}{m:Nat}{c:Core}(hs:s∈nm6) (h:GCW (dH v s u) m c t):WT v.vars (upd (aIa v.l) s u) c t:=by have:=h.w;unfold dH at this;rwa [aB8 _ hs] at this
theorem GCW.in2 {v:Gv}{s s':Str}{u q t:Ty}{m:Nat}{c:Core}(hs:s∈nm6) (I:s'∈nm6) (h:GCW (dH (dH v s u) s' q) m c t):WT v.vars (upd (upd (aIa v.l) s u) s' q) c t:=by
 have:=h.in I;unfold dH at this;rwa [aB8 _ hs] at this
structure Gok (v:Gv):Prop where
 all:∀x∈v.l,(x.1=[]∨x.1∈nm6)∧∃k,k≤100∧GTW v.vars k x.2
 vars:Sh8 v.vars
 d0:0≤v.deep
 len:(v.l.length:Int)≤v.deep
 vlen:(v.vars.length:Int)≤v.deep+1
theorem Gok.more {v:Gv}(h:Gok v) {s:Str}{t:Ty}{k:Nat}(hs:s=[]∨s∈nm6) (ht:GTW v.vars k t) (hk:k≤100):Gok (dH v s t):=by
 obtain⟨h1,h2,h3,h4,h5⟩:=h;refine⟨fun x hx=>?_,h2,by show 0≤v.deep+1;omega,?_,by show(v.vars.length:Int)≤v.deep+1+1;omega⟩
 ·rcases χ.1 hx with hx | hx
  ·exact h1 x hx
  ·rw[κ.1 hx];exact⟨hs,k,hk,ht⟩
 ·show((v.l++[(s,t)]).length:Int)≤v.deep+1;rw[Ab];simp only[Bl,List.length_nil];omega
theorem Gok.env {v:Gv}(h:Gok v) {x:Str}{w:Ty}(hx:aIa v.l x=some w):TW v.vars w:=by
 rcases aB6 v.l e0 x w hx with q | ⟨p,hp,e⟩
 ·cases q
 ·obtain⟨_,_,_,g⟩:=h.all p hp;rw[←e];exact g.w
def aK8 (L:List (Str×Ty)) (f g:Nat→Bool):Nat→List Int→Option Str×List Int
 | 0,l=>(none,l)
 | k+1,l=>if ¬(L[k]?.getD ([],zTy)).1=[]∧f k=true∧g k=true then(if 0<(uW l 3).1 then(some (L[k]?.getD ([],zTy)).1,(uW l 3).2) else aK8 L f g k (uW l 3).2) else aK8 L f g k l
theorem aDq (L:List (Str×Ty)) (f g:Nat→Bool):∀(k:Nat) (l:List Int),k≤L.length→Ok l→Ok (aK8 L f g k l).2∧∀s,(aK8 L f g k l).1=some s→¬s=[]∧∃(j:Nat) (x:Str×Ty),L[j]?=some x∧x.1=s∧f j=true∧g j=true
 | 0,l,_,h=>⟨h,fun s hs=>by simp[aK8] at hs⟩
 | k+1,l,hk,h=>by
  rw[aK8];split
  ·rename_i hc;split
   ·refine⟨rS h 3,fun s hs=>?_⟩;simp only[Option.some.injEq] at hs;subst hs;obtain⟨x,hx⟩:=aL (l:=L) (k:=k) (by omega);rw[hx] at hc ⊢;exact⟨hc.1,k,x,hx,rfl,hc.2⟩
   ·exact aDq L f g k _ (by omega) (rS h 3)
  ·exact aDq L f g k _ (by omega) h
def vRt (v:Gv):List R:=(zB v).map R.c
def tR (t:Ty):List R:=(bH t).map R.c
def bb (f:Int) (s a:Str):Bool:=bif decide (f=3) then decide (s=a) else false
theorem iY {f:Int}{s a:Str}(h:bb f s a=true):f=3∧s=a:=by
 unfold bb at h;by_cases h1:f=3
 ·by_cases h2:s=a
  ·exact⟨h1,h2⟩
  ·simp[h2] at h
 ·simp[h1] at h
theorem aIr {f:Int}{s a:Str}{n k:Nat}(h:(bif decide (f=3) then bif decide (s=a) then decide ((n:Int)=(k:Int)) else false else bif false then decide ((n:Int)=(k:Int)) else false)=true):bb f s a=true∧n=k:=by
 unfold bb;by_cases h1:f=3
 ·by_cases h2:s=a
  ·simp[h1,h2] at h ⊢;omega
  ·simp[h2] at h
 ·simp[h1] at h
section
variable {V:List Str}{t hd:Ty}{L:List Ty}
theorem TW.of_fn {a b:Ty}(h:TW V (eE a b)):TW V a∧TW V b:=by
 generalize e:eE a b=t at h;cases h with
 | var h=>cases e
 | int=>exact absurd e gC
 | bool=>exact absurd e jU
 | lst h=>exact absurd e fZ
 | pr h1 h2=>exact absurd e qZ
 | fn h1 h2=>obtain⟨rfl,rfl⟩:=mX e;exact⟨h1,h2⟩
theorem TW.sp (h:TW V t) (hs:spR t=(hd,L)):(∃s,t=.mk 2 0 s []∧hd=.mk 2 0 s []∧L=[])∨(t=iZ∧hd=iZ∧L=[])∨(t=iE∧hd=iE∧L=[])∨(∃a,t=tLs a∧TW V a∧hd=.mk 3 0 [76] []∧L=[a])∨
  (∃a b,t=tPr a b∧TW V a∧TW V b∧hd=.mk 3 0 [80] []∧L=[a,b])∨∃a b,t=eE a b∧hd=.mk 3 0 arrow []∧L=[a,b]:=by
 cases h with
 | @var s h=>rw[aUn] at hs;cases hs;exact .inl ⟨s,rfl,rfl,rfl⟩
 | int=>unfold iZ at hs;rw[vM] at hs;cases hs;exact .inr (.inl ⟨rfl,rfl,rfl⟩)
 | bool=>unfold iE at hs;rw[vM] at hs;cases hs;exact .inr (.inr (.inl ⟨rfl,rfl,rfl⟩))
 | @lst a h=>unfold tLs at hs;rw[vN,vM] at hs;cases hs;exact .inr (.inr (.inr (.inl ⟨a,rfl,h,rfl,rfl⟩)))
 | @pr a b h1 h2=>unfold tPr at hs;rw[vN,vN,vM] at hs;cases hs;exact .inr (.inr (.inr (.inr (.inl ⟨a,b,rfl,h1,h2,rfl,rfl⟩))))
 | @fn a b h1 h2=>unfold eE tapp at hs;rw[vN,vN,vM] at hs;cases hs;exact .inr (.inr (.inr (.inr (.inr ⟨a,b,rfl,rfl,rfl⟩))))
theorem TW.sp_int (h:TW V t) (hs:spR t=(hd,L)) (hh:hd.form=3∧hd.name=[73,110,116]):t=iZ:=by
 rcases h.sp hs with⟨s,_,rfl,_⟩ | ⟨h,_⟩ | ⟨_,rfl,_⟩ | ⟨a,_,_,rfl,_⟩ | ⟨a,b,_,_,_,rfl,_⟩ | ⟨a,b,_,rfl,_⟩
 ·exact absurd hh.1 (by simp[Ty.form])
 ·exact h
 ·exact absurd hh.2 (by simp[iE,Ty.name])
 ·exact absurd hh.2 (by simp[Ty.name])
 ·exact absurd hh.2 (by simp[Ty.name])
 ·exact absurd hh.2 (by simp[Ty.name,arrow])
theorem TW.sp_bool (h:TW V t) (hs:spR t=(hd,L)) (hh:hd.form=3∧hd.name=[66,111,111,108]):t=iE:=by
 rcases h.sp hs with⟨s,_,rfl,_⟩ | ⟨_,rfl,_⟩ | ⟨h,_⟩ | ⟨a,_,_,rfl,_⟩ | ⟨a,b,_,_,_,rfl,_⟩ | ⟨a,b,_,rfl,_⟩
 ·exact absurd hh.1 (by simp[Ty.form])
 ·exact absurd hh.2 (by simp[iZ,Ty.name])
 ·exact h
 ·exact absurd hh.2 (by simp[Ty.name])
 ·exact absurd hh.2 (by simp[Ty.name])
 ·exact absurd hh.2 (by simp[Ty.name,arrow])
theorem TW.sp_lst {x:Ty}(h:TW V t) (hs:spR t=(hd,[x])) (hh:hd.form=3∧hd.name=[76]):t=tLs x∧TW V x:=by
 rcases h.sp hs with⟨s,_,_,e⟩ | ⟨_,_,e⟩ | ⟨_,_,e⟩ | ⟨a,h1,h2,rfl,e⟩ | ⟨a,b,_,_,_,rfl,e⟩ | ⟨a,b,_,rfl,e⟩
 ·cases e
 ·cases e
 ·cases e
 ·cases e;exact⟨h1,h2⟩
 ·cases e
 ·cases e
theorem TW.sp_pr {x y:Ty}(h:TW V t) (hs:spR t=(hd,[x,y])) (hh:hd.form=3∧hd.name=[80]):t=tPr x y∧TW V x∧TW V y:=by
 rcases h.sp hs with⟨s,_,_,e⟩ | ⟨_,_,e⟩ | ⟨_,_,e⟩ | ⟨a,h1,h2,rfl,e⟩ | ⟨a,b,h1,h2,h3,rfl,e⟩ | ⟨a,b,_,rfl,e⟩
 ·cases e
 ·cases e
 ·cases e
 ·cases e
 ·cases e;exact⟨h1,h2,h3⟩
 ·exact absurd hh.2 (by simp[Ty.name,arrow])
end
def aAa (n:Nat) (t:Ty):Prop:=∀(v:Gv) (l:List Int) (left:Int),Gok v→TW v.vars t→v.deep+n≤200→Ok l→
 ∃(c:Core) (l':List Int) (m:Nat),GCW v m c t∧m≤20*n∧Ok l'∧aU Tryz.prog 51 [.one (.vp 700 0),.pa (zB v),tyV t] (mO l left) (.pa (aB c)) (mO l' left)
def a60:Code→Code | .seq _ b=>b | c=>c
noncomputable def a5w:Code:=a60 (a60 (Tryz.f51.body.getD .skip))
theorem jF (v:Gv) (t:Ty) (l:List Int) (left:Int) (f g:Nat→Bool) (out:Option Str×List Int) (hl:Ok l) (hL:v.l.length≤200) (hf:∀k x,v.l[k]?=some x→aU Tryz.prog 9 [tyV x.2,tyV t] [] (B (f k)) [])
  (hgh:∀k,k<v.l.length→aU Tryz.prog 108 [.one (.c (.sl 5 (v.l.map uD))),I .i64 k] [] (B (g k)) []) (hout:aK8 v.l f g v.l.length l=out) {res:V} {hout':List (Nat×AObj)}
  (hsm:∀s l1,out=(some s,l1)→res=.pa (aB (.mk 1 0 s zTy [] [] []))∧hout'=mO l1 left)
  (hnn:∀l1,out=(none,l1)→AWp none Tryz.prog 166 (keys (mO l left)) a5w (mk [(0,.one (.vp 700 0)),(4,.one (.vp 4 0)),(5,.one (.vp 5 0)),(6,.one (.vp 6 0))] ([(4,.var 67 (vRt v)),(5,.var 30 (tR t)),(6,.var 34 bI)]++mO l1 left)) (fun ex st=>(ex=.normal∨ex=.ret)∧Fin tr.flat Tryz.f51 st (mO l left) res hout')):
  aU Tryz.prog 51 [.one (.vp 700 0),.pa (zB v),tyV t] (mO l left) res hout':=by
 have hkl:(v.l.map uD).length=v.l.length:=ζ _;refine bL (n:=166) tok Tryz.func51 rfl rfl rfl ?_;refine sg rfl (a8 (sg rfl (aC (aO (fun x:Nat×List Int=>mk [(0,.one (.vp 700 0)),(4,.one (.vp 4 0)),(5,.one (.vp 5 0)),(6,.one (.vp 6 0)),(7,I .i64 ((x.1:Int)-1))] ([(4,.var 67 (vRt v)),(5,.var 30 (tR t)),(6,.var 34 [.c (.int .i64 0),.c (.int .i64 0),.c (.str []),.c (.int .i64 0),.c (.int .i64 0),.c (.str []),.c .nl,.c .nl,.c .nl,.c .nl])]++mO x.2 left)) (fun x=>x.1≤v.l.length∧Ok x.2∧aK8 v.l f g x.1 x.2=out) (fun x=>x.1) (v.l.length,l) ⟨le_refl _,hl,hout⟩ (sl (he:=⟨rfl,rfl,rfl,rfl,by rw[←hkl];rfl,trivial⟩)) ?_))));rintro⟨k,Y⟩ ⟨hk,J,q⟩;dsimp only at hk J q ⊢;refine a8 (sg rfl (aA rfl (fun hb=>?_) (fun hb=>?_)))
 ·have hk0:0<k:=by have:=θ hb;omega
  obtain⟨k,rfl⟩:∃j,k=j+1:=⟨k-1,by omega⟩
  obtain⟨⟨xs,W⟩,hx⟩:=aL (l:=v.l) (k:=k) (by omega);have hx':=bM uD hx;have hki:((k+1:Nat):Int)-1=(k:Int):=by omega
  rw[hki];rw[aK8,hx] at q;dsimp only[Option.getD] at q;have O:=hf k _ hx;have Z:=hgh k (by omega);have hc3:=aPh Y left 3 (by decide) J;dsimp only at O;refine aD (a8 (aC (a8 ?_)));by_cases h1:xs=[]
  ·rw[ψ (fun h=>h.1 h1)] at q;have h1':(!decide (xs=[]))=false:=by rw[Af h1];rfl
   exact ag [(3,.row k (uD (xs,W))),(7,.bv false),(16,.bv false)] rfl (aA rfl nofun (fun _=>aD (ag [] rfl ⟨(k,Y),⟨by dsimp only;omega,J,q⟩,by dsimp only;omega,sl⟩)))
  have h1':(!decide (xs=[]))=true:=by rw[Ae h1];rfl
  cases h2:f k with
  | false=>
   rw[ψ (fun h=>by rw[h2] at h;cases h.2.1)] at q;rw[h2] at O;refine aE mixed (ak 15 [(3,.row k (uD (xs,W))),(7,.bv true),(11,.row k (uD (xs,W)))] rfl (kcG O ?_ (hw:=h1')));exact ak 12 [(16,.bv true)] rfl (az (aA rfl nofun (fun _=>aD (ag [] rfl ⟨(k,Y),⟨by dsimp only;omega,J,q⟩,by dsimp only;omega,sl⟩))))
  | true=>
  rw[h2] at O;cases h3:g k with
  | false=>
   rw[ψ (fun h=>by rw[h3] at h;cases h.2.2)] at q;rw[h3] at Z;refine aE mixed (ak 15 [(3,.row k (uD (xs,W))),(7,.bv true),(11,.row k (uD (xs,W)))] rfl (kcG O ?_ (hw:=h1')));refine ak 5 [(16,.bv true)] rfl (kcG Z ?_);exact kz 6 rfl (aA rfl nofun (fun _=>aD (ag [] rfl ⟨(k,Y),⟨by dsimp only;omega,J,q⟩,by dsimp only;omega,sl⟩)))
  | true=>
  rw[ξ ⟨h1,h2,h3⟩] at q;rw[h3] at Z;refine aE mixed (ak 15 [(3,.row k (uD (xs,W))),(7,.bv true),(11,.row k (uD (xs,W)))] rfl (kcG O ?_ (hw:=h1')));refine ak 5 [(16,.bv true)] rfl (kcG Z ?_);refine ak 3 [] rfl (kcG hc3 ?_);refine kz 2 rfl (aA rfl (fun hb=>?_) (fun hb=>?_))
  ·have hb':0<(uW Y 3).1:=θ hb;rw[ξ hb'] at q;obtain⟨s1,l1⟩:=out;simp only[Prod.mk.injEq] at q;obtain⟨rfl,rfl⟩:=q;obtain⟨rfl,rfl⟩:=hsm _ _ rfl;exact sgh [(3,.row k (uD (xs,W)))] rfl (aF (rtC trw))
  ·have hb':¬0<(uW Y 3).1:=Aa hb;rw[ψ hb'] at q;exact aD (ag [] rfl ⟨(k,_),⟨by dsimp only;omega,rS J 3,q⟩,by dsimp only;omega,sl⟩)
 have hk0:k=0:=by have:=Aa hb;omega
 subst hk0;rw[aK8] at q;exact aM (AWp.sub sl (hnn Y q.symm))
theorem aN8 (n:Nat) (t:Ty) (W:GT n t) (hn:n≤100) (ih:∀(k:Nat) (u:Ty),k<n→GT k u→aAa k u):aAa n t:=by
 intro v l left Y hw hd hl;have hL:v.l.length≤200:=by have:=Y.len;omega
 have hS:∀k:Nat,∃b:Bool,∀x,v.l[k]?=some x→(b=true→x.2=t)∧aU Tryz.prog 9 [tyV x.2,tyV t] [] (B b) []:=fun k=>by
  cases hx:v.l[k]? with
  | none=>exact⟨false,fun x h=>by cases h⟩
  | some x=>
   obtain⟨_,k',hk',hx'⟩:=Y.all x (δ hx);obtain⟨r,hr0,hr⟩:=a23 hx'.g W (by omega) (by omega);exact⟨r,fun y hy=>by cases hy;exact⟨fun h=>hr0 h v.vars v.vars Y.vars Y.vars hx'.w hw,hr⟩⟩
 have hH:∀k:Nat,∃b:Bool,k<v.l.length→(b=true→∀(j:Nat) (x y:Str×Ty),v.l[k]?=some x→k<j→v.l[j]?=some y→¬y.1=x.1)∧aU Tryz.prog 108 [.one (.c (.sl 5 (v.l.map uD))),I .i64 k] [] (B b) []:=fun k=>by
  by_cases hk:k<v.l.length
  ·obtain⟨r,hr⟩:=aYm v.l k hk (by omega);exact⟨r,fun _=>hr⟩
  ·exact⟨false,fun h=>absurd h hk⟩
 obtain⟨f,hf'⟩:=Classical.axiomOfChoice hS;obtain⟨g,hgh'⟩:=Classical.axiomOfChoice hH;have hf:=fun k x h=>(hf' k x h).2
 have J:=fun k h=>(hgh' k h).2
 obtain⟨hok,Z⟩:=aDq v.l f g v.l.length l (le_refl _) hl;have hkl:(v.l.map uD).length=v.l.length:=ζ _;generalize hout:aK8 v.l f g v.l.length l=out at hok Z;obtain⟨so,l1⟩:=out;cases so with
 | some s=>
  obtain⟨hs0,j,x,hxj,hxs,hfj,hgj⟩:=Z s rfl;have hx:=δ hxj;have hs6:s∈nm6:=by
   rcases(Y.all x hx).1 with h | h
   ·rw[hxs] at h;exact absurd h hs0
   ·rw[hxs] at h;exact h
  have hwt:WT v.vars (aIa v.l) (vC s) t:=by
   refine .var ?_;have e1:=(hf' j x hxj).1 hfj;have e2:=aYg v.l e0 j x hxj (by rw[hxs];exact hs0) fun i y hi hy=>(hgh' j (τ.1 hxj).1).1 hgj i x y hxj hi hy
   rw[hxs,e1] at e2;exact e2
  refine⟨.mk 1 0 s zTy [] [] [],l1,4,⟨.var hs6,hwt⟩,by cases W<;>omega,hok,?_⟩;exact jF v t l left f g _ hl hL hf J hout (fun s' l' e=>by cases e;exact⟨rfl,rfl⟩) (fun l' e=>by cases e)
 | none=>
  clear Z hS hH;have hok:Ok l1:=hok;rcases wP W with⟨m1,m2,a,b,ga,gb,hnm,rfl,cF⟩ | cF
  ·obtain⟨s,l2,hs,O,cN⟩:=aIb l1 left v hok;have hs6:s∈nm6:=χ.2 (.inl hs);obtain⟨wa,wb⟩:=hw.of_fn;obtain⟨c,l3,m,gc,hm,hl3,cL⟩:=ih m2 b (by omega) gb (dH v s a) l2 left (Y.more (.inr hs6) ⟨ga,wa⟩ (by omega)) wb (by show v.deep+1+(m2:Int)≤200;omega) O;have cM:=zM v s a (by omega) ⟨Y.d0,by omega⟩;refine⟨.mk 5 0 s a [c] [] [],l3,m+4,⟨.lam hs6 ga (by omega) gc.g,.lam wa (gc.in hs6)⟩,by omega,hl3,?_⟩;refine jF v (eE a b) l left f g _ hl hL hf J hout (fun s' l' e=>by cases e) (fun l' e=>?_);cases e;refine a8 (sk 1 rfl (kc cF ?_));refine az (aA rfl (fun _=>sk 2 rfl (kc cN ?_)) nofun);refine kz 1 rfl (skh 18 [(3,.row 0 (bH (tapp (.mk 3 0 arrow []) a))),(6,.row 1 (bH a)),(13,.row 0 (bH (tapp (.mk 3 0 arrow []) a))),(16,.row 1 (bH a))] rfl (kc cM ?_));refine ak 4 [(21,.row 1 (bH b))] rfl (kc cL ?_);exact ak 3 [(24,.all)] rfl (az (aF (rtC trw)))
  obtain⟨q,L,⟨hLg,hsp⟩,hLn,cS⟩:=aO2 W (by omega);by_cases hI:bb q.form q.name [73,110,116]=true
  ·obtain⟨i,l2,hi,O,cN⟩:=jX l1 left 7 (by decide) hok;refine⟨.mk 3 ((i:Int)-2) [] zTy [] [] [],l2,1,⟨.int (by omega),by rw[hw.sp_int hsp (iY hI)];exact .int⟩,by cases W<;>omega,O,?_⟩;refine jF v t l left f g _ hl hL hf J hout (fun s' l' e=>by cases e) (fun l' e=>?_);cases e;refine a8 (sk 1 rfl (kc cF ?_));refine az (aA rfl nofun (fun _=>aD (sk 1 rfl (kc cS ?_))));refine kz 6 rfl (a8 (aC (a8 (agF 4 [] rfl rfl rfl (aA rfl (fun _=>sk 1 rfl (kc cN ?_)) (fun hb=>by have:=hI.symm.trans hb;cases this))))));refine ak 3 [] rfl ?_ (hc:=by repeat (first | exact trivial | refine⟨by first | rfl | omega | (simp;omega) | (unfold Ty.name;simp;omega) | (simp;done),?_⟩));exact az (aF (rtC trw))
  by_cases hB:bb q.form q.name [66,111,111,108]=true
  ·obtain⟨i,l2,hi,O,cN⟩:=jX l1 left 2 (by decide) hok;have hi:i<2:=by omega
   obtain⟨s,hs⟩:∃s,([[70,97,108,115,101],[84,114,117,101]]:List Str)[i]?=some s:=aL (by simpa using hi);have hs':=bM bC hs;have hs8:s.length≤8:=by
    have:i=0∨i=1:=by omega
    rcases this with rfl | rfl<;>(simp at hs;subst hs;decide)
   have hwt:WT v.vars (aIa v.l) (.mk 2 0 s zTy [] [] []) t:=by
    rw[hw.sp_bool hsp (iY hB)];have:i=0∨i=1:=by omega
    rcases this with rfl | rfl
    ·have e:s=[70,97,108,115,101]:=by simpa using hs.symm
     rw[e];exact .bool (b:=false)
    ·have e:s=[84,114,117,101]:=by simpa using hs.symm
     rw[e];exact .bool (b:=true)
   refine⟨.mk 2 0 s zTy [] [] [],l2,9,⟨.con hs8,hwt⟩,by cases W<;>omega,O,?_⟩;refine jF v t l left f g _ hl hL hf J hout (fun s' l' e=>by cases e) (fun l' e=>?_);cases e;refine a8 (sk 1 rfl (kc cF ?_));refine az (aA rfl nofun (fun _=>aD (sk 1 rfl (kc cS ?_))));refine kz 6 rfl (a8 (aC (a8 (agF 4 [] rfl rfl rfl (aA rfl (fun hb=>absurd hb hI) (fun _=>a8 (agF 4 [] rfl rfl rfl (aA rfl (fun _=>sk 2 rfl (kc cN ?_)) (fun hb=>by have:=hB.symm.trans hb;cases this)))))))));exact ak 4 [(3,.row i []),(4,.row i (bC s))] rfl (az (aF (rtC trw)))
  by_cases hX:bb q.form q.name [76]=true∧L.length=1
  ·obtain⟨x,rfl⟩:∃x,L=[x]:=Bm.1 hX.2;obtain⟨k,_,gx,_,hk⟩:=hLg;have cG:=pK [78] [x] (by simp);refine⟨.mk 6 0 [] x [.mk 2 0 [78] zTy [] [] []] [] [],l1,9+1,⟨.tapp gx (by omega) (.con (by decide)),by obtain⟨e,wx⟩:=hw.sp_lst hsp (iY hX.1);rw[e];exact .nil wx⟩,by cases W<;>omega,hok,?_⟩;refine jF v t l left f g _ hl hL hf J hout (fun s' l' e=>by cases e) (fun l' e=>?_);cases e;refine a8 (sk 1 rfl (kc cF ?_));refine az (aA rfl nofun (fun _=>aD (sk 1 rfl (kc cS ?_))));refine kz 6 rfl (a8 (aC (a8 (agF 4 [] rfl rfl rfl (aA rfl (fun hb=>absurd hb hI) (fun _=>a8 (agF 4 [] rfl rfl rfl (aA rfl (fun hb=>absurd hb hB) (fun _=>a8 (agF 4 [] rfl rfl rfl (aA rfl (fun _=>?_) (fun hb=>?_))))))))))))
   ·refine sk 1 rfl (kc cG ?_);exact kz 1 rfl (aF (rtC trw))
   ·exfalso;obtain⟨h3,h4⟩:=iY hX.1;simp[h3,h4] at hb
  by_cases hP:bb q.form q.name [80]=true∧L.length=2
  ·obtain⟨x,y,rfl⟩:∃x y,L=[x,y]:=by
    match L,hP.2 with
    | [x,y],_=>exact⟨x,y,rfl⟩
   obtain⟨k1,m1,gx,⟨k2,m2,gy,_,hk2⟩,hk1⟩:=hLg;have cG:=pK [80] [x,y] (by simp);obtain⟨et,wx,wy⟩:=hw.sp_pr hsp (iY hP.1);obtain⟨c1,l2,w1,gc1,hw1,O,cL1⟩:=ih k1 x (by omega) gx v l1 left Y wx (by omega) hok;obtain⟨c2,l3,w2,gc2,hw2,hl3,cL2⟩:=ih k2 y (by omega) gy v l2 left Y wy (by omega) O;have cA1:=hJ (j0 [80] [x,y]) c1;have cA2:=hJ (.mk 4 0 [] zTy [j0 [80] [x,y],c1] [] []) c2;refine⟨.mk 4 0 [] zTy [.mk 4 0 [] zTy [j0 [80] [x,y],c1] [] [],c2] [] [],l3,(9+1+1)+w1+1+w2+1,⟨.app (.app (.tapp gy (by omega) (.tapp gx (by omega) (.con (by decide)))) gc1.g) gc2.g,by rw[et];exact .app (.app (.pair wx wy) gc1.w) gc2.w⟩,by omega,hl3,?_⟩;refine jF v t l left f g _ hl hL hf J hout (fun s' l' e=>by cases e) (fun l' e=>?_);cases e;refine a8 (sk 1 rfl (kc cF ?_));refine az (aA rfl nofun (fun _=>aD (sk 1 rfl (kc cS ?_))));refine kz 6 rfl (a8 (aC (a8 (agF 4 [] rfl rfl rfl (aA rfl (fun hb=>absurd hb hI) (fun _=>a8 (agF 4 [] rfl rfl rfl (aA rfl (fun hb=>absurd hb hB) (fun _=>a8 (agF 4 [] rfl rfl rfl (aA rfl (fun hb=>?_) (fun _=>?_))))))))))))
   ·exfalso;simp at hb
   refine a8 (agF 4 [] rfl rfl rfl (aA rfl (fun _=>?_) (fun hb=>?_)))
   ·refine sk 1 rfl (kc cG ?_);refine ak 5 [(5,.row 0 []),(6,.row 0 (bH x))] rfl (kc cL1 ?_);refine kc cA1 ?_;refine ak 5 [(12,.row 1 []),(13,.row 1 (bH y))] rfl (kc cL2 ?_);refine kc cA2 ?_;exact kz 1 rfl (aF (rtC trw))
   ·exfalso;obtain⟨h3,h4⟩:=iY hP.1;simp[h3,h4] at hb
  ·refine⟨.mk 11 0 [] t [] [] [],l1,1,⟨.fail W hn,.fail hw⟩,by cases W<;>omega,hok,?_⟩;refine jF v t l left f g _ hl hL hf J hout (fun s' l' e=>by cases e) (fun l' e=>?_);cases e;refine a8 (sk 1 rfl (kc cF ?_));refine az (aA rfl nofun (fun _=>aD (sk 1 rfl (kc cS ?_))));refine kz 6 rfl (a8 (aC (a8 (agF 4 [] rfl rfl rfl (aA rfl (fun hb=>absurd hb hI) (fun _=>a8 (agF 4 [] rfl rfl rfl (aA rfl (fun hb=>absurd hb hB) (fun _=>a8 (agF 4 [] rfl rfl rfl (aA rfl (fun hb=>?_) (fun _=>?_))))))))))))
   ·exfalso;exact hX (aIr hb)
   refine a8 (agF 4 [] rfl rfl rfl (aA rfl (fun hb=>?_) (fun _=>?_)))
   ·exfalso;exact hP (aIr hb)
   exact aD (sg rfl (aF (rtC trw)))
theorem aIc:∀(N n:Nat) (t:Ty),n≤N→GT n t→n≤100→aAa n t
 | 0,n,t,h,q,_=>by cases q<;>omega
 | N+1,n,t,h,q,hn=>aN8 n t q hn fun k u hk hu=>aIc N k u (by omega) hu (by omega)
def pos (left:Int):Int:=((left-1).toNat:Int)
def sD (F:Int):Prop:=∀(v:Gv) (t:Ty) (n:Nat) (l:List Int) (left:Int),Gok v→7≤v.deep+F→v.deep≤8→GTW v.vars n t→(n:Int)≤33+8*v.deep→Ok l→left≤100→ -1000≤left-3*pos left→
 ∃(c:Core) (l':List Int) (left':Int) (m:Nat),GCW v m c t∧Ok l'∧(left'≤left∧left-3*pos left-1≤left'-3*pos left'∧(m:Int)+4100*pos left'≤2000+4100*pos left)∧
  aU Tryz.prog 24 [.one (.vp 700 0),.pa (zB v),tyV t] (mO l left) (.pa (aB c)) (mO l' left')
theorem aYn (F:Int) (hS:sD F) (v:Gv) (t:Ty) (n:Nat) (l:List Int) (left:Int) (hv:Gok v) (hF:7≤v.deep+1+F) (hd:v.deep≤6) (I:GTW v.vars n t) (hn:(n:Int)≤33+8*v.deep) (hl:Ok l) (hle:left≤100) (hlo: -1000≤left-3*pos left-2):
  ∃(c:Core) (l':List Int) (J:Int) (m:Nat),GCW v m c t∧Ok l'∧(J≤left∧left-3*pos left-3≤J-3*pos J∧(m:Int)+4100*pos J≤6050+4100*pos left)∧
   aU Tryz.prog 55 [.one (.vp 700 0),.pa (zB v),tyV t] (mO l left) (.pa (aB c)) (mO l' J):=by
 have h0:=hv.d0;have hlen:=hv.len;have hvlen:=hv.vlen;obtain⟨tf,tn,ts,q⟩:=t;obtain⟨i,l1,hi,hl1,cN⟩:=jX l left 4 (by decide) hl;have more:∀(v:Gv) (s:Str) (u:Ty) (k:Nat),Gok v→0≤v.deep→v.deep≤8→GTW v.vars k u→k≤100→(s=[]∨s∈nm6)→Gok (dH v s u)∧aU Tryz.prog 53 [.pa (zB v),Go.AM.T s,tyV u] [] (.pa (zB (dH v s u))) []:=fun v s u k h h0 h8 hu hk hs=>by
  have:=h.len;exact⟨h.more hs hu hk,zM v s u (by omega) ⟨h0,by omega⟩⟩
 obtain⟨O,cM⟩:=more v [] (.mk tf tn ts q) n hv h0 (by omega) I (by omega) (.inl rfl);have hd1:(dH v [] (.mk tf tn ts q)).deep=v.deep+1:=rfl;by_cases h1:i=0
 ·subst h1;obtain⟨c1,l2,le2,m1,g1,hl2,⟨b1,b1',b1''⟩,cS1⟩:=hS (dH v [] (.mk tf tn ts q)) iE 1 l1 left O (by omega) (by omega) ⟨.con _ (by decide),.bool⟩ (by omega) hl1 hle (by omega);obtain⟨c2,l3,le3,m2,g2,hl3,⟨b2,b2',b2''⟩,cS2⟩:=hS (dH v [] (.mk tf tn ts q)) (.mk tf tn ts q) n l2 le2 O (by omega) (by omega) I (by omega) hl2 (by omega) (by omega);obtain⟨Z,l4,le4,m3,g3,hl4,⟨b3,b3',b3''⟩,cS3⟩:=hS (dH v [] (.mk tf tn ts q)) (.mk tf tn ts q) n l3 le3 O (by omega) (by omega) I (by omega) hl3 (by omega) (by omega);refine⟨.mk 9 0 [] (.mk tf tn ts q) [c1] [] [.mk 1 0 [84,114,117,101] [] c2,.mk 1 0 [70,97,108,115,101] [] Z],l4,le4,m1+m2+m3+40,⟨.case2 I.g (by omega) g1.g g2.g g3.g (by decide) (by decide) (by decide) (by simp) (by decide) (by decide) (by decide) (by decide) (by simp) (by decide),.cbool I.w g1.less.w g2.less.w g3.less.w⟩,hl4,⟨by omega,by omega,by omega⟩,?_⟩;refine bL (n:=152) tok Tryz.func55 rfl rfl rfl ?_;refine sg rfl (sg rfl (a8 (sk 1 rfl (kc cN ?_))));refine az (aC (sg rfl (aA rfl (fun _=>sk 3 rfl (kc cM ?_)) nofun)));refine kc (iK [66,111,111,108]) ?_;refine kc cS1 ?_;refine ak 3 [(6,.all)] rfl (az (aE mixed (ak 3 [] rfl (kc cM ?_))));refine ak 1 [] rfl (kc cS2 ?_);refine ak 4 [] rfl (kc cM ?_);refine ak 1 [] rfl (kc cS3 ?_);refine kz 4 rfl (AWp.sub (Sub.freeze (id:=76) rfl) ?_);refine AWp.sub (aw 76 ([.mk 1 0 [84,114,117,101] [] c2,.mk 1 0 [70,97,108,115,101] [] Z].map cD)) ?_;refine AWp.sub (vp 7 (aB (.mk 9 0 [] (.mk tf tn ts q) [c1] [] [.mk 1 0 [84,114,117,101] [] c2,.mk 1 0 [70,97,108,115,101] [] Z]))) ?_;exact sg rfl (aF (rtC trw))
 by_cases h2:i=1
 ·subst h2;obtain⟨c1,l2,le2,m1,g1,hl2,⟨b1,b1',b1''⟩,cS1⟩:=hS (dH v [] (.mk tf tn ts q)) iZ 1 l1 left O (by omega) (by omega) ⟨.con _ (by decide),.int⟩ (by omega) hl1 hle (by omega);obtain⟨j,l2b,hj,hl2b,cJ⟩:=jX l2 le2 5 (by decide) hl2;obtain⟨c2,l3,le3,m2,g2,hl3,⟨b2,b2',b2''⟩,cS2⟩:=hS (dH v [] (.mk tf tn ts q)) (.mk tf tn ts q) n l2b le2 O (by omega) (by omega) I (by omega) hl2b (by omega) (by omega);obtain⟨Z,l4,le4,m3,g3,hl4,⟨b3,b3',b3''⟩,cS3⟩:=hS (dH v [] (.mk tf tn ts q)) (.mk tf tn ts q) n l3 le3 O (by omega) (by omega) I (by omega) hl3 (by omega) (by omega);refine⟨.mk 9 0 [] (.mk tf tn ts q) [c1] [] [.mk 2 ((j:Int)-1) [] [] c2,.mk 3 0 [] [] Z],l4,le4,m1+m2+m3+40,⟨.case2 I.g (by omega) g1.g g2.g g3.g (by decide) (by omega) (by decide) (by simp) (by decide) (by decide) (by decide) (by decide) (by simp) (by decide),.cint I.w g1.less.w g2.less.w g3.less.w⟩,hl4,⟨by omega,by omega,by omega⟩,?_⟩;refine bL (n:=152) tok Tryz.func55 rfl rfl rfl ?_;refine sg rfl (sg rfl (a8 (sk 1 rfl (kc cN ?_))));refine az (aC (sg rfl (aA rfl nofun (fun _=>sg rfl (aA rfl (fun _=>sk 3 rfl (kc cM ?_)) nofun)))));refine kc (iK [73,110,116]) ?_;refine kc cS1 ?_;refine ak 3 [(6,.all)] rfl (az (aE mixed (ak 1 [] rfl (kc cJ ?_))));refine ak 4 [] rfl ?_ (hc:=by repeat (first | exact trivial | refine⟨by first | rfl | omega | (simp;omega) | (unfold Ty.name;simp;omega) | (simp;done),?_⟩));refine kc cM ?_;refine ak 1 [] rfl (kc cS2 ?_);refine ak 4 [] rfl (kc cM ?_);refine ak 1 [] rfl (kc cS3 ?_);refine kz 4 rfl (AWp.sub (Sub.freeze (id:=105) rfl) ?_);refine AWp.sub (aw 105 ([.mk 2 ((j:Int)-1) [] [] c2,.mk 3 0 [] [] Z].map cD)) ?_;refine AWp.sub (vp 7 (aB (.mk 9 0 [] (.mk tf tn ts q) [c1] [] [.mk 2 ((j:Int)-1) [] [] c2,.mk 3 0 [] [] Z]))) ?_;exact sg rfl (aF (rtC trw))
 by_cases h3:i=2
 ·subst h3;obtain⟨⟨W,un,us,Y⟩,l2,k,gu,hk,hl2,cU⟩:=zF v.vars hv.vars (by omega) 1 2 (by omega) (by omega) l1 left hl1;have hk:k≤5:=hk;have gL:GTW v.vars (1+k+1) (.mk 4 0 [] [.mk 3 0 [76] [],(.mk W un us Y)]):=⟨.app (.nm (by decide)) gu.g,.lst gu.w⟩
  obtain⟨c1,l3,le3,m1,g1,hl3,⟨b1,b1',b1''⟩,cS1⟩:=hS (dH v [] (.mk tf tn ts q)) (.mk 4 0 [] [.mk 3 0 [76] [],(.mk W un us Y)]) _ l2 left O (by omega) (by omega) gL (by omega) hl2 hle (by omega);obtain⟨hvx,cX⟩:=more v [120] (.mk W un us Y) k hv h0 (by omega) gu (by omega) (.inr (by decide));obtain⟨hvy,cY⟩:=more (dH v [120] (.mk W un us Y)) [121] (.mk 4 0 [] [.mk 3 0 [76] [],(.mk W un us Y)]) _ hvx (by show 0≤v.deep+1;omega) (by show v.deep+1≤8;omega) gL (by omega) (.inr (by decide));have hdy:(dH (dH v [120] (.mk W un us Y)) [121] (.mk 4 0 [] [.mk 3 0 [76] [],(.mk W un us Y)])).deep=v.deep+1+1:=rfl;obtain⟨c2,l4,le4,m2,g2,hl4,⟨b2,b2',b2''⟩,cS2⟩:=hS _ (.mk tf tn ts q) n l3 le3 hvy (by omega) (by omega) I (by omega) hl3 (by omega) (by omega);obtain⟨Z,l5,le5,m3,g3,hl5,⟨b3,b3',b3''⟩,cS3⟩:=hS (dH v [] (.mk tf tn ts q)) (.mk tf tn ts q) n l4 le4 O (by omega) (by omega) I (by omega) hl4 (by omega) (by omega);obtain⟨j,l6,hj,hl6,cJ⟩:=jX l5 le5 3 (by decide) hl5;have walk:∀c:Core,c=(if j=0 then .mk 9 0 [] (.mk tf tn ts q) [c1] [] [.mk 1 0 [67] [[120],[121]] c2] else .mk 9 0 [] (.mk tf tn ts q) [c1] [] [.mk 1 0 [67] [[120],[121]] c2,.mk 1 0 [78] [] Z])→aU Tryz.prog 55 [.one (.vp 700 0),.pa (zB v),tyV (.mk tf tn ts q)] (mO l left) (.pa (aB c)) (mO l6 le5):=by
   intro c hc;refine bL (n:=152) tok Tryz.func55 rfl rfl rfl ?_;refine sg rfl (sg rfl (a8 (sk 1 rfl (kc cN ?_))));refine az (aC (sg rfl (aA rfl nofun (fun _=>sg rfl (aA rfl nofun (fun _=>sg rfl (aA rfl (fun _=>sk 3 rfl (kc cU ?_)) nofun)))))));refine kz 2 rfl (a8 (aE mixed (kc (iK [76]) ?_)));refine ak 5 [(2,.all)] rfl (az (sk 3 rfl (kc cM ?_)));refine ak 1 [] rfl (kc cS1 ?_);refine ak 3 [(6,.all)] rfl (az (skh 4 [(0,.all)] rfl (kc cX ?_)));refine ak 1 [] rfl (kc cY ?_);refine ak 1 [] rfl (kc cS2 ?_);refine ak 4 [] rfl (kc cM ?_);refine ak 1 [] rfl (kc cS3 ?_);refine kz 4 rfl (AWp.sub (Sub.freeze (id:=142) rfl) ?_);refine AWp.sub (aw 142 ([.mk 1 0 [67] [[120],[121]] c2,.mk 1 0 [78] [] Z].map cD)) ?_;refine AWp.sub (vp 7 (aB (.mk 9 0 [] (.mk tf tn ts q) [c1] [] [.mk 1 0 [67] [[120],[121]] c2,.mk 1 0 [78] [] Z]))) ?_;refine sk 1 rfl (kc cJ ?_);refine kz 1 rfl (aA rfl (fun hb=>?_) (fun hb=>?_))
   ·have hj0:j=0:=by have:=θ hb;omega
    rw[ξ hj0] at hc;subst hc;exact ag [] rfl (sg rfl (aF (rtC trw))) (hc:=⟨by rw[aEx];simp[Core.alts],by decide,trivial⟩)
   ·have hj0:¬j=0:=by have:=Aa hb;omega
    rw[ψ hj0] at hc;subst hc;exact aD (sg rfl (aF (rtC trw)))
  by_cases hj0:j=0
  ·refine⟨.mk 9 0 [] (.mk tf tn ts q) [c1] [] [.mk 1 0 [67] [[120],[121]] c2],l6,le5,m1+m2+20,⟨.case1 I.g (by omega) g1.g g2.g (by decide) (by decide) (by decide) (by decide) (by decide),.cl1 (by decide) I.w g1.less.w (g2.in2 (by decide) (by decide))⟩,hl6,⟨by omega,by omega,by omega⟩,walk _ (by rw[ξ hj0])⟩
  ·refine⟨.mk 9 0 [] (.mk tf tn ts q) [c1] [] [.mk 1 0 [67] [[120],[121]] c2,.mk 1 0 [78] [] Z],l6,le5,m1+m2+m3+40,⟨.case2 I.g (by omega) g1.g g2.g g3.g (by decide) (by decide) (by decide) (by decide) (by decide) (by decide) (by decide) (by decide) (by simp) (by decide),.cl2 (by decide) I.w g1.less.w (g2.in2 (by decide) (by decide)) g3.less.w⟩,hl6,⟨by omega,by omega,by omega⟩,walk _ (by rw[ψ hj0])⟩
 obtain⟨⟨W,un,us,Y⟩,l2,k,gu,hk,hl2,cU⟩:=zF v.vars hv.vars (by omega) 1 2 (by omega) (by omega) l1 left hl1;have hk:k≤5:=hk;obtain⟨⟨wf,wn,ws,wa⟩,l2b,kw,gw,hkw,hl2b,cW⟩:=zF v.vars hv.vars (by omega) 1 2 (by omega) (by omega) l2 left hl2;have hkw:kw≤5:=hkw;have gL:GTW v.vars (1+k+1+kw+1) (.mk 4 0 [] [.mk 4 0 [] [.mk 3 0 [80] [],(.mk W un us Y)],(.mk wf wn ws wa)]):=⟨.app (.app (.nm (by decide)) gu.g) gw.g,.pr gu.w gw.w⟩
 obtain⟨c1,l3,le3,m1,g1,hl3,⟨b1,b1',b1''⟩,cS1⟩:=hS (dH v [] (.mk tf tn ts q)) (.mk 4 0 [] [.mk 4 0 [] [.mk 3 0 [80] [],(.mk W un us Y)],(.mk wf wn ws wa)]) _ l2b left O (by omega) (by omega) gL (by omega) hl2b hle (by omega);obtain⟨hvx,cX⟩:=more v [121] (.mk W un us Y) k hv h0 (by omega) gu (by omega) (.inr (by decide));obtain⟨hvy,cY⟩:=more (dH v [121] (.mk W un us Y)) [97] (.mk wf wn ws wa) kw hvx (by show 0≤v.deep+1;omega) (by show v.deep+1≤8;omega) gw (by omega) (.inr (by decide));have hdy:(dH (dH v [121] (.mk W un us Y)) [97] (.mk wf wn ws wa)).deep=v.deep+1+1:=rfl;obtain⟨c2,l4,le4,m2,g2,hl4,⟨b2,b2',b2''⟩,cS2⟩:=hS _ (.mk tf tn ts q) n l3 le3 hvy (by omega) (by omega) I (by omega) hl3 (by omega) (by omega);refine⟨.mk 9 0 [] (.mk tf tn ts q) [c1] [] [.mk 1 0 [80] [[121],[97]] c2],l4,le4,m1+m2+20,⟨.case1 I.g (by omega) g1.g g2.g (by decide) (by decide) (by decide) (by decide) (by decide),.cp (by decide) I.w g1.less.w (g2.in2 (by decide) (by decide))⟩,hl4,⟨by omega,by omega,by omega⟩,?_⟩;refine bL (n:=152) tok Tryz.func55 rfl rfl rfl ?_;refine sg rfl (sg rfl (a8 (sk 1 rfl (kc cN ?_))));refine az (aC (sg rfl (aA rfl (fun hb=>absurd (by have:=θ hb;omega) h1) (fun _=>sg rfl (aA rfl (fun hb=>absurd (by have:=θ hb;omega) h2) (fun _=>sg rfl (aA rfl (fun hb=>absurd (by have:=θ hb;omega) h3) (fun _=>sk 3 rfl (kc cU ?_)))))))));refine kz 2 rfl (sk 3 rfl (kc cW ?_));refine kz 2 rfl (a8 (aE mixed (kc (iK [80]) ?_)));refine ak 8 [(2,.all),(5,.all)] rfl (az (sk 3 rfl (kc cM ?_)));refine ak 1 [] rfl (kc cS1 ?_);refine ak 3 [(6,.all)] rfl (az (aE mixed (ak 4 [(0,.all)] rfl (kc cX ?_))));refine ak 1 [] rfl (kc cY ?_);refine ak 1 [] rfl (kc cS2 ?_);refine ak 4 [(10,.all)] rfl (az (AWp.sub (vp 7 (aB (.mk 9 0 [] (.mk tf tn ts q) [c1] [] [.mk 1 0 [80] [[121],[97]] c2]))) ?_));exact sg rfl (aF (rtC trw))
theorem aAo (F:Int) (hS:0≤F→sD F):sD (F+1):=by
 intro v t n l left hv hF hd hg hn hl hle hlo;have hM:1000000000≤maxLen:=by decide
 have h0:=hv.d0;have hlen:=hv.len;have hvlen:=hv.vlen;have hp0:0≤pos left:=by unfold pos;omega
 by_cases hlf:left-1<1∨6<v.deep
 ·obtain⟨c,l',m,gc,hm,hl',cL⟩:=aIc n n t (le_refl _) hg.g (by omega) v l (left-1) hv hg.w (by omega) hl;have hp1:pos (left-1)≤pos left∧pos left≤pos (left-1)+1:=by unfold pos;omega
  refine⟨c,l',left-1,m,gc,hl',⟨by omega,by unfold pos at *;omega,by omega⟩,?_⟩;refine bL (n:=374) tok Tryz.func24 rfl rfl rfl ?_;refine sg rfl (sg rfl ?_ (hc:=by repeat (first | exact trivial | refine⟨by first | rfl | omega | (simp;omega) | (unfold Ty.name;simp;omega) | (simp;done),?_⟩)));refine a8 (a8 (agF 6 [] rfl rfl rfl (aA rfl (fun _=>sk 3 rfl (kc cL ?_)) (fun hb=>absurd hlf (by simpa using hb)))));exact kz 1 rfl (aF (rtC trw))
 have hF0:0≤F:=by omega
 have hps:pos (left-1)=pos left-1:=by unfold pos;omega
 have hp1:0≤pos (left-1):=by unfold pos;omega
 have more:∀(v:Gv) (s:Str) (u:Ty) (k:Nat),Gok v→0≤v.deep→v.deep≤8→GTW v.vars k u→k≤100→(s=[]∨s∈nm6)→Gok (dH v s u)∧aU Tryz.prog 53 [.pa (zB v),Go.AM.T s,tyV u] [] (.pa (zB (dH v s u))) []:=fun v s u k h h0 h8 hu hk hs=>by
  have:=h.len;exact⟨h.more hs hu hk,zM v s u (by omega) ⟨h0,by omega⟩⟩
 obtain⟨hv1,cM⟩:=more v [] t n hv h0 (by omega) hg (by omega) (.inl rfl);have hd1:(dH v [] t).deep=v.deep+1:=rfl;obtain⟨i,l1,hi,hl1,cN⟩:=jX l (left-1) 12 (by decide) hl;by_cases hi0:i=0
 ·obtain⟨u,W,k,gu,hk,J,cU⟩:=zF v.vars hv.vars (by omega) 2 1 (by omega) (by omega) l1 (left-1) hl1;have hk:k≤13:=hk;obtain⟨s,l3,hs,Z,cNm⟩:=aIb W (left-1) v J;have hs6:s∈nm6:=χ.2 (.inl hs);obtain⟨hvs,cMs⟩:=more v s u k hv h0 (by omega) gu (by omega) (.inr hs6);have hds:(dH v s u).deep=v.deep+1:=rfl;obtain⟨c1,l4,O,m1,g1,Y,⟨b1,b1',b1''⟩,cS1⟩:=hS (by omega) (dH v s u) t n l3 (left-1) hvs (by omega) (by omega) hg (by omega) Z (by omega) (by omega);obtain⟨c2,l5,le2,m2,g2,hl5,⟨b2,b2',b2''⟩,aa⟩:=hS (by omega) (dH v [] t) u k l4 O hv1 (by omega) (by omega) gu (by omega) Y (by omega) (by omega);have cA:=hJ (.mk 5 0 s u [c1] [] []) c2;refine⟨.mk 4 0 [] zTy [.mk 5 0 s u [c1] [] [],c2] [] [],l5,le2,m1+4+m2+1,⟨.app (.lam hs6 gu.g (by omega) g1.g) g2.g,.app (.lam gu.w (g1.in hs6)) g2.less.w⟩,hl5,⟨by omega,by omega,by omega⟩,?_⟩;refine bL (n:=374) tok Tryz.func24 rfl rfl rfl ?_;refine sg rfl (sg rfl ?_ (hc:=by repeat (first | exact trivial | refine⟨by first | rfl | omega | (simp;omega) | (unfold Ty.name;simp;omega) | (simp;done),?_⟩)));refine a8 (a8 (agF 6 [] rfl rfl rfl (aA rfl (fun hb=>absurd (by simpa using hb) hlf) (fun _=>aD (a8 (sk 1 rfl (kc cN ?_)))))));refine az (aC (sg rfl (aA rfl (fun _=>sk 3 rfl (kc (cU) ?_)) (fun hb=>absurd (Aa hb) (by omega)))));refine kz 2 rfl (sk 2 rfl (kc (cNm) ?_));refine kz 1 rfl (sk 6 rfl (kc (cMs) ?_));refine ak 1 [] rfl (kc (cS1) ?_);refine ak 4 [(9,.all)] rfl (az (AWp.sub (vp 9 (aB (.mk 5 0 s u [c1] [] []))) ?_));refine sk 4 rfl (kc (cM) ?_);refine ak 1 [] rfl (kc (aa) ?_);refine kc (cA) ?_;exact kz 1 rfl (aF (rtC trw))
 by_cases hi1:i=1
 ·obtain⟨u,W,k,gu,hk,J,cU⟩:=zF v.vars hv.vars (by omega) 2 1 (by omega) (by omega) l1 (left-1) hl1;have hk:k≤13:=hk;obtain⟨s,l3,hs,Z,cNm⟩:=aIb W (left-1) v J;have hs6:s∈nm6:=χ.2 (.inl hs);obtain⟨hvs,cMs⟩:=more v s u k hv h0 (by omega) gu (by omega) (.inr hs6);have hds:(dH v s u).deep=v.deep+1:=rfl;obtain⟨c1,l4,O,m1,g1,Y,⟨b1,b1',b1''⟩,cS1⟩:=hS (by omega) (dH v s u) u k l3 (left-1) hvs (by omega) (by omega) gu (by omega) Z (by omega) (by omega);obtain⟨c2,l5,le2,m2,g2,hl5,⟨b2,b2',b2''⟩,aa⟩:=hS (by omega) (dH v s u) t n l4 O hvs (by omega) (by omega) hg (by omega) Y (by omega) (by omega);refine⟨.mk 8 0 [] zTy [c2] [.mk s u c1] [],l5,le2,m2+m1+5,⟨.lt hs6 gu.g (by omega) g2.g g1.g,.lt gu.w (g1.in hs6) (g2.in hs6)⟩,hl5,⟨by omega,by omega,by omega⟩,?_⟩;refine bL (n:=374) tok Tryz.func24 rfl rfl rfl ?_;refine sg rfl (sg rfl ?_ (hc:=by repeat (first | exact trivial | refine⟨by first | rfl | omega | (simp;omega) | (unfold Ty.name;simp;omega) | (simp;done),?_⟩)));refine a8 (a8 (agF 6 [] rfl rfl rfl (aA rfl (fun hb=>absurd (by simpa using hb) hlf) (fun _=>aD (a8 (sk 1 rfl (kc cN ?_)))))));refine az (aC (sg rfl (aA rfl (fun hb=>absurd (by have:=θ hb;omega) hi0) (fun _=>sg rfl (aA rfl (fun _=>sk 3 rfl (kc (cU) ?_)) (fun hb=>absurd (Aa hb) (by omega)))))));refine kz 2 rfl (sk 2 rfl (kc (cNm) ?_));refine kz 1 rfl (sk 3 rfl (kc (cMs) ?_));refine kz 2 rfl (sk 3 rfl (kc (cS1) ?_));refine kz 2 rfl (skh 8 [(4,.all)] rfl (kc (aa) ?_));exact ak 3 [(9,.all)] rfl (az (aF (rtC trw)))
 by_cases hi2:i=2
 ·obtain⟨c1,W,O,m1,g1,J,⟨b1,b1',b1''⟩,cC⟩:=aYn F (hS (by omega)) v t n l1 (left-1) hv (by omega) (by omega) hg (by omega) hl1 (by omega) (by omega);refine⟨c1,W,O,m1,g1,J,⟨by omega,by omega,by omega⟩,?_⟩;refine bL (n:=374) tok Tryz.func24 rfl rfl rfl ?_;refine sg rfl (sg rfl ?_ (hc:=by repeat (first | exact trivial | refine⟨by first | rfl | omega | (simp;omega) | (unfold Ty.name;simp;omega) | (simp;done),?_⟩)));refine a8 (a8 (agF 6 [] rfl rfl rfl (aA rfl (fun hb=>absurd (by simpa using hb) hlf) (fun _=>aD (a8 (sk 1 rfl (kc cN ?_)))))));refine az (aC (sg rfl (aA rfl (fun hb=>absurd (by have:=θ hb;omega) hi0) (fun _=>sg rfl (aA rfl (fun hb=>absurd (by have:=θ hb;omega) hi1) (fun _=>sg rfl (aA rfl (fun _=>sk 3 rfl (kc (cC) ?_)) (fun hb=>absurd (Aa hb) (by omega)))))))));exact kz 1 rfl (aF (rtC trw))
 by_cases hi3:i=3
 ·obtain⟨u,W,k,gu,hk,J,cU⟩:=zF v.vars hv.vars (by omega) 2 1 (by omega) (by omega) l1 (left-1) hl1;have hk:k≤13:=hk;obtain⟨j,l3,hj,Z,cJ⟩:=jX W (left-1) 3 (by decide) J;have hj:j<3:=by omega
  obtain⟨s,hs⟩:∃s,([[97],[98],[99]]:List Str)[j]?=some s:=aL (by simpa using hj);have hs':=bM bC hs;have hs1:s.length=1:=by
   have:j=0∨j=1∨j=2:=by omega
   rcases this with rfl | rfl | rfl<;>(simp at hs;subst hs;rfl)
  have hs8:s++[39]∈tvN:=by
   have:j=0∨j=1∨j=2:=by omega
   rcases this with rfl | rfl | rfl<;>(simp at hs;subst hs;decide)
  have hsub:∀x∈v.vars,x∈v.vars++[s++[39]]:=fun x hx=>χ.2 (.inl hx)
  have hg':GTW (v.vars++[s++[39]]) n t:=⟨hg.g,hg.w.weak hsub⟩
  have gX:GTW (v.vars++[s++[39]]) 1 (.mk 2 0 (s++[39]) []):=⟨.var _ hs8,.var (by simp)⟩
  have hvi:Gok ⟨v.l,v.vars++[s++[39]],v.deep+1⟩:=⟨fun x hx=>(by obtain⟨g1,k,g2,g3⟩:=hv.all x hx;exact⟨g1,k,g2,g3.g,g3.w.weak hsub⟩),fun x hx=>by
   rcases χ.1 hx with hx | hx
   ·exact hv.vars x hx
   ·rw[κ.1 hx];exact hs8,by show 0≤v.deep+1;omega,by show(v.l.length:Int)≤v.deep+1;omega,by show((v.vars++[s++[39]]).length:Int)≤v.deep+1+1;rw[Ab];simp only[Bl,List.length_nil];omega⟩
  obtain⟨hvp,cP⟩:=more ⟨v.l,v.vars++[s++[39]],v.deep+1⟩ [112] _ 1 hvi (by show 0≤v.deep+1;omega) (by show v.deep+1≤8;omega) gX (by omega) (.inr (by decide));have hdp:(dH ⟨v.l,v.vars++[s++[39]],v.deep+1⟩ [112] (.mk 2 0 (s++[39]) [])).deep=v.deep+1+1:=rfl;obtain⟨c1,l4,O,m1,g1,Y,⟨b1,b1',b1''⟩,cS1⟩:=hS (by omega) _ t n l3 (left-1) hvp (by omega) (by omega) hg' (by omega) Z (by omega) (by omega);have cH:=a6m v.vars (s++[39]) (by unfold Fits;omega);have head:∀(c:Core) (l':List Int) (le':Int),(s++[39]∈v.vars→aU Tryz.prog 51 [.one (.vp 700 0),.pa (zB v),tyV t] (mO l4 O) (.pa (aB c)) (mO l' le'))→
    (¬s++[39]∈v.vars→∃c2:Core,c=.mk 4 0 [] zTy [.mk 6 0 [] u [.mk 7 0 (s++[39]) zTy [.mk 5 0 [112] (.mk 2 0 (s++[39]) []) [c1] [] []] [] []] [] [],c2] [] []∧aU Tryz.prog 24 [.one (.vp 700 0),.pa (zB (dH v [] t)),tyV u] (mO l4 O) (.pa (aB c2)) (mO l' le'))→
    aU Tryz.prog 24 [.one (.vp 700 0),.pa (zB v),tyV t] (mO l left) (.pa (aB c)) (mO l' le'):=by
   intro c l' le' hA hB;refine bL (n:=374) tok Tryz.func24 rfl rfl rfl ?_;refine sg rfl (sg rfl ?_ (hc:=by repeat (first | exact trivial | refine⟨by first | rfl | omega | (simp;omega) | (unfold Ty.name;simp;omega) | (simp;done),?_⟩)));refine a8 (a8 (agF 6 [] rfl rfl rfl (aA rfl (fun hb=>absurd (by simpa using hb) hlf) (fun _=>aD (a8 (sk 1 rfl (kc cN ?_)))))));refine az (aC (sg rfl (aA rfl (fun hb=>absurd (by have:=θ hb;omega) hi0) (fun _=>sg rfl (aA rfl (fun hb=>absurd (by have:=θ hb;omega) hi1) (fun _=>sg rfl (aA rfl (fun hb=>absurd (by have:=θ hb;omega) hi2) (fun _=>sg rfl (aA rfl (fun _=>sk 3 rfl (kc (cU) ?_)) (fun hb=>absurd (Aa hb) (by omega)))))))))));refine kz 2 rfl (sk 2 rfl (kc (cJ) ?_));refine ak 3 [(3,.row j []),(4,.row j (bC s))] rfl (az (sg rfl ?_ (hc:=by repeat (first | exact trivial | refine⟨by first | rfl | omega | (simp;omega) | (unfold Ty.name;simp;omega) | (simp;done),?_⟩))));refine sgh [(4,.all)] rfl (sg rfl ?_ (hc:=by repeat (first | exact trivial | refine⟨by first | rfl | omega | (simp;omega) | (unfold Ty.name;simp;omega) | (simp;done),?_⟩)));refine sg rfl ?_ (hc:=by repeat (first | exact trivial | refine⟨by first | rfl | omega | (simp;omega) | (unfold Ty.name;simp;omega) | (simp;done),?_⟩));refine AWp.sub (Sub.freeze (id:=132) rfl) ?_;rw[show v.vars.map bC++[[C.str (s++[39])]]=(v.vars++[s++[39]]).map bC by rw[A6];rfl];refine AWp.sub (vp 16 (zB ⟨v.l,v.vars++[s++[39]],v.deep+1⟩) (hp:=.c .refl (.hs rfl (by simp) (Go.AM.take_all (by simp)) (.c .refl .nil)))) ?_;refine AWp.sub (vp 17 (bH (.mk 2 0 (s++[39]) []))) ?_;refine sk 4 rfl (kc (cP) ?_);refine ak 1 [] rfl (kc (cS1) ?_);refine ak 4 [(7,.all)] rfl (az (AWp.sub (vp 18 (aB (.mk 5 0 [112] (.mk 2 0 (s++[39]) []) [c1] [] []))) ?_));refine a8 (sk 4 rfl ?_ (hc:=by repeat (first | exact trivial | refine⟨by first | rfl | omega | (simp;omega) | (unfold Ty.name;simp;omega) | (simp;done),?_⟩)));refine kc cH ?_;refine az (aA rfl (fun hb=>?_) (fun hb=>?_))
   ·have cLf:=hA (θ hb);refine sk 3 rfl (kc (cLf) ?_);exact kz 1 rfl (aF (rtC trw))
   obtain⟨c2,rfl,aa⟩:=hB (Aa hb);have cA:=hJ (.mk 6 0 [] u [.mk 7 0 (s++[39]) zTy [.mk 5 0 [112] (.mk 2 0 (s++[39]) []) [c1] [] []] [] []] [] []) c2;refine aD (sgh [(3,.all)] rfl ?_ (hc:=by repeat (first | exact trivial | refine⟨by first | rfl | omega | (simp;omega) | (unfold Ty.name;simp;omega) | (simp;done),?_⟩)));refine AWp.sub (vp 19 (aB (.mk 7 0 (s++[39]) zTy [.mk 5 0 [112] (.mk 2 0 (s++[39]) []) [c1] [] []] [] []))) ?_;refine skh 7 [(2,.all)] rfl (kc (cM) ?_);refine ak 1 [] rfl (kc (aa) ?_);refine kc (cA) ?_;exact kz 1 rfl (aF (rtC trw))
  by_cases hH:s++[39]∈v.vars
  ·obtain⟨c2,l5,m2,g2,hm2,hl5,cLf⟩:=aIc n n t (le_refl _) hg.g (by omega) v l4 O hv hg.w (by omega) Y;exact⟨c2,l5,O,m2,g2,hl5,⟨by omega,by omega,by omega⟩,head _ _ _ (fun _=>cLf) (fun h=>absurd hH h)⟩
  ·obtain⟨c2,l5,le2,m2,g2,hl5,⟨b2,b2',b2''⟩,aa⟩:=hS (by omega) (dH v [] t) u k l4 O hv1 (by omega) (by omega) gu (by omega) Y (by omega) (by omega)
   exact⟨_,l5,le2,m1+4+20+1+m2+1,⟨.app (.tapp gu.g (by omega) (.tlam hs8 (.lam (by decide) gX.g (by omega) g1.g))) g2.g,.app (.tt (fun x hx=>hx) (fun x w hx=>⟨hx,hv.env hx⟩) hH hg.w gu.w ((g1.in (s:=[112]) (by decide)).weak (fun x hx=>by
    rcases χ.1 hx with hx | hx
    ·exact η _ hx
    ·rw[κ.1 hx];exact φ) fun x w hx=>hx)) g2.less.w⟩,hl5,⟨by omega,by omega,by omega⟩,head _ _ _ (fun h=>absurd h hH) (fun _=>⟨c2,rfl,aa⟩)⟩
 by_cases hi4:i=4
 ·obtain⟨u,W,k,gu,hk,J,cU⟩:=zF v.vars hv.vars (by omega) 1 2 (by omega) (by omega) l1 (left-1) hl1;have hk:k≤5:=hk;have gF:GTW v.vars (k+n+3) (eE u t):=⟨gu.g.fn hg.g,.fn gu.w hg.w⟩
  have cFn:=v7 u t;obtain⟨c1,l3,O,m1,g1,Z,⟨b1,b1',b1''⟩,cS1⟩:=hS (by omega) (dH v [] t) (eE u t) (k+n+3) W (left-1) hv1 (by omega) (by omega) gF (by omega) J (by omega) (by omega);obtain⟨c2,l4,le2,m2,g2,Y,⟨b2,b2',b2''⟩,aa⟩:=hS (by omega) (dH v [] t) u k l3 O hv1 (by omega) (by omega) gu (by omega) Z (by omega) (by omega);have cA:=hJ c1 c2;refine⟨.mk 4 0 [] zTy [c1,c2] [] [],l4,le2,m1+m2+1,⟨.app g1.g g2.g,.app g1.less.w g2.less.w⟩,Y,⟨by omega,by omega,by omega⟩,?_⟩;refine bL (n:=374) tok Tryz.func24 rfl rfl rfl ?_;refine sg rfl (sg rfl ?_ (hc:=by repeat (first | exact trivial | refine⟨by first | rfl | omega | (simp;omega) | (unfold Ty.name;simp;omega) | (simp;done),?_⟩)));refine a8 (a8 (agF 6 [] rfl rfl rfl (aA rfl (fun hb=>absurd (by simpa using hb) hlf) (fun _=>aD (a8 (sk 1 rfl (kc cN ?_)))))));refine az (aC (sg rfl (aA rfl (fun hb=>absurd (by have:=θ hb;omega) hi0) (fun _=>sg rfl (aA rfl (fun hb=>absurd (by have:=θ hb;omega) hi1) (fun _=>sg rfl (aA rfl (fun hb=>absurd (by have:=θ hb;omega) hi2) (fun _=>sg rfl (aA rfl (fun hb=>absurd (by have:=θ hb;omega) hi3) (fun _=>sg rfl (aA rfl (fun _=>sk 3 rfl (kc (cU) ?_)) (fun hb=>absurd (Aa hb) (by omega)))))))))))));refine ak 1 [] rfl (kc (cFn) ?_);refine kz 2 rfl (sk 3 rfl (kc (cM) ?_));refine ak 1 [] rfl (kc (cS1) ?_);refine ak 3 [] rfl (kc (cM) ?_);refine ak 7 [(12,.row 0 (bH (tapp (.mk 3 0 arrow []) u))),(15,.row 1 (bH u))] rfl (kc (aa) ?_);refine kc (cA) ?_;exact kz 1 rfl (aF (rtC trw))
 obtain⟨q,L,⟨hLg,hsp⟩,hLn,cSp⟩:=aO2 hg.g (by omega);by_cases hI:bb q.form q.name [73,110,116]=true
 ·obtain⟨j,W,hj,J,cJ⟩:=jX l1 (left-1) 4 (by decide) hl1;have hj:j<4:=by omega
  obtain⟨s,hs⟩:∃s,([[97,100,100],[115,117,98],[109,117,108],[100,105,118]]:List Str)[j]?=some s:=aL (by simpa using hj);have hs':=bM bC hs;have et:=hg.w.sp_int hsp (iY hI);have hso:s∈opI:=by
   have:j=0∨j=1∨j=2∨j=3:=by omega
   rcases this with rfl | rfl | rfl | rfl<;>(simp at hs;subst hs;decide)
  have hsp:s∈aR8:=by
   have:j=0∨j=1∨j=2∨j=3:=by omega
   rcases this with rfl | rfl | rfl | rfl<;>(simp at hs;subst hs;decide)
  obtain⟨c1,l3,O,m1,g1,Z,⟨b1,b1',b1''⟩,cS1⟩:=hS (by omega) (dH v [] t) t n W (left-1) hv1 (by omega) (by omega) hg (by omega) J (by omega) (by omega);obtain⟨c2,l4,le2,m2,g2,Y,⟨b2,b2',b2''⟩,aa⟩:=hS (by omega) (dH v [] t) t n l3 O hv1 (by omega) (by omega) hg (by omega) Z (by omega) (by omega);refine⟨.mk 10 0 s zTy [c1,c2] [] [],l4,le2,m1+m2+5,⟨.prim hsp g1.g g2.g,by have h1:=g1.less.w;have h2:=g2.less.w;rw[et] at h1 h2 ⊢;exact .pint hso h1 h2⟩,Y,⟨by omega,by omega,by omega⟩,?_⟩;refine bL (n:=374) tok Tryz.func24 rfl rfl rfl ?_;refine sg rfl (sg rfl ?_ (hc:=by repeat (first | exact trivial | refine⟨by first | rfl | omega | (simp;omega) | (unfold Ty.name;simp;omega) | (simp;done),?_⟩)));refine a8 (a8 (agF 6 [] rfl rfl rfl (aA rfl (fun hb=>absurd (by simpa using hb) hlf) (fun _=>aD (a8 (sk 1 rfl (kc cN ?_)))))));refine az (aC (sg rfl (aA rfl (fun hb=>absurd (by have:=θ hb;omega) hi0) (fun _=>sg rfl (aA rfl (fun hb=>absurd (by have:=θ hb;omega) hi1) (fun _=>sg rfl (aA rfl (fun hb=>absurd (by have:=θ hb;omega) hi2) (fun _=>sg rfl (aA rfl (fun hb=>absurd (by have:=θ hb;omega) hi3) (fun _=>sg rfl (aA rfl (fun hb=>absurd (by have:=θ hb;omega) hi4) (fun _=>aD (sk 1 rfl (kc (cSp) ?_))))))))))))));refine kz 6 rfl (a8 (aC (a8 (agF 4 [] rfl rfl rfl (aA rfl (fun _=>sk 2 rfl (kc (cJ) ?_)) (fun hb=>by have:=hI.symm.trans hb;cases this))))));refine ak 3 [(3,.row j []),(4,.row j (bC s))] rfl (az (sk 4 rfl (kc (cM) ?_)));refine ak 1 [] rfl (kc (cS1) ?_);refine ak 3 [] rfl (kc (cM) ?_);refine ak 1 [] rfl (kc (aa) ?_);exact ak 3 [(13,.all)] rfl (az (aF (rtC trw)))
 by_cases hB:bb q.form q.name [66,111,111,108]=true
 ·obtain⟨j,W,hj,J,cJ⟩:=jX l1 (left-1) 2 (by decide) hl1;have hj:j<2:=by omega
  obtain⟨s,hs⟩:∃s,([[101,113],[108,116]]:List Str)[j]?=some s:=aL (by simpa using hj);have hs':=bM bC hs;have et:=hg.w.sp_bool hsp (iY hB);have hso:s∈opB:=by
   have:j=0∨j=1:=by omega
   rcases this with rfl | rfl<;>(simp at hs;subst hs;decide)
  have hsp:s∈aR8:=by
   have:j=0∨j=1:=by omega
   rcases this with rfl | rfl<;>(simp at hs;subst hs;decide)
  have gI:GTW v.vars 1 iZ:=⟨.con _ (by decide),.int⟩
  obtain⟨c1,l3,O,m1,g1,Z,⟨b1,b1',b1''⟩,cS1⟩:=hS (by omega) (dH v [] t) iZ 1 W (left-1) hv1 (by omega) (by omega) gI (by omega) J (by omega) (by omega);obtain⟨c2,l4,le2,m2,g2,Y,⟨b2,b2',b2''⟩,aa⟩:=hS (by omega) (dH v [] t) iZ 1 l3 O hv1 (by omega) (by omega) gI (by omega) Z (by omega) (by omega);refine⟨.mk 10 0 s zTy [c1,c2] [] [],l4,le2,m1+m2+5,⟨.prim hsp g1.g g2.g,by rw[et];exact .pbool hso g1.less.w g2.less.w⟩,Y,⟨by omega,by omega,by omega⟩,?_⟩;refine bL (n:=374) tok Tryz.func24 rfl rfl rfl ?_;refine sg rfl (sg rfl ?_ (hc:=by repeat (first | exact trivial | refine⟨by first | rfl | omega | (simp;omega) | (unfold Ty.name;simp;omega) | (simp;done),?_⟩)));refine a8 (a8 (agF 6 [] rfl rfl rfl (aA rfl (fun hb=>absurd (by simpa using hb) hlf) (fun _=>aD (a8 (sk 1 rfl (kc cN ?_)))))));refine az (aC (sg rfl (aA rfl (fun hb=>absurd (by have:=θ hb;omega) hi0) (fun _=>sg rfl (aA rfl (fun hb=>absurd (by have:=θ hb;omega) hi1) (fun _=>sg rfl (aA rfl (fun hb=>absurd (by have:=θ hb;omega) hi2) (fun _=>sg rfl (aA rfl (fun hb=>absurd (by have:=θ hb;omega) hi3) (fun _=>sg rfl (aA rfl (fun hb=>absurd (by have:=θ hb;omega) hi4) (fun _=>aD (sk 1 rfl (kc (cSp) ?_))))))))))))));refine kz 6 rfl (a8 (aC (a8 (agF 4 [] rfl rfl rfl (aA rfl (fun hb=>absurd hb hI) (fun _=>a8 (agF 4 [] rfl rfl rfl (aA rfl (fun _=>a8 (aE mixed (kc (iK [73,110,116]) ?_))) (fun hb=>by have:=hB.symm.trans hb;cases this)))))))));refine kz 2 rfl (sk 2 rfl (kc (cJ) ?_));refine ak 5 [(3,.row j []),(4,.row j (bC s))] rfl (kc (cM) ?_);refine ak 1 [] rfl (kc (cS1) ?_);refine ak 3 [] rfl (kc (cM) ?_);refine ak 1 [] rfl (kc (aa) ?_);exact ak 3 [(17,.all)] rfl (az (aF (rtC trw)))
 have hl2e:∃W,Ok W∧(((bb q.form q.name [76]=true∧L.length=1)∧∃j:Nat,j=0∧aU Tryz.prog 23 [.one (.vp 700 0),I .i64 3] (mO l1 (left-1)) (I .i64 j) (mO W (left-1)))∨(¬(bb q.form q.name [76]=true∧L.length=1)∧W=l1))∨((bb q.form q.name [76]=true∧L.length=1)∧Ok W∧∃j:Nat,0<j∧aU Tryz.prog 23 [.one (.vp 700 0),I .i64 3] (mO l1 (left-1)) (I .i64 j) (mO W (left-1))):=by
  by_cases hX:bb q.form q.name [76]=true∧L.length=1
  ·obtain⟨j,W,_,J,cJ⟩:=jX l1 (left-1) 3 (by decide) hl1;by_cases hj:j=0
   ·exact⟨W,.inl ⟨J,.inl ⟨hX,j,hj,cJ⟩⟩⟩
   ·exact⟨W,.inr ⟨hX,J,j,by omega,cJ⟩⟩
  ·exact⟨l1,.inl ⟨hl1,.inr ⟨hX,rfl⟩⟩⟩
 obtain⟨W,⟨J,hl12⟩ | ⟨hX,J,j,hj,cJ⟩⟩:=hl2e
 rotate_left
 ·obtain⟨x,rfl⟩:∃x,L=[x]:=Bm.1 hX.2;obtain⟨e3,e4⟩:=iY hX.1;have d3:decide (q.form=3)=true:=Af e3;have d4:decide (q.name=[76])=true:=Af e4;obtain⟨kx,_,gx,_,hkx⟩:=hLg;obtain⟨et,wx⟩:=hg.w.sp_lst hsp ⟨e3,e4⟩;have gx:GTW v.vars kx x:=⟨gx,wx⟩
  have cG:=pK [67] [x] (by simp);obtain⟨c1,l3,O,m1,g1,Z,⟨b1,b1',b1''⟩,cS1⟩:=hS (by omega) (dH v [] t) x kx W (left-1) hv1 (by omega) (by omega) gx (by omega) J (by omega) (by omega);obtain⟨c2,l4,le2,m2,g2,Y,⟨b2,b2',b2''⟩,aa⟩:=hS (by omega) (dH v [] t) t n l3 O hv1 (by omega) (by omega) hg (by omega) Z (by omega) (by omega);have cA1:=hJ (j0 [67] [x]) c1;have cA2:=hJ (.mk 4 0 [] zTy [j0 [67] [x],c1] [] []) c2;refine⟨.mk 4 0 [] zTy [.mk 4 0 [] zTy [j0 [67] [x],c1] [] [],c2] [] [],l4,le2,9+1+m1+1+m2+1,⟨.app (.app (.tapp gx.g (by omega) (.con (by decide))) g1.g) g2.g,by have h2:=g2.less.w;rw[et] at h2 ⊢;exact .app (.app (.cons wx) g1.less.w) h2⟩,Y,⟨by omega,by omega,by omega⟩,?_⟩;refine bL (n:=374) tok Tryz.func24 rfl rfl rfl ?_;refine sg rfl (sg rfl ?_ (hc:=by repeat (first | exact trivial | refine⟨by first | rfl | omega | (simp;omega) | (unfold Ty.name;simp;omega) | (simp;done),?_⟩)));refine a8 (a8 (agF 6 [] rfl rfl rfl (aA rfl (fun hb=>absurd (by simpa using hb) hlf) (fun _=>aD (a8 (sk 1 rfl (kc cN ?_)))))));refine az (aC (sg rfl (aA rfl (fun hb=>absurd (by have:=θ hb;omega) hi0) (fun _=>sg rfl (aA rfl (fun hb=>absurd (by have:=θ hb;omega) hi1) (fun _=>sg rfl (aA rfl (fun hb=>absurd (by have:=θ hb;omega) hi2) (fun _=>sg rfl (aA rfl (fun hb=>absurd (by have:=θ hb;omega) hi3) (fun _=>sg rfl (aA rfl (fun hb=>absurd (by have:=θ hb;omega) hi4) (fun _=>aD (sk 1 rfl (kc (cSp) ?_))))))))))))));refine kz 6 rfl (a8 (aC (a8 (agF 4 [] rfl rfl rfl (aA rfl (fun hb=>absurd hb hI) (fun _=>a8 (agF 4 [] rfl rfl rfl (aA rfl (fun hb=>absurd hb hB) (fun _=>skh 15 [(3,.bv true),(7,.bv true),(8,.bv true),(12,.bv true)] rfl (kcG cJ ?_))))))))));refine ak 3 [(17,.bv true)] rfl (az (aA rfl (fun _=>sk 1 rfl (kc (cG) ?_)) (fun hb=>absurd (Aa hb) (by omega))));refine ak 3 [] rfl (kc (cM) ?_);refine ak 3 [(7,.row 0 []),(8,.row 0 (bH x))] rfl (kc (cS1) ?_);refine kc (cA1) ?_;refine ak 3 [] rfl (kc (cM) ?_);refine ak 1 [] rfl (kc (aa) ?_);refine kc (cA2) ?_;exact kz 1 rfl (aF (rtC trw))
 by_cases hP:bb q.form q.name [80]=true∧L.length=2
 ·obtain⟨x,y,rfl⟩:∃x y,L=[x,y]:=by
   match L,hP.2 with
   | [x,y],_=>exact⟨x,y,rfl⟩
  obtain⟨e3,e4⟩:=iY hP.1;have d3:decide (q.form=3)=true:=Af e3;have d4:decide (q.name=[76])=false:=by rw[e4];rfl
  obtain⟨kx,mx,gx,⟨ky,_,gy,_,hky⟩,hkx⟩:=hLg;obtain⟨et,wx,wy⟩:=hg.w.sp_pr hsp ⟨e3,e4⟩;have gx:GTW v.vars kx x:=⟨gx,wx⟩
  have gy:GTW v.vars ky y:=⟨gy,wy⟩
  have cG:=pK [80] [x,y] (by simp);obtain⟨c1,l3,O,m1,g1,Z,⟨b1,b1',b1''⟩,cS1⟩:=hS (by omega) (dH v [] t) x kx l1 (left-1) hv1 (by omega) (by omega) gx (by omega) hl1 (by omega) (by omega);obtain⟨c2,l4,le2,m2,g2,Y,⟨b2,b2',b2''⟩,aa⟩:=hS (by omega) (dH v [] t) y ky l3 O hv1 (by omega) (by omega) gy (by omega) Z (by omega) (by omega);have cA1:=hJ (j0 [80] [x,y]) c1;have cA2:=hJ (.mk 4 0 [] zTy [j0 [80] [x,y],c1] [] []) c2;refine⟨.mk 4 0 [] zTy [.mk 4 0 [] zTy [j0 [80] [x,y],c1] [] [],c2] [] [],l4,le2,9+1+1+m1+1+m2+1,⟨.app (.app (.tapp gy.g (by omega) (.tapp gx.g (by omega) (.con (by decide)))) g1.g) g2.g,by rw[et];exact .app (.app (.pair wx wy) g1.less.w) g2.less.w⟩,Y,⟨by omega,by omega,by omega⟩,?_⟩;refine bL (n:=374) tok Tryz.func24 rfl rfl rfl ?_;refine sg rfl (sg rfl ?_ (hc:=by repeat (first | exact trivial | refine⟨by first | rfl | omega | (simp;omega) | (unfold Ty.name;simp;omega) | (simp;done),?_⟩)));refine a8 (a8 (agF 6 [] rfl rfl rfl (aA rfl (fun hb=>absurd (by simpa using hb) hlf) (fun _=>aD (a8 (sk 1 rfl (kc cN ?_)))))));refine az (aC (sg rfl (aA rfl (fun hb=>absurd (by have:=θ hb;omega) hi0) (fun _=>sg rfl (aA rfl (fun hb=>absurd (by have:=θ hb;omega) hi1) (fun _=>sg rfl (aA rfl (fun hb=>absurd (by have:=θ hb;omega) hi2) (fun _=>sg rfl (aA rfl (fun hb=>absurd (by have:=θ hb;omega) hi3) (fun _=>sg rfl (aA rfl (fun hb=>absurd (by have:=θ hb;omega) hi4) (fun _=>aD (sk 1 rfl (kc (cSp) ?_))))))))))))));refine kz 6 rfl (a8 (aC (a8 (agF 4 [] rfl rfl rfl (aA rfl (fun hb=>absurd hb hI) (fun _=>a8 (agF 4 [] rfl rfl rfl (aA rfl (fun hb=>absurd hb hB) (fun _=>sgh [(3,.bv true),(7,.bv true),(8,.bv false),(12,.bv false)] rfl (aA rfl nofun (fun _=>a8 (agF 4 [] rfl rfl rfl (aA rfl (fun _=>?_) (fun hb=>?_))))))))))))))
  ·refine sk 1 rfl (kc (cG) ?_);refine ak 3 [] rfl (kc (cM) ?_);refine ak 3 [(7,.row 0 []),(8,.row 0 (bH x))] rfl (kc (cS1) ?_);refine kc (cA1) ?_;refine ak 3 [] rfl (kc (cM) ?_);refine ak 3 [(16,.row 1 []),(17,.row 1 (bH y))] rfl (kc (aa) ?_);refine kc (cA2) ?_;exact kz 1 rfl (aF (rtC trw))
  ·exfalso;simp[e3,e4] at hb
 rcases wP hg.g with⟨m1,m2,a,b,ga,gb,hnm,hte,cF⟩ | cF
 ·have hwf:=hg.w;rw[hte] at hwf;obtain⟨wa,wb⟩:=hwf.of_fn;have ga:GTW v.vars m1 a:=⟨ga,wa⟩
  have gb:GTW v.vars m2 b:=⟨gb,wb⟩
  obtain⟨s,l3,hs,Z,cNm⟩:=aIb W (left-1) v J;have hs6:s∈nm6:=χ.2 (.inl hs);obtain⟨hvs,cMs⟩:=more v s a m1 hv h0 (by omega) ga (by omega) (.inr hs6);have hds:(dH v s a).deep=v.deep+1:=rfl;obtain⟨c3,l4,le3,m3,g3,Y,⟨b3,b3',b3''⟩,cS3⟩:=hS (by omega) (dH v s a) b m2 l3 (left-1) hvs (by omega) (by omega) gb (by omega) Z (by omega) (by omega);refine⟨.mk 5 0 s a [c3] [] [],l4,le3,m3+4,⟨.lam hs6 ga.g (by omega) g3.g,by rw[hte];exact .lam ga.w (g3.in hs6)⟩,Y,⟨by omega,by omega,by omega⟩,?_⟩;refine bL (n:=374) tok Tryz.func24 rfl rfl rfl ?_;refine sg rfl (sg rfl ?_ (hc:=by repeat (first | exact trivial | refine⟨by first | rfl | omega | (simp;omega) | (unfold Ty.name;simp;omega) | (simp;done),?_⟩)));refine a8 (a8 (agF 6 [] rfl rfl rfl (aA rfl (fun hb=>absurd (by simpa using hb) hlf) (fun _=>aD (a8 (sk 1 rfl (kc cN ?_)))))));refine az (aC (sg rfl (aA rfl (fun hb=>absurd (by have:=θ hb;omega) hi0) (fun _=>sg rfl (aA rfl (fun hb=>absurd (by have:=θ hb;omega) hi1) (fun _=>sg rfl (aA rfl (fun hb=>absurd (by have:=θ hb;omega) hi2) (fun _=>sg rfl (aA rfl (fun hb=>absurd (by have:=θ hb;omega) hi3) (fun _=>sg rfl (aA rfl (fun hb=>absurd (by have:=θ hb;omega) hi4) (fun _=>aD (sk 1 rfl (kc (cSp) ?_))))))))))))));refine kz 6 rfl (a8 (aC (a8 (agF 4 [] rfl rfl rfl (aA rfl (fun hb=>absurd hb hI) (fun _=>a8 (agF 4 [] rfl rfl rfl (aA rfl (fun hb=>absurd hb hB) (fun _=>a8 (AWp.cut (mk [(0,.one (.vp 700 0)),(4,.one (.vp 4 0)),(5,.one (.vp 5 0)),(6,.one (.vp 6 0)),(21,.one (.vp 21 0)),(22,.one (.hs 510 0 L.length L.length)),(268,B false)] ([(4,.var 67 (vRt v)),(5,.var 30 (tR t)),(6,.var 34 [.c (.int .i64 0),.c (.int .i64 0),.c (.str []),.c (.int .i64 0),.c (.int .i64 0),.c (.str []),.c .nl,.c .nl,.c .nl,.c .nl]),(21,.var 30 (tR q)),(510,.arr 30 4 (L.map bH) 2)]++mO W (left-1))) ?_ ?_))))))))))
  ·rcases hl12 with⟨hX,j,hj0,cJ⟩ | ⟨hX,rfl⟩
   ·obtain⟨e3,e4⟩:=iY hX.1;have d3:decide (q.form=3)=true:=Af e3;have d4:decide (q.name=[76])=true:=Af e4;have d5:decide ((L.length:Int)=1)=true:=Af (by rw[hX.2];rfl);subst hj0;refine aE mixed (ak 15 [(3,.bv true),(7,.bv true),(8,.bv true),(12,.bv true),(13,.bv true)] rfl (kcG cJ ?_ (hw:=d5)));exact ak 3 [(13,.bv true),(17,.bv true)] rfl (az sl)
   ·by_cases e3:q.form=3
    ·have d3:decide (q.form=3)=true:=Af e3;by_cases e4:q.name=[76]
     ·have d4:decide (q.name=[76])=true:=Af e4;have e5:¬L.length=1:=fun h=>hX ⟨by unfold bb;rw[d3,d4];rfl,h⟩
      have d5:decide ((L.length:Int)=1)=false:=Ae (by omega);exact ag [(3,.bv true),(7,.bv true),(8,.bv true),(12,.bv true),(13,.bv false),(17,.bv false)] rfl sl
     ·have d4:decide (q.name=[76])=false:=Ae e4;exact ag [(3,.bv true),(7,.bv true),(8,.bv false),(12,.bv false)] rfl sl
    ·have d3:decide (q.form=3)=false:=Ae e3;exact ag [(3,.bv false),(7,.bv false)] rfl sl
  refine aA rfl nofun (fun _=>a8 (agF 4 [] rfl rfl rfl (aA rfl (fun hb=>absurd (aIr hb) hP) (fun _=>aD (a8 (sk 1 rfl (kc cF ?_)))))));refine az (aA rfl (fun _=>?_) nofun);subst hte;refine sk 2 rfl (kc (cNm) ?_);refine kz 1 rfl (skh 18 [(3,.row 0 (bH (tapp (.mk 3 0 arrow []) a))),(6,.row 1 (bH a)),(13,.row 0 (bH (tapp (.mk 3 0 arrow []) a))),(16,.row 1 (bH a))] rfl (kc (cMs) ?_));refine ak 4 [(21,.row 1 (bH b))] rfl (kc (cS3) ?_);exact ak 3 [(24,.all)] rfl (az (aF (rtC trw)))
 ·obtain⟨c2,l5,m2,g2,hm2,hl5,cLf⟩:=aIc n n t (le_refl _) hg.g (by omega) v W (left-1) hv hg.w (by omega) J;refine⟨c2,l5,left-1,m2,g2,hl5,⟨by omega,by omega,by omega⟩,?_⟩;refine bL (n:=374) tok Tryz.func24 rfl rfl rfl ?_;refine sg rfl (sg rfl ?_ (hc:=by repeat (first | exact trivial | refine⟨by first | rfl | omega | (simp;omega) | (unfold Ty.name;simp;omega) | (simp;done),?_⟩)));refine a8 (a8 (agF 6 [] rfl rfl rfl (aA rfl (fun hb=>absurd (by simpa using hb) hlf) (fun _=>aD (a8 (sk 1 rfl (kc cN ?_)))))));refine az (aC (sg rfl (aA rfl (fun hb=>absurd (by have:=θ hb;omega) hi0) (fun _=>sg rfl (aA rfl (fun hb=>absurd (by have:=θ hb;omega) hi1) (fun _=>sg rfl (aA rfl (fun hb=>absurd (by have:=θ hb;omega) hi2) (fun _=>sg rfl (aA rfl (fun hb=>absurd (by have:=θ hb;omega) hi3) (fun _=>sg rfl (aA rfl (fun hb=>absurd (by have:=θ hb;omega) hi4) (fun _=>aD (sk 1 rfl (kc (cSp) ?_))))))))))))));refine kz 6 rfl (a8 (aC (a8 (agF 4 [] rfl rfl rfl (aA rfl (fun hb=>absurd hb hI) (fun _=>a8 (agF 4 [] rfl rfl rfl (aA rfl (fun hb=>absurd hb hB) (fun _=>a8 (AWp.cut (mk [(0,.one (.vp 700 0)),(4,.one (.vp 4 0)),(5,.one (.vp 5 0)),(6,.one (.vp 6 0)),(21,.one (.vp 21 0)),(22,.one (.hs 510 0 L.length L.length)),(268,B false)] ([(4,.var 67 (vRt v)),(5,.var 30 (tR t)),(6,.var 34 [.c (.int .i64 0),.c (.int .i64 0),.c (.str []),.c (.int .i64 0),.c (.int .i64 0),.c (.str []),.c .nl,.c .nl,.c .nl,.c .nl]),(21,.var 30 (tR q)),(510,.arr 30 4 (L.map bH) 2)]++mO W (left-1))) ?_ ?_))))))))))
  ·rcases hl12 with⟨hX,j,hj0,cJ⟩ | ⟨hX,rfl⟩
   ·obtain⟨e3,e4⟩:=iY hX.1;have d3:decide (q.form=3)=true:=Af e3;have d4:decide (q.name=[76])=true:=Af e4;have d5:decide ((L.length:Int)=1)=true:=Af (by rw[hX.2];rfl);subst hj0;refine aE mixed (ak 15 [(3,.bv true),(7,.bv true),(8,.bv true),(12,.bv true),(13,.bv true)] rfl (kcG cJ ?_ (hw:=d5)));exact ak 3 [(13,.bv true),(17,.bv true)] rfl (az sl)
   ·by_cases e3:q.form=3
    ·have d3:decide (q.form=3)=true:=Af e3;by_cases e4:q.name=[76]
     ·have d4:decide (q.name=[76])=true:=Af e4;have e5:¬L.length=1:=fun h=>hX ⟨by unfold bb;rw[d3,d4];rfl,h⟩
      have d5:decide ((L.length:Int)=1)=false:=Ae (by omega);exact ag [(3,.bv true),(7,.bv true),(8,.bv true),(12,.bv true),(13,.bv false),(17,.bv false)] rfl sl
     ·have d4:decide (q.name=[76])=false:=Ae e4;exact ag [(3,.bv true),(7,.bv true),(8,.bv false),(12,.bv false)] rfl sl
    ·have d3:decide (q.form=3)=false:=Ae e3;exact ag [(3,.bv false),(7,.bv false)] rfl sl
  refine aA rfl nofun (fun _=>a8 (agF 4 [] rfl rfl rfl (aA rfl (fun hb=>absurd (aIr hb) hP) (fun _=>aD (a8 (sk 1 rfl (kc cF ?_)))))));refine az (aA rfl nofun (fun _=>aD (sk 3 rfl (kc (cLf) ?_))));exact kz 1 rfl (aF (rtC trw))
theorem aO3:∀F:Nat,sD F
 | 0=>by
  have:=aAo (-1) (fun h=>by omega);intro v t n l left I O hd J hn hl hle q;exact this v t n l left I (by omega) hd J hn hl hle q
 | F+1=>aAo F fun _=>aO3 F
theorem qI (s:Str) (t:Ty):aU Tryz.prog 20 [Go.AM.T s,tyV t] [] (tyV (.mk 5 0 s [t])) []:=by
 refine bL (n:=9) tok Tryz.func20 rfl rfl rfl ?_;exact sg rfl (sgh [(2,.all)] rfl (aF (rtC trw)))
theorem aYl (l:List Int) (hl:aZs l) (hf:Fits l):∃(c:Core) (t:Ty) (m:Nat),GC m c∧m≤110000∧((∃n,GT n t∧n≤29∧TW [] t∧WT [] e0 c t)∨∃n u c0,GT n u∧n≤33∧t=.mk 5 0 [97] [u]∧TW [[97]] u∧c=.mk 7 0 [97] zTy [c0] [] []∧WT [[97]] e0 c0 u)∧
  aU Tryz.prog 6 [.one (.c (.sl 1 (l.map aQ0)))] [] (.tup [.pa (aB c),tyV t]) []:=by
 have O:aZs (l.take 60):=fun x hx=>hl x (Br hx)
 have W:Fits (l.take 60):=by
  unfold Fits at *;rw[At];omega
 have Y:=a3u l 60 hf (by omega);obtain⟨t,l1,n,q,hn,Z,cT⟩:=zF [] (fun x hx=>by cases hx) (by simp) 3 0 (by omega) (by omega) (l.take 60) 26 ⟨O,W⟩;have hn:n≤29:=hn;have gt:=q.g;obtain⟨i,l2,hi,I,cN⟩:=jX l1 26 3 (by decide) Z;have hp:pos 26=25:=rfl;by_cases h0:i=0
 ·subst h0;have gA:GT 1 (.mk 2 0 [97] []):=.var _ (by decide);have gF:=gA.fn gt;have cF:=v7 (.mk 2 0 [97] []) t;obtain⟨c,l3,le,m,gc,hl3,⟨b1,b2,b3⟩,J⟩:=aO3 7 ⟨[],[[97]],0⟩ (eE (.mk 2 0 [97] []) t) _ l2 26 ⟨fun x hx=>(by cases hx),fun x hx=>by rw[κ.1 hx];decide,Int.le_refl _,by decide,by decide⟩ (by decide) (by decide) ⟨gF,.fn (.var φ) (q.w.weak fun x hx=>by cases hx)⟩ (by show _≤33+8*(0:Int);omega) I (by decide) (by rw[hp];decide);have hp2:0≤pos le:=by unfold pos;omega
  have cA:=qI [97] (eE (.mk 2 0 [97] []) t);refine⟨.mk 7 0 [97] zTy [c] [] [],_,m+20,.tlam (by decide) gc.g,by omega,.inr ⟨_,_,c,gF,by omega,rfl,.fn (.var φ) (q.w.weak fun x hx=>by cases hx),rfl,gc.w⟩,?_⟩;refine bL (n:=35) tok Tryz.func6 rfl rfl rfl ?_;refine sg rfl (sk 1 rfl (kc Y ?_));refine ak 3 [(3,.id 700)] rfl (az (sk 1 rfl (kc cT ?_)));refine kz 2 rfl (a8 (sk 1 rfl (kc cN ?_)));refine kz 1 rfl (aA rfl (fun _=>sk 2 rfl (kc cF ?_)) nofun);refine kz 2 rfl (skh 4 [(1,.all)] rfl (kc J ?_));refine kz 2 rfl (skh 4 [(1,.all)] rfl (kc cA ?_));exact kz 2 rfl (aF ⟨.inr rfl,⟨_,_,.cell rfl (tg rfl) rfl rfl rfl (.cell rfl (tg rfl) rfl rfl rfl .nil),.cons (.pa (.c .refl (.c .refl (.c .refl (.c .refl (.c .refl (.c .refl (.c .nl (.c .refl (.c .nl (.c .nl .nil))))))))))) (.cons .refl .nil),rfl⟩,trivial,rfl⟩)
 ·obtain⟨c,l3,le,m,gc,hl3,⟨b1,b2,b3⟩,J⟩:=aO3 7 ⟨[],[],0⟩ t n l2 26 ⟨fun x hx=>(by cases hx),fun x hx=>(by cases hx),Int.le_refl _,by decide,by decide⟩ (by decide) (by decide) q (by show _≤33+8*(0:Int);omega) I (by decide) (by rw[hp];decide);have hp2:0≤pos le:=by unfold pos;omega
  refine⟨c,t,m,gc.g,by omega,.inl ⟨n,gt,hn,q.w,gc.w⟩,?_⟩;refine bL (n:=35) tok Tryz.func6 rfl rfl rfl ?_;refine sg rfl (sk 1 rfl (kc Y ?_));refine ak 3 [(3,.id 700)] rfl (az (sk 1 rfl (kc cT ?_)));refine kz 2 rfl (a8 (sk 1 rfl (kc cN ?_)));refine kz 1 rfl (aA rfl (fun hb=>absurd (by have:=θ hb;omega) h0) (fun _=>aD (sk 3 rfl (kc J ?_))));exact kz 3 rfl (aF ⟨.inr rfl,⟨_,_,.cell rfl (tg rfl) rfl rfl rfl (.cell rfl (tg rfl) rfl rfl rfl .nil),.cons .refl (.cons .refl .nil),rfl⟩,trivial,rfl⟩)
theorem aKm:∀{k:Nat}{t:Ty},GT k t→TM tvN 3 t:=by
 intro k t h
 induction h with
 | var s hs=>exact .var hs
 | con s hs=>exact .con
 | app ha hb q I=>exact .app q I
theorem aBj:∀s∈nm6,nh s:=by unfold nh;decide
theorem wE:∀s∈nm6,s.length≤30:=by decide
theorem a44:∀s∈tvN,¬s=[]:=by decide
theorem lwA {s:Str}{vs:List Str}(h3:s.length≤8) (h4:∀x∈vs,x∈nm6) (h5:vs.length≤2):1+w30 s+(vs.map fun v=>1+w30 v).sum≤93:=by
 have I:=aQ7 (show s.length≤30 by omega);have J:=sR (g:=fun v:Str=>1+w30 v) (K:=31) (l:=vs) fun v q=>by
  have:=aQ7 (wE _ (h4 v q));omega
 omega
theorem a7k:∀{m:Nat}{c:Core},GC m c→MW tvN c∧m30 c≤31*m∧20*tlC c≤m:=by
 intro m c h;have hw0:w30 ([]:Str)=30:=rfl;have two:∀{x y:Core},MW tvN x→MW tvN y→∀z∈[x,y],MW tvN z:=fun hx hy z W=>by
  rcases Ah.1 W with rfl | W
  ·exact hx
  ·rw[κ.1 W];exact hy
 have one:∀{x:Core},MW tvN x→∀z∈[x],MW tvN z:=fun hx z W=>by rw[κ.1 W];exact hx
 induction h with
 | @var s h=>
  have:=aQ7 (wE _ h);refine⟨qM (i6 rfl (fun h=>by cases h) rfl (wE _ h) (fun h=>by cases h)) .z (by simp) (by simp) (by simp),?_,?_⟩
  ·rw[m30,bV,eU,fQ];omega
  ·rw[tlC,kP,rG,qS,ψ (by decide)];omega
 | @con s h=>
  have:=aQ7 (show s.length≤30 by omega);refine⟨qM (i6 rfl (fun h=>by cases h) rfl (by omega) (fun h=>by cases h)) .z (by simp) (by simp) (by simp),?_,?_⟩
  ·rw[m30,bV,eU,fQ];omega
  ·rw[tlC,kP,rG,qS,ψ (by decide)];omega
 | int h=>
  refine⟨qM (i6 rfl (fun h=>by cases h) rfl (by decide) (fun h=>by cases h)) .z (by simp) (by simp) (by simp),?_,?_⟩
  ·rw[m30,bV,eU,fQ];omega
  ·rw[tlC,kP,rG,qS,ψ (by decide)];omega
 | app ha hb q J=>
  obtain⟨I,a2,a3⟩:=q;obtain⟨O,Z,b3⟩:=J;refine⟨qM (i6 rfl (fun h=>by cases h) rfl (by decide) (fun h=>by cases h)) .z (two I O) (by simp) (by simp),?_,?_⟩
  ·rw[m30,bV,bV,bV,eU,fQ];omega
  ·rw[tlC,kP,kP,kP,rG,qS,ψ (by decide)];omega
 | @lam m k s t a h ht hk ha q=>
  obtain⟨I,a2,a3⟩:=q;have:=aQ7 (wE _ h);refine⟨qM (i6 rfl (fun h=>by cases h) (aKm ht).wf (wE _ h) (fun _=>aBj _ h)) (aKm ht) (one I) (by simp) (by simp),?_,?_⟩
  ·rw[m30,bV,bV,eU,fQ];omega
  ·rw[tlC,kP,kP,rG,qS,ψ (by decide)];omega
 | tapp ht hk ha q=>
  obtain⟨I,a2,a3⟩:=q;refine⟨qM (i6 rfl (fun h=>by cases h) (aKm ht).wf (by decide) (fun h=>by cases h)) (aKm ht) (one I) (by simp) (by simp),?_,?_⟩
  ·rw[m30,bV,bV,eU,fQ];omega
  ·rw[tlC,kP,kP,rG,qS,ψ (by decide)];omega
 | @tlam m s a h ha q=>
  obtain⟨I,a2,a3⟩:=q;have h8:=a6z s h;have:=aQ7 (show s.length≤30 by omega);refine⟨qM (i6 rfl (fun _=>⟨rfl,a44 s h⟩) rfl (by omega) (fun h=>by cases h)) .z (one I) (by simp) (by simp),?_,?_⟩
  ·rw[m30,bV,bV,eU,fQ];omega
  ·rw[tlC,kP,kP,rG,qS,ξ rfl];omega
 | @lt m n k s t a b h ht hk ha hb q J=>
  obtain⟨I,a2,a3⟩:=q;obtain⟨O,Z,b3⟩:=J;have:=aQ7 (wE _ h);refine⟨qM ⟨rfl,fun h=>(by cases h),rfl,fun p hp=>?_,?_,fun h=>(by cases h),fun p hp=>?_,by simp⟩ .z (one I) (fun x hx=>?_) (by simp),?_,?_⟩
  ·rw[κ.1 hp];exact(aKm ht).wf
  ·unfold lw;show 1+w30 []+(1+w30 s+0)+0≤403;omega
  ·rw[κ.1 hp];exact aBj _ h
  ·rw[κ.1 hx];exact⟨aKm ht,O⟩
  ·rw[m30,bV,bV,eU,eU,fQ];omega
  ·rw[tlC,kP,kP,rG,rG,qS,ψ (by decide)];omega
 | @case1 m n k t a b f i s vs ht hk ha hb h1 h2 h3 h4 h5 q J=>
  obtain⟨I,a2,a3⟩:=q;obtain⟨O,Z,b3⟩:=J;have hl:=lwA h3 h4 h5;refine⟨qM ⟨rfl,fun h=>(by cases h),(aKm ht).wf,by simp,?_,fun h=>(by cases h),by simp,fun p hp v Y=>?_⟩ (aKm ht) (one I) (by simp) (fun x hx=>?_),?_,?_⟩
  ·unfold lw;show 1+w30 []+0+(1+w30 s+(vs.map fun v=>1+w30 v).sum+0)≤403;omega
  ·rw[κ.1 hp] at Y;exact aBj _ (h4 v Y)
  ·rw[κ.1 hx];exact O
  ·rw[m30,bV,bV,eU,fQ,fQ];omega
  ·rw[tlC,kP,kP,rG,qS,qS,ψ (by decide)];omega
 | @case2 m n o k t a b c f i s vs f' i' s' vs' ht hk ha hb hc h1 h2 h3 h4 h5 h1' h2' h3' h4' h5' q J ihc=>
  obtain⟨I,a2,a3⟩:=q;obtain⟨O,Z,b3⟩:=J;obtain⟨c1,c2,c3⟩:=ihc;have hl:=lwA h3 h4 h5;have hl':=lwA h3' h4' h5';refine⟨qM ⟨rfl,fun h=>(by cases h),(aKm ht).wf,by simp,?_,fun h=>(by cases h),by simp,fun p hp v Y=>?_⟩ (aKm ht) (one I) (by simp) (fun x hx=>?_),?_,?_⟩
  ·unfold lw;show 1+w30 []+0+(1+w30 s+(vs.map fun v=>1+w30 v).sum+(1+w30 s'+(vs'.map fun v=>1+w30 v).sum+0))≤403;omega
  ·have:p=(s,vs)∨p=(s',vs'):=by simpa [ahd,Alt.name,Alt.vars] using hp
   rcases this with rfl | rfl
   ·exact aBj _ (h4 v Y)
   ·exact aBj _ (h4' v Y)
  ·have:x=.mk f i s vs b∨x=.mk f' i' s' vs' c:=by simpa using hx
   rcases this with rfl | rfl
   ·exact O
   ·exact c1
  ·rw[m30,bV,bV,eU,fQ,fQ,fQ];omega
  ·rw[tlC,kP,kP,rG,qS,qS,qS,ψ (by decide)];omega
 | @prim m n s a b h ha hb q J=>
  obtain⟨I,a2,a3⟩:=q;obtain⟨O,Z,b3⟩:=J;have:=aQ7 (aMm _ h);refine⟨qM (i6 rfl (fun h=>by cases h) rfl (aMm _ h) (fun h=>by cases h)) .z (two I O) (by simp) (by simp),?_,?_⟩
  ·rw[m30,bV,bV,bV,eU,fQ];omega
  ·rw[tlC,kP,kP,kP,rG,qS,ψ (by decide)];omega
 | fail ht hk=>
  refine⟨qM (i6 rfl (fun h=>by cases h) (aKm ht).wf (by decide) (fun h=>by cases h)) (aKm ht) (by simp) (by simp) (by simp),?_,?_⟩
  ·rw[m30,bV,eU,fQ];omega
  ·rw[tlC,kP,rG,qS,ψ (by decide)];omega
def V0:List Str:=a7b++tvN
theorem a6w:¬([]:Str)∈V0:=by decide
theorem aWi:V0.length=8:=rfl
theorem MW.mono {V W:List Str}{c:Core}(h:MW V c) (I:∀x∈V,x∈W):MW W c:=⟨h.q,h.w,fun x hx=>I x (h.v x hx)⟩
structure MK (c:Core):Prop where
 m:MW V0 c
 t:tlC c≤6000
 s:m30 c≤3500000
theorem MK.st {c:Core}(h:MK c) (n:Nat):ST n V0 c:=ST.of h.m h.t h.s n
theorem a56 {m:Nat}{c:Core}(h:GC m c) (hm:m≤110000):MK c:=by
 obtain⟨h1,h2,h3⟩:=a7k h;exact⟨h1.mono fun x hx=>χ.2 (.inr hx),by omega,by omega⟩
end Go.Proofs.YtglfogjcijokpaaGreatDoor
