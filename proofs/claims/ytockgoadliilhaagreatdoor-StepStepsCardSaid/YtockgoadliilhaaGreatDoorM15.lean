/-
  Texts Ly18 to Lt4 in one.
-/
import Derived.Test.YtockgoadliilhaaGreatDoorM14
open List (append_assoc append_nil flatMap_append flatMap_cons flatMap_nil foldl_append length_append length_cons length_eq_one_iff length_map length_nil map_append map_nil mem_append mem_cons mem_cons_of_mem mem_cons_self mem_map mem_of_mem_take mem_singleton sum_nil take_add_one take_length take_succ_cons take_zero)
open Nat (le_refl le_succ mul_add sub_self zero_le)
namespace Go.Proofs.YtockgoadliilhaaGreatDoor
open Go Go.AM
set_option maxRecDepth 20000
set_option maxHeartbeats 4000000
theorem aX8 (s:Str) (a b:Int):(jT s wQ=none∧jG s a b=(zC,51))∨
  ∃(fn:FuncId) (r:Core),s5 Tryz.prog fn∧jT s wQ=some [.fn fn]∧(s=aLa→b=0→jG s a b=(zC,53))∧(¬(s=aLa∧b=0)→jG s a b=(r,0)∧aU Tryz.prog fn [I .i64 a,I .i64 b] [] (.pa (aB r)) []):=by
 by_cases h1:s=aAw
 ·subst h1;exact .inr ⟨_,_,aR3 (by kernel_rfl),rfl,fun h=>absurd h (by decide),fun _=>⟨rfl,a30 a b⟩⟩
 by_cases h2:s=aVy
 ·subst h2;exact .inr ⟨_,_,aR3 (by kernel_rfl),rfl,fun h=>absurd h (by decide),fun _=>⟨rfl,a3w a b⟩⟩
 by_cases h3:s=aTb
 ·subst h3;exact .inr ⟨_,_,aR3 (by kernel_rfl),rfl,fun h=>absurd h (by decide),fun _=>⟨rfl,a3y a b⟩⟩
 by_cases h4:s=aLa
 ·subst h4;refine .inr ⟨133,kI (IntKind.i64.wrap (a.tdiv b)),aR3 (by kernel_rfl),rfl,fun _ h=>?_,fun h=>?_⟩
  ·subst h;rfl
  ·have hb:¬b=0:=fun e=>h ⟨rfl,e⟩
   refine⟨?_,a3z a b hb⟩;unfold jG;rw[φ (by decide),φ (by decide),φ (by decide),ξ rfl,φ hb]
 by_cases h5:s=nEq
 ·subst h5;exact .inr ⟨_,_,aR3 (by kernel_rfl),rfl,fun h=>absurd h (by decide),fun _=>⟨rfl,a6a a b⟩⟩
 by_cases h6:s=nLt
 ·subst h6;exact .inr ⟨_,_,aR3 (by kernel_rfl),rfl,fun h=>absurd h (by decide),fun _=>⟨rfl,a58 a b⟩⟩
 refine .inl ⟨?_,?_⟩
 ·unfold wQ;simp only[jT];rw[φ (fun e=>h1 e.symm),φ (fun e=>h2 e.symm),φ (fun e=>h3 e.symm),φ (fun e=>h4 e.symm),φ (fun e=>h5 e.symm),φ (fun e=>h6 e.symm)]
 ·unfold jG;rw[φ h1,φ h2,φ h3,φ h4,φ h5,φ h6]
theorem aZa (m:Mod) (i:Int) (s:Str) (t:Ty) (a b:Core) (pa pb:CE) (hsa:aU Tryz.prog 29 [.pa (aB a)] [] (B (shC a)) []) (hsb:aU Tryz.prog 29 [.pa (aB b)] [] (B (shC b)) [])
  (N:shC a=false→aU Tryz.prog 107 [.pa (jU m),.pa (aB (.mk 10 i s t [a,b] [] [])),I .i64 (0:Nat)] [] (dM pa) [])
  (O:shC b=false→aU Tryz.prog 107 [.pa (jU m),.pa (aB (.mk 10 i s t [a,b] [] [])),I .i64 (1:Nat)] [] (dM pb) []):
  aU Tryz.prog 72 [.pa (jU m),.pa (aB (.mk 10 i s t [a,b] [] []))] [] (dM (if ¬shC a=true then pa else if ¬shC b=true then pb else if a.form=3∧b.form=3 then jG s a.n b.n else(zC,51))) []:=by
 refine bQ (n:=76) tok Tryz.func72 rfl rfl rfl ?_;refine sg rfl (a8 (sg rfl (aC (aK (fun k:Nat=>mk [(2,.one (.vp 2 0)),(3,.one (.vp 3 0)),(4,.one (.vp 4 0)),(11,.one (.c (.sl 10 (aO [a,b])))),(12,I .i64 (2:Nat)),(13,I .i64 k)] [(2,.var 82 ((jU m).map .c)),(3,.var 37 (aW (.mk 10 i s t [a,b] [] []))),(4,.var 37 bO)]) (fun k=>k≤2∧(0<k→shC a=true)∧(1<k→shC b=true)) (fun k=>2-k) 0 ⟨by omega,fun h=>absurd h (by omega),fun h=>absurd h (by omega)⟩ sl ?_))));rintro k ⟨hk,g1,g2⟩;refine sg rfl (a8 (aA rfl (fun hb=>?_) (fun hb=>?_)))
 ·have hlt:k<2:=by have:=ψ hb;omega
  refine aD (a8 (aC ?_));by_cases h0:k=0
  ·subst h0;refine sgh [(1,.row 0 (aB a))] rfl (sk 1 rfl (kc hsa ?_));refine kz 1 rfl ?_;cases hs:shC a with
   | false=>
    have N:=N hs;rw[ξ Av];refine aA rfl (fun _=>sk 3 rfl (kc N ?_)) (fun hb=>absurd hb (by decide));exact kz 4 rfl (aE (fM trw))
   | true=>
    exact aA rfl (fun hb=>absurd hb (by decide)) (fun _=>aD (ag [] rfl ⟨1,⟨by omega,fun _=>rfl,fun h=>absurd h (by omega)⟩,by dsimp only;omega,sl⟩))
  ·have h1:k=1:=by omega
   subst h1;have u:=g1 (by omega);refine sgh [(1,.row 1 (aB b))] rfl (sk 1 rfl (kc hsb ?_));refine kz 1 rfl ?_;cases hs:shC b with
   | false=>
    have O:=O hs;rw[φ (fun h=>h u),ξ Av];refine aA rfl (fun _=>sk 3 rfl (kc O ?_)) (fun hb=>absurd hb (by decide));exact kz 4 rfl (aE (fM trw))
   | true=>
    exact aA rfl (fun hb=>absurd hb (by decide)) (fun _=>aD (ag [] rfl ⟨2,⟨by omega,fun _=>u,fun _=>rfl⟩,by dsimp only;omega,sl⟩))
 have hk2:k=2:=by have:=χ hb;omega
 subst hk2;have u:=g1 (by omega);have aa:=g2 (by omega);rw[φ (fun h=>h u),φ (fun h=>h aa)];refine aL (a8 (aI mixed (kc aZp ?_)));have hmp:lO wQ:=aBu;rcases aX8 s a.n b.n with⟨hfd,hr⟩ | ⟨fn,r,Z,hfd,hdz,hok⟩
 ·--no such name
  refine ak 8 [(3,.look none)] rfl (az ?_);rw[hr,ite_self];exact a8 (aC (a8 (sg rfl (aA rfl (fun _=>aD (aA rfl (fun _=>sg rfl (aE (fM trw))) (fun hb=>absurd hb (by decide)))) (fun hb=>absurd hb (by decide))))))
 ·refine ak 8 [(3,.look (some [.fn fn]))] rfl (az (a8 (aC (a8 (sg rfl (aA rfl (fun hb=>by simp[aKe] at hb) (fun _=>sgh [(2,.row 0 (aB a))] rfl ?_)))))));by_cases ha:a.form=3
  ·refine aA rfl (fun hb=>absurd hb (by simp[ha])) (fun _=>ag [(2,.row 1 (aB b))] rfl ?_);by_cases J:b.form=3
   ·rw[ξ ⟨ha,J⟩];refine aA rfl (fun hb=>absurd hb (by simp[J])) (fun _=>?_);by_cases hd:s=aLa
    ·subst hd;refine sgh [(3,.bv true),(6,.row 1 (aB b)),(10,.bv true)] rfl ?_;by_cases Y:b.n=0
     ·rw[hdz rfl Y];exact aA rfl (fun _=>sg rfl (aE (fM trw))) (fun hb=>absurd Y (χ hb))
     ·obtain⟨e,hc⟩:=hok fun h=>Y h.2
      rw[e];refine aA rfl (fun hb=>absurd (ψ hb) Y) (fun _=>aD (AWp.sub (Sub.fnClo 8 rfl) ?_));refine skh 11 [(3,.row 0 (aB a)),(8,.row 1 (aB b))] rfl (kv (args:=[I .i64 a.n,I .i64 b.n]) (caps:=[]) hc ?_ Z);exact kz 2 rfl (aE (fM trw))
    ·obtain⟨e,hc⟩:=hok fun h=>hd h.1
     rw[e];have hd':decide (s=aLa)=false:=Ae hd;refine sgh [(3,.bv false),(10,.bv false)] rfl (aA rfl nofun (fun _=>aD (AWp.sub (Sub.fnClo 8 rfl) ?_)));refine skh 11 [(3,.row 0 (aB a)),(8,.row 1 (aB b))] rfl (kv (args:=[I .i64 a.n,I .i64 b.n]) (caps:=[]) hc ?_ Z);exact kz 2 rfl (aE (fM trw))
   ·rw[φ fun h=>J h.2];exact aA rfl (fun _=>sg rfl (aE (fM trw))) (fun hb=>absurd hb (by simp[J]))
  ·rw[φ fun h=>ha h.1];exact aA rfl (fun _=>aD (aA rfl (fun _=>sg rfl (aE (fM trw))) (fun hb=>absurd hb (by simp[ha])))) (fun hb=>absurd hb (by simp[ha]))
section
variable {m:Mod}{f i:Int}{s:Str}{t:Ty}{ks:List Core}{bs:List Bind}{al:List Alt}{p:CE}
theorem a5z (h:aU Tryz.prog 68 [.pa (jU m),.pa (aB (.mk 1 i s t ks bs al))] [] (dM p) []):aU Tryz.prog 30 [.pa (jU m),.pa (aB (.mk 1 i s t ks bs al))] [] (dM p) []:=by
 refine bQ (n:=48) tok Tryz.func30 rfl rfl rfl ?_;refine sg rfl (a8 (sg rfl (aC (sg rfl (aA rfl (fun _=>sk 2 rfl (kc h ?_)) (fun hb=>by simp[Core.form] at hb))))));exact kz 4 rfl (aE (fM trw))
theorem aZh (hf:f=4∨f=6) (h:aU Tryz.prog 69 [.pa (jU m),.pa (aB (.mk f i s t ks bs al))] [] (dM p) []):aU Tryz.prog 30 [.pa (jU m),.pa (aB (.mk f i s t ks bs al))] [] (dM p) []:=by
 refine bQ (n:=48) tok Tryz.func30 rfl rfl rfl ?_;refine sg rfl (a8 (sg rfl (aC (sg rfl (aA rfl (fun hb=>by have h0:f=1:=ψ hb;omega) (fun _=>a8 (sg rfl ?_)))))));rcases hf with rfl | rfl
 ·refine aA rfl (fun _=>aD (aA rfl (fun _=>sk 2 rfl (kc h ?_)) (fun hb=>by simp[Core.form] at hb))) (fun hb=>by simp[Core.form] at hb);exact kz 4 rfl (aE (fM trw))
 ·refine aA rfl (fun hb=>by simp[Core.form] at hb) (fun _=>ag [] rfl (aA rfl (fun _=>sk 2 rfl (kc h ?_)) (fun hb=>by simp[Core.form] at hb)));exact kz 4 rfl (aE (fM trw))
theorem a5y (h:aU Tryz.prog 70 [.pa (jU m),.pa (aB (.mk 8 i s t ks bs al))] [] (dM p) []):aU Tryz.prog 30 [.pa (jU m),.pa (aB (.mk 8 i s t ks bs al))] [] (dM p) []:=by
 refine bQ (n:=48) tok Tryz.func30 rfl rfl rfl ?_;refine sg rfl (a8 (sg rfl (aC (sg rfl (aA rfl (fun hb=>by simp[Core.form] at hb) (fun _=>a8 (sg rfl (aA rfl (fun hb=>by simp[Core.form] at hb) (fun _=>ag [] rfl (aA rfl (fun hb=>by simp[Core.form] at hb) (fun _=>sg rfl (aA rfl (fun _=>sk 2 rfl (kc h ?_)) (fun hb=>by simp[Core.form] at hb)))))))))))));exact kz 4 rfl (aE (fM trw))
theorem a5x (h:aU Tryz.prog 71 [.pa (jU m),.pa (aB (.mk 9 i s t ks bs al))] [] (dM p) []):aU Tryz.prog 30 [.pa (jU m),.pa (aB (.mk 9 i s t ks bs al))] [] (dM p) []:=by
 refine bQ (n:=48) tok Tryz.func30 rfl rfl rfl ?_;refine sg rfl (a8 (sg rfl (aC (sg rfl (aA rfl (fun hb=>by simp[Core.form] at hb) (fun _=>a8 (sg rfl (aA rfl (fun hb=>by simp[Core.form] at hb) (fun _=>ag [] rfl (aA rfl (fun hb=>by simp[Core.form] at hb) (fun _=>sg rfl (aA rfl (fun hb=>by simp[Core.form] at hb) (fun _=>sg rfl (aA rfl (fun _=>sk 2 rfl (kc h ?_)) (fun hb=>by simp[Core.form] at hb)))))))))))))));exact kz 4 rfl (aE (fM trw))
theorem a3n (h:aU Tryz.prog 72 [.pa (jU m),.pa (aB (.mk 10 i s t ks bs al))] [] (dM p) []):aU Tryz.prog 30 [.pa (jU m),.pa (aB (.mk 10 i s t ks bs al))] [] (dM p) []:=by
 refine bQ (n:=48) tok Tryz.func30 rfl rfl rfl ?_;refine sg rfl (a8 (sg rfl (aC (sg rfl (aA rfl (fun hb=>by simp[Core.form] at hb) (fun _=>a8 (sg rfl (aA rfl (fun hb=>by simp[Core.form] at hb) (fun _=>ag [] rfl (aA rfl (fun hb=>by simp[Core.form] at hb) (fun _=>sg rfl (aA rfl (fun hb=>by simp[Core.form] at hb) (fun _=>sg rfl (aA rfl (fun hb=>by simp[Core.form] at hb) (fun _=>sg rfl (aA rfl (fun _=>sk 2 rfl (kc h ?_)) (fun hb=>by simp[Core.form] at hb)))))))))))))))));exact kz 4 rfl (aE (fM trw))
theorem a50 (h1:¬f=1) (h4:¬f=4) (h6:¬f=6) (J:¬f=8) (N:¬f=9) (I:¬f=10):aU Tryz.prog 30 [.pa (jU m),.pa (aB (.mk f i s t ks bs al))] [] (dM (if f=11 then(zC,52) else(zC,51))) []:=by
 refine bQ (n:=48) tok Tryz.func30 rfl rfl rfl ?_;refine sg rfl (a8 (sg rfl (aC (sg rfl (aA rfl (fun hb=>absurd (ψ hb) h1) (fun _=>a8 (sg rfl (aA rfl (fun hb=>absurd (ψ hb) h4) (fun _=>ag [] rfl (aA rfl (fun hb=>absurd (ψ hb) h6) (fun _=>sg rfl (aA rfl (fun hb=>absurd (ψ hb) J) (fun _=>sg rfl (aA rfl (fun hb=>absurd (ψ hb) N) (fun _=>sg rfl (aA rfl (fun hb=>absurd (ψ hb) I) (fun _=>sg rfl ?_)))))))))))))))));by_cases u:f=11
 ·subst u;rw[ξ rfl];exact aA rfl (fun _=>sg rfl (aE (fM trw))) (fun hb=>by simp[Core.form] at hb)
 ·rw[φ u];exact aA rfl (fun hb=>absurd (ψ hb) u) (fun _=>aD (sg rfl (aE (fM trw))))
end
theorem aWx (hI:dJ 540000000000) {n:Nat}{U:List Str}(hn:n≤99) (hU:U.length≤480000) {m:Mod}(hB:BI U m.binds):∀(k:Nat) (c:Core),m30 c≤k→ST n U c→
  aU Tryz.prog 30 [.pa (jU m),.pa (aB c)] [] (dM (cD m.binds k c)) []:=by
 intro k
 induction k with
 | zero=>intro c h;have:=dD c;omega
 | succ k ih=>
 intro c h hc;obtain⟨f,i,s,t,ks,bs,al⟩:=c;have hsz:=hc.sz;have hm:∀x∈ks,m30 x<m30 (.mk f i s t ks bs al):=fun x hx=>by have:=fX hx;rw[m30];omega
 have Z:∀x∈ks,aY x≤570000000000:=fun x hx=>by have:=c8 x;have:=hm x hx;omega
 have aa:∀x∈ks,¬f=7→aU Tryz.prog 29 [.pa (aB x)] [] (B (shC x)) []:=fun x hx h7=>aAd 403 x (hc.kid h7 hx).q (Z x hx)
 have J:∀(j:Nat) (x:Core),ks[j]?=some x→¬f=7→ks.length≤2→aU Tryz.prog 107 [.pa (jU m),.pa (aB (.mk f i s t ks bs al)),I .i64 (j:Nat)] [] (dM (pT (cD m.binds k) (.mk f i s t ks bs al) j)) []:=fun j x hx h7 hl=>by
  have N:=η hx;exact a6d m 403 (.mk f i s t ks bs al) x j (cD m.binds k) hx (by show ks.length≤_;omega) (hc.kid h7 N).q (Z x N) fun _=>ih x (by have:=hm x N;omega) (hc.kid h7 N)
 rw[iP];by_cases h1:f=1
 ·subst h1;rw[ξ rfl];exact a5z (aZb m (by have:=hB.len;omega) 1 i s t ks bs al)
 rw[φ h1];by_cases u:f=4∨f=6
 ·rw[ξ u];by_cases ha:f=4∧(ks.headD zC).form=5
  ·rw[ξ ha];obtain⟨rfl,ha⟩:=ha;obtain⟨⟨a,b,rfl⟩,rfl,rfl⟩:=jP hc.q (.inl rfl);have Y:=hc.kid (by decide) (x:=a) ζ;obtain⟨f',i',s',t',ks',bs',al'⟩:=a;have ha:f'=5:=ha;subst ha;obtain⟨⟨body,rfl⟩,rfl,rfl⟩:=dR Y.q (.inl rfl);exact aZh (.inl rfl) (a39 hI hn hU m i s t body b i' s' t' hc)
  rw[φ ha];by_cases hb:f=6∧(ks.headD zC).form=7
  ·rw[ξ hb];obtain⟨rfl,hb⟩:=hb;obtain⟨⟨a,rfl⟩,rfl,rfl⟩:=dR hc.q (.inr (.inl rfl));have Y:=hc.kid (by decide) (x:=a) ζ;obtain⟨f',i',s',t',ks',bs',al'⟩:=a;have hb:f'=7:=hb;subst hb;obtain⟨⟨body,rfl⟩,rfl,rfl⟩:=dR Y.q (.inr (.inr rfl));exact aZh (.inr rfl) (a38 hI hn hU m i s t body i' s' t' hc)
  rw[φ hb];have hex:∃a ks1,ks=a::ks1∧ks.length≤2:=by
   rcases u with rfl | rfl
   ·obtain⟨⟨a,b,rfl⟩,_⟩:=jP hc.q (.inl rfl);exact⟨a,[b],rfl,le_refl _⟩
   ·obtain⟨⟨a,rfl⟩,_⟩:=dR hc.q (.inr (.inl rfl));exact⟨a,[],rfl,by simp⟩
  obtain⟨a,ks1,rfl,hl⟩:=hex;exact aZh u (a36 m f i s t a ks1 bs al _ ha hb (J 0 a rfl (by omega) hl))
 rw[φ u];by_cases h8:f=8
 ·rw[ξ h8];subst h8;obtain⟨⟨a,rfl⟩,rfl,h12⟩:=vN hc.q;exact a5y (a6c hI hn hU m i s t a bs hc)
 rw[φ h8];by_cases h9:f=9
 ·rw[ξ h9];subst h9;obtain⟨⟨a,rfl⟩,rfl,h12,hv⟩:=vO hc.q;have Y:=hc.kid (by decide) (x:=a) ζ;have hca:=Z a ζ;have hcc:=aZt m i s t a al (pT (cD m.binds k) (.mk 9 i s t [a] [] al) 0) h12 (aa a ζ (by decide)) (fun _=>J 0 a rfl (by decide) (by simp)) fun x hx=>by
   refine aZg x a hca (aQr 403 a Y.q hca) fun s1 l1 hg hlv=>?_
   have kx:=hc.alt hx;have hm':=fE hx;obtain⟨g1,_⟩:=vL hn hU (s:=m30 (.mk 9 i s t [a] [] al)) (by rw[m30,dA,dA];omega) hsz kx Y (hv x hx) hg hlv;exact(aKq hI (by decide) (by decide) x.body _ _ hlv.symm (by have:=hv x hx;omega) g1).1
  exact a5x hcc
 rw[φ h9];by_cases O:f=10
 ·rw[ξ O];subst O;obtain⟨⟨a,b,rfl⟩,rfl,rfl⟩:=jP hc.q (.inr rfl);exact a3n (aZa m i s t a b _ _ (aa a ζ (by decide)) (aa b (ω _ ζ) (by decide)) (fun _=>J 0 a rfl (by decide) (le_refl _)) (fun _=>J 1 b rfl (by decide) (le_refl _)))
 rw[φ O];exact a50 h1 (fun e=>u (.inl e)) (fun e=>u (.inr e)) h8 h9 O
noncomputable def kC (bd:List Bind):Nat→Nat→Core→Core×Nat×Int
 | 0,n,c=>if shC c=true then(c,n,0) else(zC,0,3)
 | k+1,n,c=>if shC c=true then(c,n,0) else
  if(cD bd (m30 c) c).2=0 then(if 6000<eX (cD bd (m30 c) c).1 then(zC,0,2) else kC bd k (n+1) (cD bd (m30 c) c).1) else(zC,0,(cD bd (m30 c) c).2)
theorem a4w:UOk zTy:=⟨by decide,by unfold zTy;rw[fvm];decide⟩
noncomputable def yG (bd:List Bind) (c:Core):CE:=if shC c=true then(zC,21) else if(cD bd (m30 c) c).2=0 then((cD bd (m30 c) c).1,0) else(zC,(cD bd (m30 c) c).2)
theorem aWw (I:dJ 540000000000) {D M X:Nat}(u:M+D≤700000) {c:Core}(hc:CG D M X c) (J:¬([]:Str)∈tyR c):aU Tryz.prog 31 [.pa (aB c),Go.AM.T [],tyV zTy] [] (.pa (aB c)) []:=by
 have h:=(vW I u (m30 c) c (le_refl _) hc [] zTy a4w).imp;rwa [a1e (m30 c) c (le_refl _) hc.q J] at h
section
variable {n:Nat}{U:List Str}
theorem aQw (u:dJ 540000000000) (hn:n≤99) (I:U.length≤480000) (hz:¬([]:Str)∈U) {m:Mod}(J:BI U m.binds) {c:Core}(hc:ST n U c):
  aU Tryz.prog 9 [.pa (jU m),.pa (aB c)] [] (dM (yG m.binds c)) []:=by
 have hcs:=c8 c;have N:=hc.sz;have O:=aAd 403 c hc.q (by omega);have Y:=aWx u hn I J (m30 c) c (le_refl _) hc;have hok:=pH u hn I J (m30 c) c (le_refl _) hc;unfold yG;generalize cD m.binds (m30 c) c=p at *;refine bQ (n:=25) tok Tryz.func9 rfl rfl rfl ?_;refine sg rfl (a8 (sk 1 rfl (kc O ?_)));refine az ?_;cases hs:shC c with
 | true=>
  rw[ξ rfl];exact aA rfl (fun _=>sg rfl (aE (fM trw))) nofun
 | false=>
  rw[φ Av];refine aA rfl nofun (fun _=>aD (sk 3 rfl (kc Y ?_)));refine kz 6 rfl ?_;obtain⟨r,e⟩:=p;dsimp only at hok ⊢;by_cases he:e=0
  ·subst he;have Z:=hok rfl;have aa:=aWw u (by decide) (Z.cg (n:=n+1) (by omega) N I) (fun h=>hz (Z.ty _ h));rw[ξ rfl];refine a8 (sg rfl (aA rfl (fun hb=>absurd hb (by decide)) (fun _=>aD (sk 2 rfl (kc aa ?_)))));exact kz 2 rfl (aE (fM trw))
  ·rw[φ he];exact a8 (sg rfl (aA rfl (fun _=>sg rfl (aE (fM trw))) (fun hb=>absurd hb (by simp[he]))))
def whV (w:Core×Nat×Int):V:=.tup [.pa (aB w.1),I .i64 w.2.1,I .i64 w.2.2]
theorem a4a (O:dJ 540000000000) (Y:U.length≤480000) (hz:¬([]:Str)∈U) {m:Mod}(Z:BI U m.binds) (F:Nat) (hn:n+F≤99) {c:Core}(hc:ST n U c):
  aU Tryz.prog 43 [.pa (jU m),.pa (aB c),I .i64 F] [] (whV (kC m.binds F 0 c)) []:=by
 refine bQ (n:=43) tok Tryz.func43 rfl rfl rfl ?_;refine sg rfl (sg rfl (aC (aK (fun p:Nat×Core=>mk [(2,I .i64 F),(3,.one (.vp 3 0)),(4,.one (.vp 4 0)),(6,.one (.vp 6 0)),(9,I .i64 p.1)] [(3,.var 27 ((jU m).map .c)),(4,.var 37 (aW p.2)),(6,.var 37 bO)]) (fun p=>p.1≤F∧ST (n+p.1) U p.2∧kC m.binds F 0 c=kC m.binds (F-p.1) p.1 p.2) (fun p=>F-p.1) (0,c) ⟨Ag _,hc,rfl⟩ sl ?_)));rintro⟨j,x⟩ ⟨hj,hx,hw⟩;dsimp only at hj hx hw ⊢;have hcs:=c8 x;have aa:=hx.sz;have ab:=aAd 403 x hx.q (by omega);refine a8 (aC (a8 (sk 1 rfl (kc ab ?_))));refine az ?_;cases hs:shC x with
 | true=>
  have e:kC m.binds F 0 c=(x,j,0):=by
   rw[hw];cases F-j with
   | zero=>rw[kC,ξ hs]
   | succ k=>rw[kC,ξ hs]
  have ac:=aWw O (by decide) (hx.cg (by omega) Y) (fun h=>hz (hx.ty _ h));rw[e];refine aA rfl (fun _=>sk 2 rfl (kc ac ?_)) nofun;exact kz 4 rfl (aE (a4o trw))
 | false=>
  have N:¬shC x=true:=by rw[hs];exact Av
  refine aA rfl nofun (fun _=>aD (a8 (sg rfl (aA rfl (fun hb=>?_) (fun hb=>?_)))))
  ·have u:j=F:=by have:=ψ hb;omega
   have e:kC m.binds F 0 c=(zC,0,3):=by rw[hw,u,sub_self,kC,φ (by rw[←u] at *;exact N)]
   rw[e];exact sg rfl (aE (a4o trw))
  have u:j<F:=by have:=χ hb;omega
  obtain⟨k,hk⟩:∃k,F-j=k+1:=⟨F-j-1,by omega⟩
  have ad:=aWx O (n:=n+j) (by omega) Y Z (m30 x) x (le_refl _) hx;have hok:=pH O (n:=n+j) (by omega) Y Z (m30 x) x (le_refl _) hx;rw[hk,kC,φ N] at hw;generalize cD m.binds (m30 x) x=p at *;obtain⟨r,e⟩:=p;dsimp only at hok hw ⊢;refine aD (sk 3 rfl (kc ad ?_));refine kz 6 rfl ?_;by_cases he:e=0
  ·subst he;have hr:=hok rfl;have hrb:=hr.big aa;have hcr:=c8 r;have hB2:Big=250000000000:=rfl;have hze:=aWy (aY r) r (le_refl _) (by omega);rw[ξ rfl] at hw;refine a8 (sgh [(2,.bv true),(4,.pc (I .i64 (eX r:Nat))),(6,.bv true)] rfl ?_);by_cases J:6000<eX r
   ·rw[ξ J] at hw;rw[hw];exact aA rfl (fun _=>ag [] rfl (a8 (sg rfl (aA rfl (fun _=>sg rfl (aE (a4o trw))) (fun hb=>absurd hb (by decide)))))) (fun hb=>absurd hb (by simp;omega))
   ·rw[φ J] at hw;exact aA rfl (fun hb=>absurd hb (by simp;omega)) (fun _=>aD (a8 (sg rfl (aA rfl (fun hb=>by simp at hb) (fun _=>aD (ag [] rfl (ag [] rfl ⟨(j+1,r),⟨u,hr.st (by omega),by rw[hw];congr 1;omega⟩,by dsimp only;omega,sl⟩)))))))
  ·rw[φ he] at hw;rw[hw];have hd:decide (e=0)=false:=Ae he;exact a8 (sgh [(2,.bv false),(6,.bv false)] rfl (aA rfl nofun (fun _=>aD (a8 (sg rfl (aA rfl (fun _=>sg rfl (aE (a4o trw))) (fun hb=>absurd hb (by simp[he]))))))))
end
theorem aU9 {n B:Int}(h1: -(10*B)<n) (h2:n<10*B): -B<n.tdiv 10∧n.tdiv 10<B:=by
 rcases Int.le_total 0 n with h | h
 ·rw[Int.tdiv_eq_ediv_of_nonneg h];omega
 ·obtain⟨m,rfl⟩:∃m,n= -m:=⟨-n,by omega⟩
  rw[Int.neg_tdiv,Int.tdiv_eq_ediv_of_nonneg (by omega)];omega
theorem a01 (n:Int): -10<n.tmod 10∧n.tmod 10<10:=by
 rcases Int.le_total 0 n with h | h
 ·rw[Int.tmod_eq_emod_of_nonneg h];omega
 ·obtain⟨m,rfl⟩:∃m,n= -m:=⟨-n,by omega⟩
  rw[Int.neg_tmod,Int.tmod_eq_emod_of_nonneg (by omega)];omega
theorem aTq {n:Int}(h:i64 n):i64 (n.tdiv 10):=by
 have:=aU9 (n:=n) (B:=922337203685477581) (by unfold i64 at h;omega) (by unfold i64 at h;omega);unfold i64;omega
theorem a3h (k:Nat) (J:∀n:Int,-((10:Int)^k)<n→n<(10:Int)^k→i64 n→k≤30→1≤k→∃s:Str,s.length≤k+1∧aU Tryz.prog 45 [I .i64 n] [] (Go.AM.T s) []) (n:Int) (h1: -((10:Int)^(k+1))<n) (h2:n<(10:Int)^(k+1)) (hn:i64 n) (hk:k+1≤30):
  ∃s:Str,s.length≤k+2∧aU Tryz.prog 45 [I .i64 n] [] (Go.AM.T s) []:=by
 obtain⟨r1,r2⟩:=a01 n;have N:=aTq hn;have hM:1000000000≤maxLen:=by decide
 obtain⟨r',u,hr0⟩:∃r':Int,(r'=if n.tmod 10<0 then 0-n.tmod 10 else n.tmod 10)∧0≤r'∧r'<10:=⟨_,rfl,by split<;>omega⟩
 obtain⟨d,hd⟩:∃d:UInt8,d=UInt8.ofNat (IntKind.u8.wrap (48+r')).toNat:=⟨_,rfl⟩
 by_cases O: -10<n∧n<10
 ·refine⟨if n<0 then [45,d] else [d],by split<;>simp,?_⟩;refine bQ (n:=32) tok Tryz.func45 rfl rfl rfl ?_;refine sg rfl (sk 1 rfl (kw (op:=.rem) (a:=n) (b:=10) (n.tmod 10) rfl ?_));refine kz 1 rfl (a8 (sg rfl (AWp.cut (mk [(0,I .i64 n),(3,I .i64 r')] []) ?_ ?_)))
  ·refine aA rfl (fun hb=>?_) (fun hb=>?_)
   ·have hb:n.tmod 10<0:=ψ hb;rw[ξ hb] at u;subst u;exact ag [] rfl sl
   ·have hb:¬n.tmod 10<0:=χ hb;rw[φ hb] at u;subst u;exact aD sl
  refine sg rfl (AWp.sub (st2:=mk [(0,I .i64 n),(4,Go.AM.T [d])] []) (sl (he:=⟨rfl,by rw[hd];rfl,trivial⟩)) ?_);refine a8 (a8 (agF 3 [] rfl rfl rfl (aA rfl (fun _=>a8 (sg rfl ?_)) (fun hb=>by simp at hb;omega))));by_cases h0:n<0
  ·rw[ξ h0];exact aA rfl (fun _=>sg rfl (aE rtT)) (fun hb=>absurd h0 (χ hb))
  ·rw[φ h0];exact aA rfl (fun hb=>absurd (ψ hb) h0) (fun _=>aD (sg rfl (aE rtT)))
 ·have Y:1≤k:=by
   cases k with
   | zero=>simp at h1 h2;omega
   | succ k=>omega
  have Z:(10:Int)^(k+1)=10*(10:Int)^k:=by rw[Int.pow_succ,Int.mul_comm]
  rw[Z] at h1 h2;obtain⟨q1,q2⟩:=aU9 h1 h2;obtain⟨s,hs,hc⟩:=J (n.tdiv 10) q1 q2 N (by omega) Y;refine⟨s++[d],by rw[κ];simp;omega,?_⟩;refine bQ (n:=32) tok Tryz.func45 rfl rfl rfl ?_;refine sg rfl (sk 1 rfl (kw (op:=.rem) (a:=n) (b:=10) (n.tmod 10) rfl ?_));refine kz 1 rfl (a8 (sg rfl (AWp.cut (mk [(0,I .i64 n),(3,I .i64 r')] []) ?_ ?_)))
  ·refine aA rfl (fun hb=>?_) (fun hb=>?_)
   ·have hb:n.tmod 10<0:=ψ hb;rw[ξ hb] at u;subst u;exact ag [] rfl sl
   ·have hb:¬n.tmod 10<0:=χ hb;rw[φ hb] at u;subst u;exact aD sl
  refine sg rfl (AWp.sub (st2:=mk [(0,I .i64 n),(4,Go.AM.T [d])] []) (sl (he:=⟨rfl,by rw[hd];rfl,trivial⟩)) ?_);refine a8 (a8 (agF 3 [] rfl rfl rfl (aA rfl (fun hb=>by simp at hb;exact absurd ⟨hb.1,hb.2⟩ O) (fun _=>aD (sk 1 rfl (kw (op:=.quo) (a:=n) (b:=10) (n.tdiv 10) (by show(if(10:Int)=0 then none else some (IntKind.i64.wrap (n.tdiv 10)))=some (n.tdiv 10);rw[φ (by decide),Ci _ N]) ?_))))));refine kc hc ?_;exact kz 3 rfl (aE (rtT (hc:=.refl)))
theorem a3i:∀(k:Nat) (n:Int),-((10:Int)^k)<n→n<(10:Int)^k→i64 n→k≤30→1≤k→∃s:Str,s.length≤k+1∧aU Tryz.prog 45 [I .i64 n] [] (Go.AM.T s) []
 | 0,n,_,_,_,_,h=>absurd h (by decide)
 | k+1,n,h1,h2,h3,h4,_=>a3h k (fun n=>a3i k n) n h1 h2 h3 h4
theorem q9 (n:Int) (h:i64 n):∃s:Str,s.length≤21∧aU Tryz.prog 45 [I .i64 n] [] (Go.AM.T s) []:=by
 have J:(10:Int)^20=100000000000000000000:=rfl;have u:=h;unfold i64 at u;exact a3i 20 n (by omega) (by omega) h (by omega) (by omega)
inductive KC:Core→Prop
 | mk {f n:Int} {s:Str} {ks:List Core} (h1:¬f=1) (h5:¬f=5) (h7:¬f=7) (hf:i64 f) (hn:i64 n) (hk:∀x∈ks,KC x):KC (.mk f n s zTy ks [] [])
theorem aPz {ks:List Core}:∀i,bM (ks.take i)≤bM ks:=by
 induction ks with
 | nil=>intro i;simp
 | cons c l u=>
  intro i;cases i with
  | zero=>rw[Bj,bM];omega
  | succ i=>rw[An,bM,bM];have:=u i;omega
theorem aCk {S:Core→Str}{K:Nat}:∀{l:List Core},(∀x∈l,(S x).length≤K*aY x)→(l.flatMap S).length≤K*bM l
 | [],_=>by simp
 | c::l,h=>by
  rw[Ca,κ,bM,Cg];have:=h c ζ;have:=aCk (l:=l) fun x hx=>h x (ω _ hx)
  omega
theorem a7a:∀(k:Nat) (c:Core),aY c≤k→KC c→aY c≤1000000→∃s:Str,s.length≤100*aY c∧aU Tryz.prog 39 [.pa (aB c),aV [],aV []] [] (Go.AM.T s) []:=by
 intro k
 induction k with
 | zero=>intro c h;have:=dX c;omega
 | succ k ih=>
 intro c h hc hsz;obtain⟨h1,h5,h7,hf,hn,O⟩:=hc;rename_i f n nm ks;have hM:1000000000≤maxLen:=by decide
 have hcs:aY (.mk f n nm zTy ks [] [])=1+nm.length+bM ks:=by rw[aY,cB,bZ];rfl
 obtain⟨S1,l1,c1⟩:=q9 f hf;obtain⟨S2,l2,c2⟩:=q9 n hn;have J:∀x:Core,∃s:Str,x∈ks→s.length≤100*aY x∧aU Tryz.prog 39 [.pa (aB x),aV [],aV []] [] (Go.AM.T s) []:=fun x=>by
  by_cases hx:x∈ks
  ·have:=o5 hx;obtain⟨s,g1,g2⟩:=ih x (by omega) (O x hx) (by omega);exact⟨s,fun _=>⟨g1,g2⟩⟩
  ·exact⟨[],fun h=>absurd h hx⟩
 obtain⟨S,hS⟩:=Classical.axiomOfChoice J;have u:∀i,((ks.take i).flatMap S).length≤100*bM ks:=fun i=>by
  have:=aCk (S:=S) (K:=100) (l:=ks.take i) fun x hx=>(hS x (Bb hx)).1
  have:=aPz (ks:=ks) i;omega
 have N:(aO ks).length=ks.length:=by rw[aR,θ]
 have hkc:ks.length≤bM ks:=by
  clear J hS u N hcs hsz O h ih
  induction ks with
  | nil=>simp
  | cons c l ih=>rw[bM,Ac];have:=dX c;omega
 refine⟨([40]++S1++[32]++S2++[32])++nm++(ks.take ks.length).flatMap S++[41],?_,?_⟩
 ·have:=u ks.length;simp only[κ,Ac,length_nil];omega
 have hl0:([40]++S1++[32]++S2++[32]:Str).length≤50:=by simp only[κ,Ac,length_nil];omega
 refine bQ (n:=200) tok Tryz.func39 rfl rfl rfl ?_;refine sg rfl (sk 2 rfl (kc c1 ?_));refine ak 4 [] rfl ?_ (hc:=by repeat (first | exact trivial | refine⟨by first | rfl | (simp;omega),?_⟩));refine kc c2 ?_;refine ak 3 [] rfl ?_ (hc:=by repeat (first | exact trivial | refine⟨by first | rfl | (simp;omega),?_⟩));refine az ?_;generalize hpre:([40]++S1++[32]++S2++[32]:Str)=pre at *;have hd5:(!decide (f=5))=true:=by simp[h5]
 refine a8 (sg rfl (aA rfl (fun hb=>absurd (ψ hb) h1) (fun _=>aD (a8 (sgh [(3,.bv true),(7,.bv true)] rfl (aA rfl (fun _=>ag [] rfl (a8 (sg rfl (aA rfl (fun hb=>absurd hb (by simp[Core.ty,zTy,Ty.form])) (fun _=>aD (sg rfl (AWp.sub (Sub.own (t:=8) (id:=720) 9 1 rfl rfl) ?_)))))) (hc:=⟨by show pre.length+nm.length≤maxLen;omega,trivial⟩)) (fun hb=>absurd hb (by simp[Core.form,h7]))))))));refine sgh [(2,.all)] rfl (sg rfl (AWp.sub (Sub.own (t:=9) (id:=721) 9 1 rfl rfl) ?_));refine sgh [(2,.all)] rfl (a8 (sg rfl (aA rfl (fun hb=>absurd (ψ hb) h5) (fun _=>aD (a8 (sg rfl (aA rfl (fun hb=>absurd (ψ hb) h7) (fun _=>aD (AWp.sub (Sub.freeze (id:=720) rfl) (AWp.sub (Sub.freeze (id:=721) rfl) (AWp.sub (cv 8 []) (AWp.sub (cv 9 []) ?_))))))))))));refine a8 (sg rfl (aC (aK (fun _:Unit=>mk [(3,.one (.vp 3 0)),(7,Go.AM.T (pre++nm)),(8,aV []),(9,aV []),(10,I .i64 0)] [(3,.var 37 (aW (.mk f n nm zTy ks [] [])))]) (fun _=>True) (fun _=>0) () trivial sl ?_)));intro _ _;refine a8 (sg rfl (aA rfl (fun hb=>by simp[oY,aQ,j7,bV] at hb) (fun _=>aL (a8 (sg rfl (aC (aK (fun i:Nat=>mk [(3,.one (.vp 3 0)),(7,Go.AM.T (pre++nm++(ks.take i).flatMap S)),(8,aV []),(9,aV []),(11,I .i64 i)] [(3,.var 37 (aW (.mk f n nm zTy ks [] [])))]) (fun i=>i≤ks.length) (fun i=>ks.length-i) 0 (Ag _) (sl (he:=⟨rfl,by rw[Bj,Ck,Ax];rfl,rfl,rfl,rfl,trivial⟩)) ?_)))))));intro i hi;refine a8 (sg rfl (aA rfl (fun hb=>?_) (fun hb=>?_)))
 ·have Y:i<ks.length:=ltD hb N;obtain⟨x,hx⟩:=aJ Y;have Z:=η hx;have hx':(aO ks)[i]?=some (aB x):=by rw[aR];exact bW aB hx
  obtain⟨g1,g2⟩:=hS x Z;have hst:(ks.take (i+1)).flatMap S=(ks.take i).flatMap S++S x:=by rw[Bh,hx,Cj];simp
  have h3:=u i;have h4:=o5 Z;refine aD (a8 (aC (aI mixed (ak 8 [(4,.row i (aB x))] rfl (kc g2 ?_)))));refine kz 2 rfl (ag [] rfl ⟨i+1,Y,by dsimp only;omega,sl (he:=⟨rfl,by rw[hst,←Ay];rfl,rfl,rfl,rfl,trivial⟩)⟩) (hc:=⟨by simp only[κ];omega,trivial⟩)
 have hge:=geD hb N hi;subst hge;have h3:=u ks.length;refine aL (a8 (sg rfl (aC (aK (fun _:Unit=>mk [(3,.one (.vp 3 0)),(7,Go.AM.T (pre++nm++(ks.take ks.length).flatMap S)),(12,I .i64 0)] [(3,.var 37 (aW (.mk f n nm zTy ks [] [])))]) (fun _=>True) (fun _=>0) () trivial sl ?_))));intro _ _;refine a8 (sg rfl (aA rfl (fun hb=>by simp[oY,aQ,j7,bV] at hb) (fun _=>aL (a8 (sg rfl (aC (aK (fun _:Unit=>mk [(3,.one (.vp 3 0)),(7,Go.AM.T (pre++nm++(ks.take ks.length).flatMap S)),(13,I .i64 0)] [(3,.var 37 (aW (.mk f n nm zTy ks [] [])))]) (fun _=>True) (fun _=>0) () trivial sl ?_)))))));intro _ _;exact a8 (sg rfl (aA rfl (fun hb=>by simp[oY,aQ,j7,bV] at hb) (fun _=>aL (sg rfl (aE (rtT (hc:=.refl))) (hc:=⟨by simp only[κ,Ac,length_nil];omega,trivial⟩)))))
theorem aUd {c:Core}(hc:KC c) (u:aY c≤1000000):aU Tryz.prog 12 [.pa (aB c),.pa (aB c)] [] (B true) []:=by
 obtain⟨s,_,hs⟩:=a7a _ c (le_refl _) hc u;refine bQ (n:=10) tok Tryz.func12 rfl rfl rfl ?_;refine sg rfl (sk 1 rfl (kc hs ?_));refine ak 1 [] rfl (kc hs ?_);refine kz 2 rfl ?_;have e:decide (s=s)=true:=Ad rfl;exact aE (rtT (hv:=by show some (B (decide (s=s)))=some (B true);rw[e]))
def a6p (s:Str) (t:Ty) (c:Core):Core:=.mk 5 0 s t [c] [] []
def aT9 (f a:Core):Core:=.mk 4 0 [] zTy [f,a] [] []
def xVC:Core:=.mk 1 0 [120] zTy [] [] []
theorem aZs (s:Str) (t:Ty) (c:Core) (h1:aU Tryz.prog 48 [tyV t] [] (tyV t) []) (h2:aU Tryz.prog 47 [.pa (aB c)] [] (.pa (aB c)) []):aU Tryz.prog 20 [Go.AM.T s,tyV t,.pa (aB c)] [] (.pa (aB (a6p s t c))) []:=by
 refine bQ (n:=14) tok Tryz.func20 rfl rfl rfl ?_;exact sg rfl (sgh [(2,.pc (tyV t)),(4,.pc (.pa (aB c))),(5,.all)] rfl (aE (rtC trw)))
theorem aZu (c a:Core) (h2:aU Tryz.prog 47 [.pa (aB c)] [] (.pa (aB c)) []) (h1:aU Tryz.prog 47 [.pa (aB a)] [] (.pa (aB a)) []):aU Tryz.prog 19 [.pa (aB c),.one (.c (.sl 10 [aB a]))] [] (.pa (aB (aT9 c a))) []:=by
 refine bQ (n:=23) tok Tryz.func19 rfl rfl rfl ?_;refine sg rfl (sgh [(1,.pc (.pa (aB c)))] rfl (a8 (sg rfl (aC (aK (fun i:Nat=>mk [(4,.one (.vp 4 0)),(5,.one (.vp 5 0)),(10,.one (.c (.sl 10 [aB a]))),(11,I .i64 1),(12,I .i64 i)] [(4,.var 37 bO),(5,.var 37 (aW (if i=0 then c else aT9 c a)))]) (fun i=>i≤1) (fun i=>1-i) 0 (Ag _) sl ?_)))));intro i hi;refine sg rfl (a8 (aA rfl (fun hb=>?_) (fun hb=>?_)))
 ·have u:i=0:=by
   have:(i:Int)<1:=ψ hb;omega
  subst u;rw[ξ rfl];exact aD (a8 (aC (sgh [(0,.row 0 (aB a))] rfl (ag [(2,.pc (.pa (aB a))),(3,.all)] rfl (ag [] rfl ⟨1,le_refl _,by dsimp only;omega,Sub.trans sl (vp 5 (aB (aT9 c a)))⟩)))))
 have J:i=1:=by
  have:¬(i:Int)<1:=χ hb;omega
 subst J;rw[φ (by omega)];exact aL (sg rfl (aE (rtC trw)))
def yL:Core:=.mk 10 0 aTb zTy [kI 2,kI 3] [] []
def aA2 (x:Core):Core:=.mk 10 0 aAw zTy [x,x] [] []
def a0k:Core:=a6p [120] vQ (aA2 xVC)
def aOv:Core:=aT9 a0k yL
theorem aSf (k:Nat) (b:Core):dH (k+2) (aA2 xVC) [120] b=aA2 b:=by
 have hx:dH (k+1) xVC [120] b=b:=by rw[dH];exact ξ ⟨rfl,rfl⟩
 have hp:cE (dH (k+1)) [120] b [] [xVC,xVC]=([],[b,b]):=by
  unfold cE;rw[ξ ⟨by simp[xVC,pfR],by simp⟩];simp[jB,hx]
 rw[dH,φ (by rintro⟨h,_⟩;cases h),φ (by rintro⟨h,_⟩;cases h),aA2,oL];have h0:gvN 10 aAw []=[]:=rfl;simp[zNm,zKs,zBs,h0,hp];rfl
def m0:Mod:=⟨[],[]⟩
theorem aV6 (n:Nat):ST n [] aOv:=by
 have u:eJ (QL 403) xVC:=aFr rfl (by decide) (by decide) (by decide);have I:∀i,eJ (QL 403) (kI i):=fun i=>aFr rfl (by decide) (by decide) (by decide)
 have J:eJ (QL 403) (aA2 xVC):=bB.2 ⟨⟨rfl,fun h=>(by cases h),rfl,by simp,by decide,fun h=>(by cases h),by simp,by simp⟩,fun x hx=>by
  have:x=xVC:=by simpa using hx
  rw[this];exact u,by simp,by simp⟩
 have N:eJ (QL 403) yL:=bB.2 ⟨⟨rfl,fun h=>(by cases h),rfl,by simp,by decide,fun h=>(by cases h),by simp,by simp⟩,fun x hx=>by
  have:x=kI 2∨x=kI 3:=by simpa using hx
  rcases this with rfl | rfl<;>exact I _,by simp,by simp⟩
 have O:eJ (QL 403) a0k:=bB.2 ⟨⟨rfl,fun h=>(by cases h),rfl,by simp,by decide,fun _=>(by unfold nh;decide),by simp,by simp⟩,fun x hx=>by
  have:x=aA2 xVC:=by simpa using hx
  rw[this];exact J,by simp,by simp⟩
 refine⟨bB.2 ⟨⟨rfl,fun h=>(by cases h),rfl,by simp,by decide,fun h=>(by cases h),by simp,by simp⟩,fun x hx=>?_,by simp,by simp⟩,fun E _=>?_,fun x hx=>?_,by decide,by decide⟩
 ·have:x=a0k∨x=yL:=by simpa using hx
  rcases this with rfl | rfl
  ·exact O
  ·exact N
 ·have e:cw fH E aOv r0=0:=by rfl
  rw[e];omega
 ·have e:tyR aOv=[]:=by rfl
  rw[e] at hx;cases hx
theorem aYn:m30 aOv=248:=by decide
theorem aIb:cD [] (m30 aOv) aOv=(aA2 yL,0):=by
 rw[aYn];show cD [] (247+1) (.mk 4 0 [] zTy [a0k,yL] [] [])=_;rw[iP,φ (by decide),ξ (by decide),ξ ⟨rfl,rfl⟩];show(dH (m30 (aA2 xVC)) (aA2 xVC) [120] yL,(0:Int))=_;rw[show m30 (aA2 xVC)=91+2 by decide,aSf]
theorem aOu:yG [] aOv=(aA2 yL,0):=by
 unfold yG;rw[aIb];rfl
theorem a2m:cD [] (m30 (aA2 yL)) (aA2 yL)=(.mk 10 0 aAw zTy [kI 6,yL] [] [],0):=by kernel_rfl
theorem a2l:cD [] (m30 (.mk 10 0 aAw zTy [kI 6,yL] [] [])) (.mk 10 0 aAw zTy [kI 6,yL] [] [])=(.mk 10 0 aAw zTy [kI 6,kI 6] [] [],0):=by kernel_rfl
theorem a2k:cD [] (m30 (.mk 10 0 aAw zTy [kI 6,kI 6] [] [])) (.mk 10 0 aAw zTy [kI 6,kI 6] [] [])=(kI 12,0):=by kernel_rfl
theorem aTn:kC [] 10 0 aOv=(kI 12,4,0):=by
 show kC [] (9+1) 0 aOv=_;rw[kC,φ (by decide),aIb,ξ rfl,φ (by decide)];show kC [] (8+1) 1 (aA2 yL)=_;rw[kC,φ (by decide),a2m,ξ rfl,φ (by decide)];show kC [] (7+1) 2 (.mk 10 0 aAw zTy [kI 6,yL] [] [])=_;rw[kC,φ (by decide),a2l,ξ rfl,φ (by decide)];show kC [] (6+1) 3 (.mk 10 0 aAw zTy [kI 6,kI 6] [] [])=_;rw[kC,φ (by decide),a2k,ξ rfl,φ (by decide)];show kC [] (5+1) 4 (kI 12)=_;rw[kC,ξ (by decide)]
theorem a2n:KC (aA2 yL):=by
 have hi:∀i,i64 i→KC (kI i):=fun i h=>.mk (by decide) (by decide) (by decide) (by unfold i64;omega) h (by simp)
 have hs:KC yL:=.mk (by decide) (by decide) (by decide) (by unfold i64;omega) (by unfold i64;omega) (fun x hx=>by
  have:x=kI 2∨x=kI 3:=by simpa using hx
  rcases this with rfl | rfl<;>exact hi _ (by unfold i64;omega))
 exact .mk (by decide) (by decide) (by decide) (by unfold i64;omega) (by unfold i64;omega) (fun x hx=>by
  have:x=yL:=by simpa using hx
  rw[this];exact hs)
theorem aQn:aU Tryz.prog 13 [] [] (B true) []:=by
 have I:dJ 540000000000:=fun k hk=>aQo k (by omega)
 have N:BI [] m0.binds:=⟨by decide,fun b hb=>by cases hb⟩
 have h1:=aZe [73,110,116];have h2:=uY [120];have h3:=aQt 2;have h4:=aQt 3;have J:aU Tryz.prog 48 [tyV vQ] [] (tyV vQ) []:=aQd I vQ rfl (by decide);have u:aU Tryz.prog 48 [tyV zTy] [] (tyV zTy) []:=aQd I zTy rfl (by decide);have O:allT TyG aOv:=by
  have v:TyG zTy∧True∧True∧True:=⟨u,trivial,trivial,trivial⟩
  exact⟨u,⟨⟨J,⟨⟨u,⟨v,v,trivial⟩,trivial,trivial⟩,trivial⟩,trivial,trivial⟩,⟨u,⟨v,v,trivial⟩,trivial,trivial⟩,trivial⟩,trivial,trivial⟩
 have h5:=aZs [120] vQ (aA2 xVC) J (uV _ _ (le_refl _) (by decide) O.2.1.1.2.1.1);have h6:=aZu a0k yL (uV _ _ (le_refl _) (by decide) O.2.1.1) (uV _ _ (le_refl _) (by decide) O.2.1.2.1);have h7:=aQw I (n:=0) (U:=[]) (by omega) (by decide) (by simp) N (m:=m0) (aV6 0);rw[show m0.binds=[] from rfl,aOu] at h7;have Z:=a4a I (n:=0) (U:=[]) (by decide) (by simp) N (m:=m0) 10 (by omega) (aV6 0);rw[show m0.binds=[] from rfl,aTn] at Z;have Y:ST 0 [] (kI 3):=(aFq (n:=0) (U:=[]) (w:=0) rfl (by decide) (by decide) (by decide)).st (by decide);have h9:=aQw I (n:=0) (U:=[]) (by omega) (by decide) (by simp) N (m:=m0) Y;rw[show yG m0.binds (kI 3)=(zC,21) from rfl] at h9;have h10:=aUd a2n (by decide);refine bQ (n:=75) tok Tryz.func13 rfl rfl rfl ?_;exact sg rfl (sgh [(0,.pc (tyV vQ))] rfl (sgh [(0,.pc (.pa (aB xVC)))] rfl (sgh [(2,.all)] rfl (sgh [(0,.pc (.pa (aB (kI 2)))),(1,.pc (.pa (aB (kI 3)))),(2,.all)] rfl (sgh [(2,.pc (.pa (aB a0k))),(4,.all),(5,.pc (.pa (aB aOv)))] rfl (sgh [(2,.pc (dM (aA2 yL,0)))] rfl (sgh [(2,.pc (whV (kI 12,4,0)))] rfl (sgh [(1,.pc (.pa (aB (kI 3)))),(2,.pc (dM (zC,21)))] rfl (sgh [(2,.bv true),(6,.all),(8,.pc (B true)),(9,.bv true),(10,.bv true),(13,.bv true),(14,.bv true),(17,.bv true),(18,.bv true),(22,.bv true),(23,.bv true),(26,.bv true)] rfl (aE rtT))))))))))
structure TM (V:List Str) (k:Nat) (t:Ty):Prop where
 wf:wfS t=true
 w:∀E ρ,(∀x,ρ x≤E)→tW fH t ρ≤k+E
 v:∀x∈tfR t,x∈V
structure MW (V:List Str) (c:Core):Prop where
 q:eJ (QL 403) c
 w:∀E ρ,(∀x,ρ x≤E)→cw fH E c ρ≤3+E
 v:∀x∈tyR c,x∈V
section
variable {V:List Str}{k:Nat}
theorem TM.mono {k':Nat}{t:Ty}(h:TM V k t) (hk:k≤k'):TM V k' t:=⟨h.wf,fun E ρ u=>by have:=h.w E ρ u;omega,h.v⟩
theorem TM.var {s:Str}(h:s∈V):TM V k (.mk 2 0 s []):=⟨rfl,fun E ρ u=>by rw[tW,ξ rfl];have:=u s;omega,fun x hx=>by
 have:tfR (.mk 2 0 s [])=[s]:=by rw[tfR,ξ rfl]
 rw[this] at hx;rw[ε.1 hx];exact h⟩
theorem TM.con {s:Str}:TM V k (.mk 3 0 s []):=⟨rfl,fun E ρ I=>by
 have:tW fH (.mk 3 0 s []) ρ=0:=by rw[tW,φ (by decide),φ (by decide),tWs];rfl
 omega,fun x hx=>by
 obtain⟨u,hu,_⟩:=wC (by decide) hx
 cases hu⟩
theorem TM.z:TM V k zTy:=⟨rfl,fun E ρ u=>by
 have:tW fH zTy ρ=0:=by unfold zTy;rw[tW,φ (by decide),φ (by decide),tWs];rfl
 omega,fun x hx=>by
 have:tfR zTy=[]:=rfl
 rw[this] at hx;cases hx⟩
theorem TM.app {a b:Ty}(ha:TM V k a) (hb:TM V k b):TM V k (.mk 4 0 [] [a,b]):=⟨by rw[wfS,aDz,aDz,aDz,ha.wf,hb.wf];rfl,fun E ρ I=>by
 have h1:=ha.w E ρ I;have h2:=hb.w E ρ I;have:tW fH (.mk 4 0 [] [a,b]) ρ=max (tW fH a ρ) (max (tW fH b ρ) 0):=by rw[tW,φ (by decide),φ (by decide),tWs,tWs,tWs];rfl
 omega,fun x hx=>by
 obtain⟨u,hu,J,_⟩:=wC (by decide) hx;have:u=a∨u=b:=by simpa using hu
 rcases this with rfl | rfl
 ·exact ha.v x J
 ·exact hb.v x J⟩
theorem TM.all {s:Str}{a:Ty}(ha:TM V k a):TM V (k+1) (.mk 5 0 s [a]):=⟨by rw[wfS,aDz,aDz,ha.wf];rfl,fun E ρ I=>by
 have h1:=ha.w E (fP ρ s 0) fun x=>by unfold fP;split;exact Ag _;exact I x
 have:tW fH (.mk 5 0 s [a]) ρ=1+max (tW fH a (fP ρ s 0)) 0:=by rw[tW,φ (by decide),ξ rfl,tWs,tWs];rfl
 omega,fun x hx=>by
 obtain⟨u,hu,hx,_⟩:=wC (by decide) hx;rw[ε.1 hu] at hx
 exact ha.v x hx⟩
theorem j8 {f n:Int}{s:Str}{t:Ty}{ks:List Core}{bs:List Bind}{al:List Alt}(J:QL 403 f s t ks.length (bs.map bhd) (al.map ahd)) (ht:TM V 3 t) (hk:∀x∈ks,MW V x) (hb:∀b∈bs,TM V 3 b.ty∧MW V b.body) (ha:∀a∈al,MW V a.body):MW V (.mk f n s t ks bs al):=by
 refine⟨bB.2 ⟨J,fun x hx=>(hk x hx).q,fun x hx=>(hb x hx).2.q,fun x hx=>(ha x hx).q⟩,fun E ρ u=>dT.2 ⟨by rw[dK];omega,ht.w E ρ u,fun x hx=>(hk x hx).w E _ fun y=>?_,fun x hx=>⟨(hb x hx).1.w E ρ u,(hb x hx).2.w E ρ u⟩,fun x hx=>(ha x hx).w E ρ u⟩,fun x hx=>?_⟩
 ·split
  ·unfold fP;split
   ·exact le_refl _
   ·exact u y
  ·exact u y
 ·rcases bU.1 hx with h | ⟨y,I,h,_⟩ | ⟨y,I,h | h⟩ | ⟨y,I,h⟩
  ·exact ht.v x h
  ·exact(hk y I).v x h
  ·exact(hb y I).1.v x h
  ·exact(hb y I).2.v x h
  ·exact(ha y I).v x h
theorem aK4 {s:Str}(h:s.length≤30):w30 s=30:=by unfold w30;omega
theorem dE {f:Int}{s:Str}{t:Ty}{nk:Nat}(hf:okF f nk 0 0=true) (h7:f=7→t=zTy∧¬s=[]) (ht:wfS t=true) (hs:s.length≤30) (h5:f=5→nh s):QL 403 f s t nk [] []:=
 ⟨hf,h7,ht,by simp,by unfold lw;rw[aK4 hs];decide,h5,by simp,by simp⟩
theorem ST.of {c:Core}(h:MW V c) (ht:tlC c≤6000) (hs:m30 c≤3500000) (n:Nat):ST n V c:=
 ⟨h.q,fun E _=>h.w E r0 fun _=>Ag _,h.v,ht,hs⟩
end
theorem y7:∀(f:Nat) (l:List Int),TM lT f (cR f l).1
 | 0,l=>by
  unfold cR;split
  ·exact .var (fW (by decide))
  ·exact .con
 | f+1,l=>by
  have h1:=y7 f (b9 l).2;have h2:=y7 f (cR f (b9 l).2).2;unfold cR;split
  ·exact .var (fW (by decide))
  split
  ·exact .con
  split
  ·exact(TM.app (TM.app .con h1) h2).mono (le_succ _)
  split
  ·exact(TM.app .con h1).mono (le_succ _)
  ·exact .all h1
theorem aS8:∀s∈nmL,nh s:=by unfold nh;decide
theorem aS9:∀s∈nmL,s.length≤30:=by decide
theorem aWt:∀s∈aQb,s.length≤30:=by decide
theorem aEw:∀s∈u6,s.length≤30:=by decide
theorem a0z:∀s∈lT,¬s=[]:=by decide
theorem a00:∀s∈lT,s.length≤30:=by decide
theorem aJ9 (n:Int) (i:Nat):nameAt n i∈nmL:=fW (by decide)
theorem oT (n:Int):∀(i:Nat),∀s∈eT n i,s∈nmL
 | 0,s,h=>by cases h
 | i+1,s,h=>by
  rw[eT] at h;unfold aZ8 at h;split at h
  ·exact oT n i s h
  ·rcases τ.1 h with h | h
   ·exact oT n i s h
   ·rw[ε.1 h];exact aJ9 _ _
theorem wZ (l:List Int):∀s∈(bG l).1,s∈nmL:=oT _ _
def MkM (g:List Int→Int→Mk):Prop:=∀l left,MW lT (g l left).1
theorem aC8 {g:List Int→Int→Mk}(h:MkM g) (ns:List Str) (u:∀s∈ns,s∈nmL) (l:List Int) (left:Int):∀i:Nat,i≤ns.length→(bT g ns l left i).1.length=i∧∀b∈(bT g ns l left i).1,b.name∈nmL∧TM lT 3 b.ty∧MW lT b.body
 | 0,_=>⟨rfl,fun b hb=>by cases hb⟩
 | i+1,hi=>by
  obtain⟨h0,h1⟩:=aC8 h ns u l left i (by omega);simp only[bT];generalize bT g ns l left i=r at h0 h1 ⊢;refine⟨by rw[κ,h0];rfl,fun b hb=>?_⟩;rcases τ.1 hb with hb | hb
  ·exact h1 b hb
  ·rw[ε.1 hb];obtain⟨s,hs⟩:=aJ (show i<ns.length by omega);refine⟨?_,(y7 2 _).mono (by omega),h _ _⟩;show ns[i]?.getD []∈nmL;rw[hs];exact u s (η hs)
theorem aJe {g:List Int→Int→Mk}(h:MkM g) (n:Int) (l:List Int) (left:Int):∀i:Nat,(cQ g n l left i).1.length=i∧∀b∈(cQ g n l left i).1,b.name.length≤30∧(b.vars.length≤3∧∀v∈b.vars,v∈nmL)∧MW lT b.body
 | 0=>⟨rfl,fun b hb=>by cases hb⟩
 | i+1=>by
  obtain⟨h0,h1⟩:=aJe h n l left i;simp only[cQ];generalize cQ g n l left i=r at h0 h1 ⊢;refine⟨by rw[κ,h0];rfl,fun b hb=>?_⟩;rcases τ.1 hb with hb | hb
  ·exact h1 b hb
  ·rw[ε.1 hb];have u:=h (bG r.2.1).2 r.2.2;split
   ·exact⟨Ag _,⟨Ag _,fun v hv=>by cases hv⟩,u⟩
   ·split
    ·exact⟨Ag _,⟨Ag _,fun v hv=>by cases hv⟩,u⟩
    ·exact⟨aWt _ (fW (by decide)),⟨jA _,wZ _⟩,u⟩
theorem aP7 {g:List Int→Int→Mk}(h:MkM g) (n k:Int) (l:List Int) (left:Int):MW lT (eL g n k l left).1:=by
 have h1:=h l left;have h2:=h (g l left).2.1 (g l left).2.2;have h3:=h (cR 2 l).2 left;have ht:TM lT 3 (cR 2 l).1:=(y7 2 l).mono (by omega);have two:∀{x y:Core},MW lT x→MW lT y→∀z∈[x,y],MW lT z:=fun hx Y z I=>by
  rcases Ap.1 I with rfl | I
  ·exact hx
  ·rw[ε.1 I];exact Y
 have one:∀{x:Core},MW lT x→∀z∈[x],MW lT z:=fun hx z I=>by rw[ε.1 I];exact hx
 have J:oneOf nmL (n/14)∈nmL:=fW (by decide);have O:oneOf lT (n/14)∈lT:=fW (by decide);unfold eL;split
 ·exact j8 (dE rfl (fun h=>by cases h) rfl (aS9 _ J) (fun h=>by cases h)) .z (by simp) (by simp) (by simp)
 split
 ·exact j8 (dE rfl (fun h=>by cases h) rfl (aWt _ (fW (by decide))) (fun h=>by cases h)) .z (by simp) (by simp) (by simp)
 split
 ·exact j8 (dE rfl (fun h=>by cases h) rfl (by decide) (fun h=>by cases h)) .z (by simp) (by simp) (by simp)
 split
 ·exact j8 (dE rfl (fun h=>by cases h) rfl (by decide) (fun h=>by cases h)) .z (two h1 h2) (by simp) (by simp)
 split
 ·exact j8 (dE rfl (fun h=>by cases h) ht.wf (aS9 _ J) (fun _=>aS8 _ J)) ht (one h3) (by simp) (by simp)
 split
 ·exact j8 (dE rfl (fun h=>by cases h) ht.wf (by decide) (fun h=>by cases h)) ht (one h3) (by simp) (by simp)
 split
 ·exact j8 (dE rfl (fun _=>⟨rfl,a0z _ O⟩) rfl (a00 _ O) (fun h=>by cases h)) .z (one h1) (by simp) (by simp)
 split
 ·obtain⟨N,u⟩:=aC8 h (bG l).1 (wZ l) (bG l).2 left (bG l).1.length (le_refl _);have h3':=jA l;generalize bT g (bG l).1 (bG l).2 left (bG l).1.length=r at N u ⊢;refine j8 ⟨rfl,fun h=>(by cases h),rfl,fun p hp=>?_,?_,fun h=>(by cases h),fun p hp=>?_,by simp⟩ .z (one (h _ _)) (fun b hb=>(u b hb).2) (by simp)
  ·obtain⟨b,hb,rfl⟩:=Af.1 hp;exact(u b hb).2.1.wf
  ·unfold lw;have h4:=mE (g:=fun p:Str×Ty=>1+w30 p.1) (K:=31) (l:=r.1.map bhd) fun p hp=>by
    obtain⟨b,hb,rfl⟩:=Af.1 hp;have:=aK4 (aS9 _ (u b hb).1);show 1+w30 b.name≤31;omega
   rw[θ,N] at h4;have h5:w30 []=30:=rfl;simp only[Bo,sum_nil];omega
  ·obtain⟨b,hb,rfl⟩:=Af.1 hp;exact aS8 _ (u b hb).1
 split
 ·dsimp only;have Z:(n/14%4).toNat≤3:=by omega
  obtain⟨N,u⟩:=aJe h n (g (cR 2 l).2 left).2.1 (g (cR 2 l).2 left).2.2 (n/14%4).toNat;generalize cQ g n (g (cR 2 l).2 left).2.1 (g (cR 2 l).2 left).2.2 (n/14%4).toNat=r at N u ⊢;refine j8 ⟨rfl,fun h=>(by cases h),ht.wf,by simp,?_,fun h=>(by cases h),by simp,fun p hp v hv=>?_⟩ ht (one h3) (by simp) (fun b hb=>(u b hb).2.2)
  ·unfold lw;have h4:=mE (g:=fun p:Str×List Str=>1+w30 p.1+(p.2.map fun v=>1+w30 v).sum) (K:=124) (l:=r.1.map ahd) fun p hp=>by
    obtain⟨b,hb,rfl⟩:=Af.1 hp;obtain⟨g1,⟨g2,g3⟩,_⟩:=u b hb;have e1:=aK4 g1;have e2:=mE (g:=fun v:Str=>1+w30 v) (K:=31) (l:=b.vars) fun v hv=>by
     have:=aK4 (aS9 _ (g3 v hv));omega
    show 1+w30 b.name+(b.vars.map fun v=>1+w30 v).sum≤124;omega
   rw[θ,N] at h4;have h5:w30 []=30:=rfl;simp only[Bo,sum_nil];omega
  ·obtain⟨b,hb,rfl⟩:=Af.1 hp;exact aS8 _ ((u b hb).2.1.2 v hv)
 split
 ·exact j8 (dE rfl (fun h=>by cases h) rfl (aEw _ (fW (by decide))) (fun h=>by cases h)) .z (two h1 h2) (by simp) (by simp)
 ·exact j8 (dE rfl (fun h=>by cases h) ht.wf (by decide) (fun h=>by cases h)) ht (by simp) (by simp) (by simp)
theorem aP3:∀f:Nat,MkM (oZ f)
 | 0=>fun l left=>aP7 (g:=fun l left=>((.mk 0 0 [] zTy [] [] [],l,left):Mk)) (fun _ _=>j8 (dE rfl (fun h=>by cases h) rfl (by decide) (fun h=>by cases h)) .z (by simp) (by simp) (by simp)) _ _ _ _
 | f+1=>fun l left=>aP7 (aP3 f) _ _ _ _
def nm6:List Str:=nmL++[[112]]
def mO (l:List Int) (left:Int):List (Nat×AObj):=[(700,.var 71 [.c (.sl 1 (l.map aKm)),.c (.int .i64 left)])]
def vU (l:List Int) (k:Int):Int×List Int:=match l with
 | []=>(0,[])
 | x::l=>(oM x k,l)
structure Ok (l:List Int):Prop where
 nums:aDx l
 fits:Fits l
theorem aHn (l:List Int) {k:Int}(hk:0<k):0≤(vU l k).1∧(vU l k).1<k:=by
 cases l with
 | nil=>exact⟨Int.le_refl _,hk⟩
 | cons x l=>exact fD x hk
theorem sM {l:List Int}(h:Ok l) (k:Int):Ok (vU l k).2:=by
 cases l with
 | nil=>exact h
 | cons x l=>exact⟨h.nums.suf ⟨[x],rfl⟩,h.fits.suf ⟨[x],rfl⟩⟩
theorem aQl (l:List Int) (left k:Int) (hk:1≤k) (h:Ok l):aU Tryz.prog 25 [.one (.vp 700 0),I .i64 k] (mO l left) (I .i64 (vU l k).1) (mO (vU l k).2 left):=by
 obtain⟨hl,hf⟩:=h;unfold Fits at hf;refine bQ (n:=29) tok Tryz.func25 rfl rfl rfl ?_;refine sg rfl (a8 (sg rfl ?_));cases l with
 | nil=>
  exact aA rfl (fun hb=>sg rfl (aE rtT)) (fun hb=>by simp at hb)
 | cons x l=>
  refine aA rfl (fun hb=>by simp at hb;omega) (fun hb=>aD (sk 7 rfl (kc (o7 x k (hl x (by simp)) hk) ?_)));exact kz 1 rfl (sg rfl (sg rfl (aE rtT)))
theorem kA (l:List Int) (left k:Int) (hk:1≤k) (h:Ok l):∃(i:Nat) (l':List Int),(i:Int)<k∧Ok l'∧aU Tryz.prog 25 [.one (.vp 700 0),I .i64 k] (mO l left) (I .i64 i) (mO l' left):=by
 obtain⟨i,hi⟩:=Int.eq_ofNat_of_zero_le (aHn l (k:=k) (by omega)).1;have h1:=(aHn l (k:=k) (by omega)).2
 have h2:=aQl l left k hk h;rw[hi] at h1 h2;exact⟨i,_,h1,sM h k,h2⟩
def tvN:List Str:=[[97],[97,39],[98,39],[99,39]]
theorem a6k:∀s∈tvN,s.length≤8:=by decide
inductive GT:Nat→Ty→Prop
 | var (s:Str) (h:s∈tvN):GT 1 (.mk 2 0 s [])
 | con (s:Str) (h:s.length≤8):GT 1 (.mk 3 0 s [])
 | app {m n:Nat} {a b:Ty} (ha:GT m a) (hb:GT n b):GT (m+n+1) (.mk 4 0 [] [a,b])
theorem GT.fn {m n:Nat}{a b:Ty}(ha:GT m a) (hb:GT n b):GT (m+n+3) (iZ a b):=by
 have h:=GT.app (GT.app (GT.con arrow (by decide)) ha) hb;rw[show m+n+3=1+m+1+n+1 by omega];exact h
theorem iM (s:Str):aU Tryz.prog 44 [Go.AM.T s] [] (tyV (.mk 3 0 s [])) []:=by
 refine bQ (n:=5) tok Tryz.func44 rfl rfl rfl ?_;exact sg rfl (sg rfl (aE ⟨.inr rfl,⟨_,_,.cell rfl (tg rfl) rfl rfl rfl .nil,.cons (.pa (.c .refl (.c .refl (.c .refl (.c .nl .nil))))) .nil,rfl⟩,trivial,rfl⟩))
def uS (x:Str×Ty):List C:=.str x.1::bD x.2
structure Gv where
 l:List (Str×Ty)
 vars:List Str
 deep:Int
def zX (v:Gv):List C:=[.sl 5 (v.l.map uS),.sl 1 (v.vars.map b6),.int .i64 v.deep]
def eE (v:Gv) (s:Str) (t:Ty):Gv:=⟨v.l++[(s,t)],v.vars,v.deep+1⟩
theorem aAe (v:Gv) (s:Str) (t:Ty) (hl:v.l.length≤1000000) (hd:0≤v.deep∧v.deep≤1000000):aU Tryz.prog 60 [.pa (zX v),Go.AM.T s,tyV t] [] (.pa (zX (eE v s t))) []:=by
 obtain⟨f,n,x,a⟩:=t;obtain⟨L,vs,d⟩:=v;dsimp only at hl hd;refine bQ (n:=24) tok Tryz.func60 rfl rfl rfl ?_;refine sg rfl (sg rfl (sgh [(3,.all)] rfl (sg rfl (sg rfl (sg rfl (AWp.sub (Sub.freeze (id:=11) rfl) ?_))))))
 rw[show zX (eE ⟨L,vs,d⟩ s (.mk f n x a))=[.sl 5 (L.map uS++[uS (s,.mk f n x a)]),.sl 1 (vs.map b6),.int .i64 (d+1)] by
  unfold zX eE
  rw[At];rfl]
 exact aE (rtC trw)
theorem iC (a b:Core):aU Tryz.prog 61 [.pa (aB a),.pa (aB b)] [] (.pa (aB (.mk 4 0 [] zTy [a,b] [] []))) []:=by
 obtain⟨f,n,s,⟨tf,tn,ts,ta⟩,ks,bs,al⟩:=a;obtain⟨f',n',s',⟨u,I,J,N⟩,O,Y,Z⟩:=b;refine bQ (n:=9) tok Tryz.func61 rfl rfl rfl ?_;refine sg rfl (sg rfl (AWp.sub (Sub.freeze (id:=7) rfl) ?_));exact aE (rtC trw)
def j0 (s:Str) (l:List Ty):Core:=l.foldl (fun c t=>.mk 6 0 [] t [c] [] []) (.mk 2 0 s zTy [] [] [])
theorem qH (s:Str) (l:List Ty) (hl:l.length≤1000000):aU Tryz.prog 65 [Go.AM.T s,.one (.c (.sl 4 (l.map bD)))] [] (.pa (aB (j0 s l))) []:=by
 refine bQ (n:=23) tok Tryz.func65 rfl rfl rfl ?_;refine sg rfl (sg rfl (a8 (sg rfl ?_)));have u:(l.map bD).length=l.length:=θ _;refine AWp.sub (vp 4 (aB a0r)) ?_;refine AWp.sub (vp 5 (aB (j0 s []))) ?_;refine aC (aK (fun i:Nat=>mk [(0,Go.AM.T s),(1,.one (.c (.sl 4 (l.map bD)))),(4,.one (.vp 4 0)),(5,.one (.vp 5 0)),(6,I .i64 i)] [(4,.var 37 (aW a0r)),(5,.var 37 (aW (j0 s (l.take i))))]) (fun i=>i≤l.length) (fun i=>l.length-i) 0 (Ag _) sl ?_);intro i hi;refine a8 (sg rfl (aA rfl (fun hb=>?_) (fun hb=>?_)))
 ·have J:=ltD hb u;obtain⟨t,ht⟩:=aJ J;have ht':=bW bD ht;refine aD ?_;obtain⟨tf,tn,ts,O⟩:=t;refine a8 (aC (ag [(2,.row i (bD (.mk tf tn ts O)))] rfl ?_));have N:j0 s (l.take (i+1))=.mk 6 0 [] (.mk tf tn ts O) [j0 s (l.take i)] [] []:=by
   unfold j0;rw[Bh,ht,B9];rfl
  generalize j0 s (l.take i)=g at N ⊢;obtain⟨gf,gn,gs,⟨Y,Z,aa,ab⟩,gk,gb,ga⟩:=g;refine AWp.sub (Sub.freeze (id:=20) rfl) ?_;refine AWp.sub (vp 5 (aB (.mk 6 0 [] (.mk tf tn ts O) [.mk gf gn gs (.mk Y Z aa ab) gk gb ga] [] []))) ?_;refine ag [] rfl ⟨i+1,J,by dsimp only;omega,?_⟩;dsimp only;rw[N];exact sl
 ·have ac:=geD hb u hi;subst ac;rw[Al];exact aL (sg rfl (aE (rtC trw)))
theorem wD {f n:Int}{s:Str}{a:List Ty}(hf:¬f=4):aU Tryz.prog 64 [tyV (.mk f n s a)] [] (.tup [tyV (.mk f n s a),.one (.hs 510 0 0 0)]) [(510,.arr 33 4 [] 2)]:=by
 refine bQ (n:=26) tok Tryz.func64 rfl rfl rfl ?_;refine sg rfl (a8 (sg rfl (aA rfl (fun _=>sg rfl (AWp.sub (Sub.own (t:=3) (id:=510) 33 4 rfl rfl) (AWp.sub (Sub.freeze (id:=510) rfl) ?_))) (fun hb=>by simp[Ty.form,hf] at hb))));exact aE ⟨.inr rfl,⟨_,_,.cell rfl (tg rfl) rfl rfl rfl (.tmp rfl .nil),.cons .refl (.cons .refl .nil),rfl⟩,⟨⟨_,rfl,.arr⟩,trivial⟩,rfl⟩
def GTs:Nat→List Ty→Prop
 | _,[]=>True
 | n,x::l=>∃k m,GT k x∧GTs m l∧k+m+1≤n
theorem GTs.snoc {k:Nat}{b:Ty}(hb:GT k b):∀{l:List Ty}{n:Nat},GTs n l→GTs (n+k+1) (l++[b])
 | [],n,_=>⟨k,0,hb,trivial,by omega⟩
 | x::l,n,h=>by
  obtain⟨j,m,h1,h2,h3⟩:=h;exact⟨j,m+k+1,h1,GTs.snoc hb h2,by omega⟩
theorem aPs {n:Nat}{t:Ty}(h:GT n t) (hn:n≤100000):∃(hd:Ty) (l:List Ty),GTs (n-1) l∧l.length≤n∧
  aU Tryz.prog 64 [tyV t] [] (.tup [tyV hd,.one (.hs 510 0 l.length l.length)]) [(510,.arr 33 4 (l.map bD) 2)]:=by
 induction h with
 | var s hs=>exact⟨.mk 2 0 s [],[],trivial,by simp,wD (by decide)⟩
 | con s hs=>exact⟨.mk 3 0 s [],[],trivial,by simp,wD (by decide)⟩
 | @app m n a b ha hb u Z=>
  obtain⟨hd,l,h1,h2,h3⟩:=u (by omega);have ab:l.length≤100000:=by omega
  have ac:1≤m:=by cases ha<;>omega
  refine⟨hd,l++[b],?_,by rw[κ];simp;omega,?_⟩
  ·have:=GTs.snoc hb h1;rw[show m-1+n+1=m+n+1-1 by omega] at this;exact this
  ·obtain⟨ad,ae,ah,ai⟩:=hd;obtain⟨af,an,I,J⟩:=a;obtain⟨N,O,sb,Y⟩:=b;refine bQ (n:=26) tok Tryz.func64 rfl rfl rfl ?_;refine sg rfl (a8 (sg rfl (aA rfl (fun hb=>by simp[Ty.form] at hb) (fun _=>aD (skh 4 [(2,.row 0 (bD (.mk af an I J)))] rfl (kc h3 ?_))))));refine kz 6 rfl (sgh [(4,.row 1 (bD (.mk N O sb Y)))] rfl (AWp.sub (Sub.freeze (id:=510) rfl) ?_));exact aE ⟨.inr rfl,⟨_,_,.cell rfl (tg rfl) rfl rfl rfl (.tmp rfl .nil),.cons .refl (.cons .refl .nil),by rw[θ,κ];rfl⟩,⟨⟨_,rfl,by rw[At];exact .arr⟩,trivial⟩,rfl⟩
theorem xI {n:Nat}{t:Ty}(h:GT n t):(∃(m1 m2:Nat) (a b:Ty),GT m1 a∧GT m2 b∧n=m1+m2+3∧t=iZ a b∧aU Tryz.prog 66 [tyV t] [] (B true) [])∨aU Tryz.prog 66 [tyV t] [] (B false) []:=by
 cases h with
 | var s hs=>
  refine .inr ?_;refine bQ (n:=28) tok Tryz.func66 rfl rfl rfl ?_;exact sg rfl (a8 (sg rfl (aA rfl (fun _=>sg rfl (aE rtT)) (fun hb=>by simp[Ty.form] at hb))))
 | con s hs=>
  refine .inr ?_;refine bQ (n:=28) tok Tryz.func66 rfl rfl rfl ?_;exact sg rfl (a8 (sg rfl (aA rfl (fun _=>sg rfl (aE rtT)) (fun hb=>by simp[Ty.form] at hb))))
 | @app m k a b ha hb=>
  cases ha with
  | var s hs=>
   refine .inr ?_;refine bQ (n:=28) tok Tryz.func66 rfl rfl rfl ?_;exact sg rfl (a8 (sg rfl (aA rfl (fun hb=>by simp[Ty.form] at hb) (fun _=>aD (a8 (sgh [(2,.row 0 (bD (.mk 2 0 s [])))] rfl (aA rfl (fun _=>sg rfl (aE rtT)) (fun hb=>by simp[Ty.form] at hb))))))))
  | con s hs=>
   refine .inr ?_;refine bQ (n:=28) tok Tryz.func66 rfl rfl rfl ?_;exact sg rfl (a8 (sg rfl (aA rfl (fun hb=>by simp[Ty.form] at hb) (fun _=>aD (a8 (sgh [(2,.row 0 (bD (.mk 3 0 s [])))] rfl (aA rfl (fun _=>sg rfl (aE rtT)) (fun hb=>by simp[Ty.form] at hb))))))))
  | @app O k' f u hf ha'=>
   have run:∀r:Bool,(bif decide (f.form=3) then decide (f.name=arrow) else false)=r→aU Tryz.prog 66 [tyV (.mk 4 0 [] [.mk 4 0 [] [f,u],b])] [] (B r) []:=by
    intro r N;obtain⟨I,fn,fs,J⟩:=f;refine bQ (n:=28) tok Tryz.func66 rfl rfl rfl ?_;refine sg rfl (a8 (sg rfl (aA rfl (fun hb=>by simp[Ty.form] at hb) (fun _=>aD (a8 (sgh [(2,.row 0 (bD (.mk 4 0 [] [.mk I fn fs J,u])))] rfl (aA rfl (fun hb=>by simp[Ty.form] at hb) (fun _=>aD (sgh [(2,.row 0 (bD (.mk 4 0 [] [.mk I fn fs J,u]))),(5,.row 0 (bD (.mk I fn fs J)))] rfl (a8 (agF 4 [] rfl rfl rfl ?_)))))))))));subst N;exact aE rtT
   cases hf with
   | var s hs=>exact .inr (run false rfl)
   | con s hs=>
    by_cases h1:s=arrow
    ·subst h1;exact .inl ⟨_,_,u,b,ha',hb,by omega,rfl,run true rfl⟩
    ·exact .inr (run false (by simp[Ty.form,Ty.name,h1]))
   | app h1 h2=>exact .inr (run false rfl)
theorem xH {n:Nat}{t:Ty}(h:GT n t) (hn:n≤100000):∃s:Str,s.length≤16*n∧aU Tryz.prog 91 [tyV t,.one (.c .nl)] [] (Go.AM.T s) []:=by
 have hM:1000000000≤maxLen:=by decide
 induction h with
 | var s hs=>
  have hs:=a6k s hs;refine⟨39::s,by rw[Ac];omega,?_⟩;refine bQ (n:=91) tok Tryz.func91 rfl rfl rfl ?_;refine sg rfl (a8 (sg rfl (aC (sg rfl (aA rfl (fun hb=>by simp[Ty.form] at hb) (fun _=>sg rfl (aA rfl (fun _=>a8 (sg rfl (aC (aK (fun _:Unit=>mk [(1,.one (.c .nl)),(2,.one (.vp 2 0)),(5,I .i64 (-1))] [(2,.var 33 ((bD (.mk 2 0 s [])).map R.c))]) (fun _=>True) (fun _=>0) () trivial sl ?_)))) (fun hb=>by simp[Ty.form] at hb))))))));intro _ _;refine a8 (sg rfl (aA rfl (fun hb=>by simp at hb) (fun _=>aL (sg rfl ?_ (hc:=by repeat (first | exact trivial | refine⟨by first | rfl | omega | (simp;omega) | (unfold Ty.name;simp;omega) | (simp;done),?_⟩))))));exact aE rtT
 | con s hs=>
  refine⟨s,by omega,?_⟩;refine bQ (n:=91) tok Tryz.func91 rfl rfl rfl ?_;exact sg rfl (a8 (sg rfl (aC (sg rfl (aA rfl (fun hb=>by simp[Ty.form] at hb) (fun _=>sg rfl (aA rfl (fun hb=>by simp[Ty.form] at hb) (fun _=>sg rfl (aA rfl (fun _=>sg rfl (aE rtT)) (fun hb=>by simp[Ty.form] at hb))))))))))
 | @app m k a b ha hb u J=>
  obtain⟨s1,h1,N⟩:=u (by omega);obtain⟨s2,h2,O⟩:=J (by omega);refine⟨[40]++s1++[32]++s2++[41],by simp;omega,?_⟩;obtain⟨af,an,Y,Z⟩:=a;obtain⟨bf,bn,sb,ba⟩:=b;refine bQ (n:=91) tok Tryz.func91 rfl rfl rfl ?_;refine sg rfl (a8 (sg rfl (aC (sg rfl (aA rfl (fun hb=>by simp[Ty.form] at hb) (fun _=>sg rfl (aA rfl (fun hb=>by simp[Ty.form] at hb) (fun _=>sg rfl (aA rfl (fun hb=>by simp[Ty.form] at hb) (fun _=>sg rfl (aA rfl (fun hb=>by simp[Ty.form] at hb) (fun _=>aD (a8 (a8 (agF 4 [] rfl rfl rfl (aA rfl (fun hb=>by simp[Ty.form,fV,eV] at hb) (fun _=>aD (skh 5 [(2,.row 0 (bD (.mk af an Y Z)))] rfl (kc N ?_)))))))))))))))))));refine ak 7 [(10,.row 1 (bD (.mk bf bn sb ba)))] rfl ?_ (hc:=by repeat (first | exact trivial | refine⟨by first | rfl | omega | (simp;omega) | (unfold Ty.name;simp;omega) | (simp;done),?_⟩));refine kc O ?_;refine ak 3 [] rfl ?_ (hc:=by repeat (first | exact trivial | refine⟨by first | rfl | omega | (simp;omega) | (unfold Ty.name;simp;omega) | (simp;done),?_⟩));exact az (aE rtT)
theorem a3f {n m:Nat}{a b:Ty}(ha:GT n a) (hb:GT m b) (hn:n≤100000) (hm:m≤100000):∃r:Bool,aU Tryz.prog 101 [tyV a,tyV b] [] (B r) []:=by
 obtain⟨s1,h1,u⟩:=xH ha hn;obtain⟨s2,h2,I⟩:=xH hb hm;refine⟨decide (s1=s2),?_⟩;obtain⟨af,an,J,N⟩:=a;obtain⟨O,Y,sb,Z⟩:=b;refine bQ (n:=10) tok Tryz.func101 rfl rfl rfl ?_;refine sg rfl (sk 1 rfl (kc u ?_));refine ak 1 [] rfl (kc I ?_);exact kz 2 rfl (aE rtT)
theorem aY4 (L:List (Str×Ty)) (i:Nat) (hi:i<L.length) (hl:L.length≤1000000):∃r:Bool,aU Tryz.prog 102 [.one (.c (.sl 5 (L.map uS))),I .i64 i] [] (B r) []:=by
 obtain⟨x,hx⟩:=aJ hi;have Y:=bW uS hx;have u:(L.map uS).length=L.length:=θ _;refine⟨@decide (∀(j:Nat) (y:Str×Ty),i<j→L[j]?=some y→¬y.1=x.1) (Classical.propDecidable _),?_⟩;generalize O: @decide (∀(j:Nat) (y:Str×Ty),i<j→L[j]?=some y→¬y.1=x.1) (Classical.propDecidable _)=r;refine bQ (n:=25) tok Tryz.func102 rfl rfl rfl ?_;refine sg rfl (a8 (a8 (agN [] rfl ?_ (hc:=by repeat (first | exact trivial | refine⟨by first | rfl | omega | (simp;omega) | (unfold Ty.name;simp;omega) | (simp;done),?_⟩)))));refine aC (aK (fun k:Nat=>mk [(0,.one (.c (.sl 5 (L.map uS)))),(1,I .i64 i),(4,B false),(5,I .i64 k)] []) (fun k=>i<k∧k≤L.length∧∀(j:Nat) (y:Str×Ty),i<j→j<k→L[j]?=some y→¬y.1=x.1) (fun k=>L.length-k) (i+1) ⟨by omega,by omega,fun j y h1 h2=>by omega⟩ sl ?_);intro k ⟨h1,h2,h3⟩;refine a8 (sg rfl (aA rfl (fun hb=>?_) (fun hb=>?_)))
 ·have J:=ltD hb u;obtain⟨y,N⟩:=aJ J;have Z:=bW uS N;refine aD (a8 (aC (sgh [(2,.row k (uS y)),(7,.row i (uS x))] rfl (aA rfl (fun hb=>?_) (fun hb=>?_)))))
  ·have he:y.1=x.1:=by simpa using hb
   refine sg rfl ?_;have:r=false:=by
    rw[←O];simp only[Cw];exact fun h=>h k y h1 N he
   rw[this];exact aE rtT
  ·have he:¬y.1=x.1:=by simpa using hb
   refine aD (ag [] rfl ⟨k+1,⟨by omega,J,fun j z g1 g2 g3=>?_⟩,by dsimp only;omega,sl⟩);by_cases hj:j=k
   ·rw[hj,N,Option.some.injEq] at g3;rw[←g3];exact he
   ·exact h3 j z g1 (by omega) g3
 ·have aa:=geD hb u h2;refine aL (sg rfl ?_);have:r=true:=by
   rw[←O];simp only[decide_eq_true_eq];exact fun j y g1 g2=>h3 j y g1 (by have:=(Aa.1 g2).1;omega) g2
  rw[this];exact aE rtT
theorem aIn (l:List Int) (left:Int) (v:Gv) (h:Ok l):∃(s:Str) (l':List Int),s∈nmL∧Ok l'∧aU Tryz.prog 59 [.one (.vp 700 0),.pa (zX v)] (mO l left) (Go.AM.T s) (mO l' left):=by
 obtain⟨i,l',hi,u,hc⟩:=kA l left 5 (by decide) h;have hi:i<5:=by omega
 obtain⟨s,hs⟩:∃s,([[120],[121],[122,64,49],[97],[98]]:List Str)[i]?=some s:=aJ (by simpa using hi);have I:=bW b6 hs;refine⟨s,l',?_,u,?_⟩
 ·have:i=0∨i=1∨i=2∨i=3∨i=4:=by omega
  rcases this with rfl | rfl | rfl | rfl | rfl<;>(simp at hs;subst hs;decide)
 ·refine bQ (n:=10) tok Tryz.func59 rfl rfl rfl ?_;refine sg rfl (sk 2 rfl (kc hc ?_));exact ak 3 [(3,.row i []),(4,.row i (b6 s))] rfl (az (aE rtT))
def aXp:Ty:=.mk 3 0 [66,111,111,108] []
def a44 (l:List Str):V:=.one (.c (.sl 1 (l.map b6)))
def Sh8 (l:List Str):Prop:=∀s∈l,s∈tvN
def tsz:Nat→Nat
 | 0=>1
 | f+1=>2*tsz f+3
def a0a (vars:List Str) (dp:Int) (m:Nat):Prop:=∀(l:List Int) (left:Int),Ok l→
  ∃(t:Ty) (l':List Int) (n:Nat),GT n t∧n≤m∧Ok l'∧aU Tryz.prog 24 [.one (.vp 700 0),a44 vars,I .i64 dp] (mO l left) (tyV t) (mO l' left)
theorem GT.nm {s:Str}(h:s.length≤8):GT 1 (.mk 3 0 s []):=.con s h
theorem aF3 (vars:List Str) (hv:Sh8 vars) (hvl:vars.length≤1000000) (u:Int) (h0:0≤u) (hd3:u≤3) (m M:Nat) (h1:1≤M) (hM:u≤2→2*m+3≤M) (ih:u≤2→a0a vars (u+1) m):a0a vars u M:=by
 intro l left h;obtain⟨i,l1,hi,J,hc⟩:=kA l left 8 (by decide) h;have hi:i<8:=by omega
 have hvk:(vars.map b6).length=vars.length:=θ _;by_cases hA:5<i∧0<vars.length
 ·obtain⟨j,O,hj,I,ab⟩:=kA l1 left vars.length (by omega) J;have hj:j<vars.length:=by omega
  obtain⟨x,hx⟩:=aJ hj;have hx':=bW b6 hx;refine⟨.mk 2 0 x [],O,1,.var x (hv x (η hx)),by omega,I,?_⟩;refine bQ (n:=68) tok Tryz.func24 rfl rfl rfl ?_;refine sg rfl (sk 1 rfl (kc hc ?_));refine kz 1 rfl (a8 (a8 (agF 3 [] rfl rfl rfl ?_)));have g1:(5:Int)<i:=by omega
  have g2:(0:Int)<((vars.map b6).length:Nat):=by omega
  refine aA rfl (fun _=>sk 4 rfl ?_) (fun hb=>by rw[Ad g1,Ad g2] at hb;cases hb);rw[←hvk] at ab;refine kc ab ?_;exact ak 4 [(5,.row j (b6 x))] rfl (az (aE (rtC trw)))
 ·by_cases hB:i<3∨2<u
  ·have N:∃(k:Nat) (t:Ty),k<2∧(i:Int)%2=k∧GT 1 t∧[bD vQ,bD aXp][k]?=some (bD t):=by
    have:i%2=0∨i%2=1:=by omega
    rcases this with e | e
    ·exact⟨0,vQ,by omega,by omega,.con _ (by decide),rfl⟩
    ·exact⟨1,aXp,by omega,by omega,.con _ (by decide),rfl⟩
   obtain⟨k,t,hk,hik,ht,N⟩:=N;refine⟨t,l1,1,ht,by omega,J,?_⟩;obtain⟨tf,tn,ts,ta⟩:=t;refine bQ (n:=68) tok Tryz.func24 rfl rfl rfl ?_;refine sg rfl (sk 1 rfl (kc hc ?_));refine kz 1 rfl (a8 (a8 (agF 3 [] rfl rfl rfl (aA rfl (fun hb=>by simp at hb;omega) (fun _=>aD (a8 (a8 (agF 3 [] rfl rfl rfl (aA rfl (fun _=>a8 (aI mixed (kc (iM [73,110,116]) ?_))) (fun hb=>by simp at hb;omega))))))))));refine kc (iM [66,111,111,108]) ?_;exact ak 6 [(5,.row k []),(6,.row k (bD (.mk tf tn ts ta)))] rfl (az (aE (rtC trw)))
  ·have hM:=hM (by omega);obtain⟨⟨af,an,Y,Z⟩,O,na,ga,hna,I,ca⟩:=ih (by omega) l1 left J;by_cases hC:i=3
   ·refine⟨.mk 4 0 [] [.mk 3 0 [76] [],.mk af an Y Z],O,1+na+1,.app (.nm (by decide)) ga,by omega,I,?_⟩;refine bQ (n:=68) tok Tryz.func24 rfl rfl rfl ?_;refine sg rfl (sk 1 rfl (kc hc ?_));refine kz 1 rfl (a8 (a8 (agF 3 [] rfl rfl rfl (aA rfl (fun hb=>by simp at hb;omega) (fun _=>aD (a8 (a8 (agF 3 [] rfl rfl rfl (aA rfl (fun hb=>by simp at hb;omega) (fun _=>aD (sk 4 rfl ?_ (hc:=by repeat (first | exact trivial | refine⟨by first | rfl | omega | (simp;omega) | (unfold Ty.name;simp;omega) | (simp;done),?_⟩)))))))))))));refine kc ca ?_;refine kz 2 rfl (a8 (sg rfl (aA rfl (fun _=>a8 (aI mixed (kc (iM [76]) ?_))) (fun hb=>by simp at hb;omega))));refine kz 4 rfl (AWp.sub (Sub.freeze (id:=49) rfl) ?_);exact aE (rtC trw)
   ·obtain⟨⟨bf,bn,sb,ba⟩,l3,nb,gb,hnb,ac,cb⟩:=ih (by omega) O left I;by_cases hD:i=4
    ·refine⟨iZ (.mk af an Y Z) (.mk bf bn sb ba),l3,na+nb+3,ga.fn gb,by omega,ac,?_⟩;refine bQ (n:=68) tok Tryz.func24 rfl rfl rfl ?_;refine sg rfl (sk 1 rfl (kc hc ?_));refine kz 1 rfl (a8 (a8 (agF 3 [] rfl rfl rfl (aA rfl (fun hb=>by simp at hb;omega) (fun _=>aD (a8 (a8 (agF 3 [] rfl rfl rfl (aA rfl (fun hb=>by simp at hb;omega) (fun _=>aD (sk 4 rfl ?_ (hc:=by repeat (first | exact trivial | refine⟨by first | rfl | omega | (simp;omega) | (unfold Ty.name;simp;omega) | (simp;done),?_⟩)))))))))))));refine kc ca ?_;refine kz 2 rfl (a8 (sg rfl (aA rfl (fun hb=>by simp at hb;omega) (fun _=>aD (sk 4 rfl ?_ (hc:=by repeat (first | exact trivial | refine⟨by first | rfl | omega | (simp;omega) | (unfold Ty.name;simp;omega) | (simp;done),?_⟩)))))));refine kc cb ?_;refine kz 2 rfl (a8 (sg rfl (aA rfl (fun _=>sk 2 rfl (kc (uX (.mk af an Y Z) (.mk bf bn sb ba)) ?_)) (fun hb=>by simp at hb;omega))));exact kz 1 rfl (aE (rtC trw))
    ·refine⟨.mk 4 0 [] [.mk 4 0 [] [.mk 3 0 [80] [],.mk af an Y Z],.mk bf bn sb ba],l3,1+na+1+nb+1,.app (.app (.nm (by decide)) ga) gb,by omega,ac,?_⟩;refine bQ (n:=68) tok Tryz.func24 rfl rfl rfl ?_;refine sg rfl (sk 1 rfl (kc hc ?_));refine kz 1 rfl (a8 (a8 (agF 3 [] rfl rfl rfl (aA rfl (fun hb=>by simp at hb;omega) (fun _=>aD (a8 (a8 (agF 3 [] rfl rfl rfl (aA rfl (fun hb=>by simp at hb;omega) (fun _=>aD (sk 4 rfl ?_ (hc:=by repeat (first | exact trivial | refine⟨by first | rfl | omega | (simp;omega) | (unfold Ty.name;simp;omega) | (simp;done),?_⟩)))))))))))));refine kc ca ?_;refine kz 2 rfl (a8 (sg rfl (aA rfl (fun hb=>by simp at hb;omega) (fun _=>aD (sk 4 rfl ?_ (hc:=by repeat (first | exact trivial | refine⟨by first | rfl | omega | (simp;omega) | (unfold Ty.name;simp;omega) | (simp;done),?_⟩)))))));refine kc cb ?_;refine kz 2 rfl (a8 (sg rfl (aA rfl (fun hb=>by simp at hb;omega) (fun _=>aD (a8 (aI mixed (kc (iM [80]) ?_)))))));exact ak 7 [(2,.all),(5,.all)] rfl (az (aE (rtC trw)))
theorem aLv:∀f,1≤tsz f
 | 0=>le_refl _
 | f+1=>by rw[tsz];omega
theorem zY (vars:List Str) (hv:Sh8 vars) (I:vars.length≤1000000):∀(f:Nat) (u:Int),u+f=3→0≤u→a0a vars u (tsz f)
 | 0,u,hd,h0=>aF3 vars hv I u h0 (by omega) 0 (tsz 0) (aLv 0) (fun h=>by omega) (fun h=>by omega)
 | f+1,u,hd,h0=>aF3 vars hv I u h0 (by omega) (tsz f) (tsz (f+1)) (aLv _) (fun _=>le_refl _) (fun _=>zY vars hv I f (u+1) (by omega) (by omega))
inductive GC:Nat→Core→Prop
 | var {s:Str} (h:s∈nm6):GC 4 (.mk 1 0 s zTy [] [] [])
 | con {s:Str} (h:s.length≤8):GC 9 (.mk 2 0 s zTy [] [] [])
 | int {n:Int} (h: -100≤n∧n≤100):GC 1 (.mk 3 n [] zTy [] [] [])
 | app {m n:Nat} {a b:Core} (ha:GC m a) (hb:GC n b):GC (m+n+1) (.mk 4 0 [] zTy [a,b] [] [])
 | lam {m k:Nat} {s:Str} {t:Ty} {a:Core} (h:s∈nm6) (ht:GT k t) (hk:k≤100) (ha:GC m a):GC (m+4) (.mk 5 0 s t [a] [] [])
 | tc {k:Nat} {t:Ty} {s:Str} (h:s.length≤8) (ht:GT k t) (hk:k≤100):GC (9+1) (.mk 6 0 [] t [.mk 2 0 s zTy [] [] []] [] [])
 | tc2 {j k:Nat} {u t:Ty} {s:Str} (h:s.length≤8) (hu:GT j u) (hj:j≤100) (ht:GT k t) (hk:k≤100):GC (9+1+1) (.mk 6 0 [] t [.mk 6 0 [] u [.mk 2 0 s zTy [] [] []] [] []] [] [])
 | tr {m n j k:Nat} {u t:Ty} {s x:Str} {a b:Core} (hu:GT j u) (hj:j≤100) (hs:s∈tvN) (hx:x∈nm6) (ht:GT k t) (hk:k≤100) (ha:GC m a) (hb:GC n b):GC (m+4+20+1+n+1) (.mk 4 0 [] zTy [.mk 6 0 [] u [.mk 7 0 s zTy [.mk 5 0 x t [a] [] []] [] []] [] [],b] [] [])
 | tlam {m:Nat} {s:Str} {a:Core} (h:s∈tvN) (ha:GC m a):GC (m+20) (.mk 7 0 s zTy [a] [] [])
 | lt {m n k:Nat} {s:Str} {t:Ty} {a b:Core} (h:s∈nm6) (ht:GT k t) (hk:k≤100) (ha:GC m a) (hb:GC n b):GC (m+n+5) (.mk 8 0 [] zTy [a] [.mk s t b] [])
 | case1 {m n k:Nat} {t:Ty} {a b:Core} {f i:Int} {s:Str} {vs:List Str} (ht:GT k t) (hk:k≤100) (ha:GC m a) (hb:GC n b) (h1:1≤f∧f≤3) (h2: -100≤i∧i≤100) (h3:s.length≤8) (h4:∀x∈vs,x∈nm6) (h5:vs.length≤2):GC (m+n+20) (.mk 9 0 [] t [a] [] [.mk f i s vs b])
 | case2 {m n o k:Nat} {t:Ty} {a b c:Core} {f i:Int} {s:Str} {vs:List Str} {f' i':Int} {s':Str} {vs':List Str} (ht:GT k t) (hk:k≤100) (ha:GC m a) (hb:GC n b) (hc:GC o c) (h1:1≤f∧f≤3) (h2: -100≤i∧i≤100) (h3:s.length≤8) (h4:∀x∈vs,x∈nm6) (h5:vs.length≤2) (h1':1≤f'∧f'≤3) (h2': -100≤i'∧i'≤100) (h3':s'.length≤8) (h4':∀x∈vs',x∈nm6) (h5':vs'.length≤2):GC (m+n+o+40) (.mk 9 0 [] t [a] [] [.mk f i s vs b,.mk f' i' s' vs' c])
 | prim {m n:Nat} {s:Str} {a b:Core} (h:s∈u6) (ha:GC m a) (hb:GC n b):GC (m+n+5) (.mk 10 0 s zTy [a,b] [] [])
 | fail {k:Nat} {t:Ty} (ht:GT k t) (hk:k≤100):GC 1 (.mk 11 0 [] t [] [] [])
structure Gok (v:Gv):Prop where
 all:∀x∈v.l,(x.1=[]∨x.1∈nm6)∧∃k,k≤100∧GT k x.2
 vars:Sh8 v.vars
 d0:0≤v.deep
 len:(v.l.length:Int)≤v.deep
 vlen:(v.vars.length:Int)≤v.deep+1
theorem Gok.more {v:Gv}(h:Gok v) {s:Str}{t:Ty}{k:Nat}(hs:s=[]∨s∈nm6) (ht:GT k t) (hk:k≤100):Gok (eE v s t):=by
 obtain⟨h1,h2,h3,h4,h5⟩:=h;refine⟨fun x hx=>?_,h2,by show 0≤v.deep+1;omega,?_,by show(v.vars.length:Int)≤v.deep+1+1;omega⟩
 ·rcases τ.1 hx with hx | hx
  ·exact h1 x hx
  ·rw[ε.1 hx];exact⟨hs,k,hk,ht⟩
 ·show((v.l++[(s,t)]).length:Int)≤v.deep+1;rw[κ];simp only[Bl,List.length_nil];omega
def aLx (L:List (Str×Ty)) (f g:Nat→Bool):Nat→List Int→Option Str×List Int
 | 0,l=>(none,l)
 | k+1,l=>if ¬(L[k]?.getD ([],zTy)).1=[]∧f k=true∧g k=true then(if 0<(vU l 3).1 then(some (L[k]?.getD ([],zTy)).1,(vU l 3).2) else aLx L f g k (vU l 3).2) else aLx L f g k l
theorem aD4 (L:List (Str×Ty)) (f g:Nat→Bool):∀(k:Nat) (l:List Int),k≤L.length→Ok l→Ok (aLx L f g k l).2∧∀s,(aLx L f g k l).1=some s→¬s=[]∧∃x∈L,x.1=s
 | 0,l,_,h=>⟨h,fun s hs=>by simp[aLx] at hs⟩
 | k+1,l,hk,h=>by
  rw[aLx];split
  ·rename_i hc;split
   ·refine⟨sM h 3,fun s hs=>?_⟩;simp only[Option.some.injEq] at hs;subst hs;obtain⟨x,hx⟩:=aJ (l:=L) (k:=k) (by omega);rw[hx] at hc ⊢;exact⟨hc.1,x,η hx,rfl⟩
   ·exact aD4 L f g k _ (by omega) (sM h 3)
  ·exact aD4 L f g k _ (by omega) h
def vRt (v:Gv):List R:=(zX v).map R.c
def tR (t:Ty):List R:=(bD t).map R.c
def bb (f:Int) (s a:Str):Bool:=bif decide (f=3) then decide (s=a) else false
theorem rM {f:Int}{s a:Str}(h:bb f s a=true):f=3∧s=a:=by
 unfold bb at h;by_cases h1:f=3
 ·by_cases h2:s=a
  ·exact⟨h1,h2⟩
  ·simp[h2] at h
 ·simp[h1] at h
theorem aI6 {f:Int}{s a:Str}{n k:Nat}(h:(bif decide (f=3) then bif decide (s=a) then decide ((n:Int)=(k:Int)) else false else bif false then decide ((n:Int)=(k:Int)) else false)=true):bb f s a=true∧n=k:=by
 unfold bb;by_cases h1:f=3
 ·by_cases h2:s=a
  ·simp[h1,h2] at h ⊢;omega
  ·simp[h2] at h
 ·simp[h1] at h
def aAt (n:Nat) (t:Ty):Prop:=∀(v:Gv) (l:List Int) (left:Int),Gok v→v.deep+n≤200→Ok l→
 ∃(c:Core) (l':List Int) (m:Nat),GC m c∧m≤20*n∧Ok l'∧aU Tryz.prog 58 [.one (.vp 700 0),.pa (zX v),tyV t] (mO l left) (.pa (aB c)) (mO l' left)
def a6m:Code→Code | .seq _ b=>b | c=>c
noncomputable def a5o:Code:=a6m (a6m (Tryz.f58.body.getD .skip))
theorem jL (v:Gv) (t:Ty) (l:List Int) (left:Int) (f g:Nat→Bool) (out:Option Str×List Int) (hl:Ok l) (hL:v.l.length≤200) (hf:∀k x,v.l[k]?=some x→aU Tryz.prog 101 [tyV x.2,tyV t] [] (B (f k)) [])
  (hgh:∀k,k<v.l.length→aU Tryz.prog 102 [.one (.c (.sl 5 (v.l.map uS))),I .i64 k] [] (B (g k)) []) (hout:aLx v.l f g v.l.length l=out) {res:V} {hout':List (Nat×AObj)}
  (hsm:∀s l1,out=(some s,l1)→res=.pa (aB (.mk 1 0 s zTy [] [] []))∧hout'=mO l1 left)
  (hnn:∀l1,out=(none,l1)→AWp none Tryz.prog 166 (keys (mO l left)) a5o (mk [(0,.one (.vp 700 0)),(4,.one (.vp 4 0)),(5,.one (.vp 5 0)),(6,.one (.vp 6 0))] ([(4,.var 78 (vRt v)),(5,.var 33 (tR t)),(6,.var 37 bO)]++mO l1 left)) (fun ex st=>(ex=.normal∨ex=.ret)∧Fin tr.flat Tryz.f58 st (mO l left) res hout')):
  aU Tryz.prog 58 [.one (.vp 700 0),.pa (zX v),tyV t] (mO l left) res hout':=by
 have hkl:(v.l.map uS).length=v.l.length:=θ _;refine bQ (n:=166) tok Tryz.func58 rfl rfl rfl ?_;refine sg rfl (a8 (sg rfl (aC (aK (fun x:Nat×List Int=>mk [(0,.one (.vp 700 0)),(4,.one (.vp 4 0)),(5,.one (.vp 5 0)),(6,.one (.vp 6 0)),(7,I .i64 ((x.1:Int)-1))] ([(4,.var 78 (vRt v)),(5,.var 33 (tR t)),(6,.var 37 [.c (.int .i64 0),.c (.int .i64 0),.c (.str []),.c (.int .i64 0),.c (.int .i64 0),.c (.str []),.c .nl,.c .nl,.c .nl,.c .nl])]++mO x.2 left)) (fun x=>x.1≤v.l.length∧Ok x.2∧aLx v.l f g x.1 x.2=out) (fun x=>x.1) (v.l.length,l) ⟨le_refl _,hl,hout⟩ (sl (he:=⟨rfl,rfl,rfl,rfl,by rw[←hkl];rfl,trivial⟩)) ?_))));rintro⟨k,Y⟩ ⟨hk,J,u⟩;dsimp only at hk J u ⊢;refine a8 (sg rfl (aA rfl (fun hb=>?_) (fun hb=>?_)))
 ·have hk0:0<k:=by have:=ψ hb;omega
  obtain⟨k,rfl⟩:∃j,k=j+1:=⟨k-1,by omega⟩
  obtain⟨⟨xs,O⟩,hx⟩:=aJ (l:=v.l) (k:=k) (by omega);have hx':=bW uS hx;have hki:((k+1:Nat):Int)-1=(k:Int):=by omega
  rw[hki];rw[aLx,hx] at u;dsimp only[Option.getD] at u;have N:=hf k _ hx;have Z:=hgh k (by omega);have hc3:=aQl Y left 3 (by decide) J;dsimp only at N;refine aD (a8 (aC (a8 ?_)));by_cases h1:xs=[]
  ·rw[φ (fun h=>h.1 h1)] at u;have h1':(!decide (xs=[]))=false:=by rw[Ad h1];rfl
   exact ag [(3,.row k (uS (xs,O))),(7,.bv false),(16,.bv false)] rfl (aA rfl nofun (fun _=>aD (ag [] rfl ⟨(k,Y),⟨by dsimp only;omega,J,u⟩,by dsimp only;omega,sl⟩)))
  have h1':(!decide (xs=[]))=true:=by rw[Ae h1];rfl
  cases h2:f k with
  | false=>
   rw[φ (fun h=>by rw[h2] at h;cases h.2.1)] at u;rw[h2] at N;refine aI mixed (ak 15 [(3,.row k (uS (xs,O))),(7,.bv true),(11,.row k (uS (xs,O)))] rfl (kcG N ?_ (hw:=h1')));exact ak 12 [(16,.bv true)] rfl (az (aA rfl nofun (fun _=>aD (ag [] rfl ⟨(k,Y),⟨by dsimp only;omega,J,u⟩,by dsimp only;omega,sl⟩))))
  | true=>
  rw[h2] at N;cases h3:g k with
  | false=>
   rw[φ (fun h=>by rw[h3] at h;cases h.2.2)] at u;rw[h3] at Z;refine aI mixed (ak 15 [(3,.row k (uS (xs,O))),(7,.bv true),(11,.row k (uS (xs,O)))] rfl (kcG N ?_ (hw:=h1')));refine ak 5 [(16,.bv true)] rfl (kcG Z ?_);exact kz 6 rfl (aA rfl nofun (fun _=>aD (ag [] rfl ⟨(k,Y),⟨by dsimp only;omega,J,u⟩,by dsimp only;omega,sl⟩)))
  | true=>
  rw[ξ ⟨h1,h2,h3⟩] at u;rw[h3] at Z;refine aI mixed (ak 15 [(3,.row k (uS (xs,O))),(7,.bv true),(11,.row k (uS (xs,O)))] rfl (kcG N ?_ (hw:=h1')));refine ak 5 [(16,.bv true)] rfl (kcG Z ?_);refine ak 3 [] rfl (kcG hc3 ?_);refine kz 2 rfl (aA rfl (fun hb=>?_) (fun hb=>?_))
  ·have hb':0<(vU Y 3).1:=ψ hb;rw[ξ hb'] at u;obtain⟨s1,l1⟩:=out;simp only[Prod.mk.injEq] at u;obtain⟨rfl,rfl⟩:=u;obtain⟨rfl,rfl⟩:=hsm _ _ rfl;exact sgh [(3,.row k (uS (xs,O)))] rfl (aE (rtC trw))
  ·have hb':¬0<(vU Y 3).1:=χ hb;rw[φ hb'] at u;exact aD (ag [] rfl ⟨(k,_),⟨by dsimp only;omega,sM J 3,u⟩,by dsimp only;omega,sl⟩)
 have hk0:k=0:=by have:=χ hb;omega
 subst hk0;rw[aLx] at u;exact aL (AWp.sub sl (hnn Y u.symm))
theorem aOw (n:Nat) (t:Ty) (Y:GT n t) (hn:n≤100) (ih:∀(k:Nat) (u:Ty),k<n→GT k u→aAt k u):aAt n t:=by
 intro v l left hv hd hl;have hL:v.l.length≤200:=by have:=hv.len;omega
 have hS:∀k:Nat,∃b:Bool,∀x,v.l[k]?=some x→aU Tryz.prog 101 [tyV x.2,tyV t] [] (B b) []:=fun k=>by
  cases hx:v.l[k]? with
  | none=>exact⟨false,fun x h=>by cases h⟩
  | some x=>
   obtain⟨_,k',hk',hx'⟩:=hv.all x (η hx);obtain⟨r,hr⟩:=a3f hx' Y (by omega) (by omega);exact⟨r,fun y hy=>by cases hy;exact hr⟩
 have hH:∀k:Nat,∃b:Bool,k<v.l.length→aU Tryz.prog 102 [.one (.c (.sl 5 (v.l.map uS))),I .i64 k] [] (B b) []:=fun k=>by
  by_cases hk:k<v.l.length
  ·obtain⟨r,hr⟩:=aY4 v.l k hk (by omega);exact⟨r,fun _=>hr⟩
  ·exact⟨false,fun h=>absurd h hk⟩
 obtain⟨f,hf⟩:=Classical.axiomOfChoice hS;obtain⟨g,N⟩:=Classical.axiomOfChoice hH;obtain⟨hok,Z⟩:=aD4 v.l f g v.l.length l (le_refl _) hl;have hkl:(v.l.map uS).length=v.l.length:=θ _;generalize hout:aLx v.l f g v.l.length l=out at hok Z;obtain⟨so,l1⟩:=out;cases so with
 | some s=>
  obtain⟨hs0,x,hx,hxs⟩:=Z s rfl;have hs6:s∈nm6:=by
   rcases(hv.all x hx).1 with h | h
   ·rw[hxs] at h;exact absurd h hs0
   ·rw[hxs] at h;exact h
  refine⟨.mk 1 0 s zTy [] [] [],l1,4,.var hs6,by cases Y<;>omega,hok,?_⟩;exact jL v t l left f g _ hl hL hf N hout (fun s' l' e=>by cases e;exact⟨rfl,rfl⟩) (fun l' e=>by cases e)
 | none=>
  clear Z hS hH;have hok:Ok l1:=hok;rcases xI Y with⟨m1,m2,a,b,ga,gb,hnm,rfl,cF⟩ | cF
  ·obtain⟨s,l2,hs,O,cN⟩:=aIn l1 left v hok;have hs6:s∈nm6:=τ.2 (.inl hs);obtain⟨c,l3,m,gc,hm,hl3,cL⟩:=ih m2 b (by omega) gb (eE v s a) l2 left (hv.more (.inr hs6) ga (by omega)) (by show v.deep+1+(m2:Int)≤200;omega) O;have cM:=aAe v s a (by omega) ⟨hv.d0,by omega⟩;refine⟨.mk 5 0 s a [c] [] [],l3,m+4,.lam hs6 ga (by omega) gc,by omega,hl3,?_⟩;refine jL v (iZ a b) l left f g _ hl hL hf N hout (fun s' l' e=>by cases e) (fun l' e=>?_);cases e;refine a8 (sk 1 rfl (kc cF ?_));refine az (aA rfl (fun _=>sk 2 rfl (kc cN ?_)) nofun);refine kz 1 rfl (skh 18 [(3,.row 0 (bD (aA8 (.mk 3 0 arrow []) a))),(6,.row 1 (bD a)),(13,.row 0 (bD (aA8 (.mk 3 0 arrow []) a))),(16,.row 1 (bD a))] rfl (kc cM ?_));refine ak 4 [(21,.row 1 (bD b))] rfl (kc cL ?_);exact ak 3 [(24,.all)] rfl (az (aE (rtC trw)))
  obtain⟨J,L,hLg,hLn,cS⟩:=aPs Y (by omega);by_cases hI:bb J.form J.name [73,110,116]=true
  ·obtain⟨i,l2,hi,O,cN⟩:=kA l1 left 7 (by decide) hok;refine⟨.mk 3 ((i:Int)-2) [] zTy [] [] [],l2,1,.int (by omega),by cases Y<;>omega,O,?_⟩;refine jL v t l left f g _ hl hL hf N hout (fun s' l' e=>by cases e) (fun l' e=>?_);cases e;refine a8 (sk 1 rfl (kc cF ?_));refine az (aA rfl nofun (fun _=>aD (sk 1 rfl (kc cS ?_))));refine kz 6 rfl (a8 (aC (a8 (agF 4 [] rfl rfl rfl (aA rfl (fun _=>sk 1 rfl (kc cN ?_)) (fun hb=>by have:=hI.symm.trans hb;cases this))))));refine ak 3 [] rfl ?_ (hc:=by repeat (first | exact trivial | refine⟨by first | rfl | omega | (simp;omega) | (unfold Ty.name;simp;omega) | (simp;done),?_⟩));exact az (aE (rtC trw))
  by_cases hB:bb J.form J.name [66,111,111,108]=true
  ·obtain⟨i,l2,hi,O,cN⟩:=kA l1 left 2 (by decide) hok;have hi:i<2:=by omega
   obtain⟨s,hs⟩:∃s,([[70,97,108,115,101],[84,114,117,101]]:List Str)[i]?=some s:=aJ (by simpa using hi);have hs':=bW b6 hs;have hs8:s.length≤8:=by
    have:i=0∨i=1:=by omega
    rcases this with rfl | rfl<;>(simp at hs;subst hs;decide)
   refine⟨.mk 2 0 s zTy [] [] [],l2,9,.con hs8,by cases Y<;>omega,O,?_⟩;refine jL v t l left f g _ hl hL hf N hout (fun s' l' e=>by cases e) (fun l' e=>?_);cases e;refine a8 (sk 1 rfl (kc cF ?_));refine az (aA rfl nofun (fun _=>aD (sk 1 rfl (kc cS ?_))));refine kz 6 rfl (a8 (aC (a8 (agF 4 [] rfl rfl rfl (aA rfl (fun hb=>absurd hb hI) (fun _=>a8 (agF 4 [] rfl rfl rfl (aA rfl (fun _=>sk 2 rfl (kc cN ?_)) (fun hb=>by have:=hB.symm.trans hb;cases this)))))))));exact ak 4 [(3,.row i []),(4,.row i (b6 s))] rfl (az (aE (rtC trw)))
  by_cases hX:bb J.form J.name [76]=true∧L.length=1
  ·obtain⟨x,rfl⟩:∃x,L=[x]:=Bm.1 hX.2;obtain⟨k,_,gx,_,hk⟩:=hLg;have cG:=qH [78] [x] (by simp);refine⟨.mk 6 0 [] x [.mk 2 0 [78] zTy [] [] []] [] [],l1,9+1,.tc (by decide) gx (by omega),by cases Y<;>omega,hok,?_⟩;refine jL v t l left f g _ hl hL hf N hout (fun s' l' e=>by cases e) (fun l' e=>?_);cases e;refine a8 (sk 1 rfl (kc cF ?_));refine az (aA rfl nofun (fun _=>aD (sk 1 rfl (kc cS ?_))));refine kz 6 rfl (a8 (aC (a8 (agF 4 [] rfl rfl rfl (aA rfl (fun hb=>absurd hb hI) (fun _=>a8 (agF 4 [] rfl rfl rfl (aA rfl (fun hb=>absurd hb hB) (fun _=>a8 (agF 4 [] rfl rfl rfl (aA rfl (fun _=>?_) (fun hb=>?_))))))))))))
   ·refine sk 1 rfl (kc cG ?_);exact kz 1 rfl (aE (rtC trw))
   ·exfalso;obtain⟨h3,h4⟩:=rM hX.1;simp[h3,h4] at hb
  by_cases hP:bb J.form J.name [80]=true∧L.length=2
  ·obtain⟨x,y,rfl⟩:∃x y,L=[x,y]:=by
    match L,hP.2 with
    | [x,y],_=>exact⟨x,y,rfl⟩
   obtain⟨k1,m1,gx,⟨k2,m2,gy,_,hk2⟩,hk1⟩:=hLg;have cG:=qH [80] [x,y] (by simp);obtain⟨c1,l2,w1,gc1,hw1,O,cL1⟩:=ih k1 x (by omega) gx v l1 left hv (by omega) hok;obtain⟨c2,l3,w2,gc2,hw2,hl3,cL2⟩:=ih k2 y (by omega) gy v l2 left hv (by omega) O;have cA1:=iC (j0 [80] [x,y]) c1;have cA2:=iC (.mk 4 0 [] zTy [j0 [80] [x,y],c1] [] []) c2;refine⟨.mk 4 0 [] zTy [.mk 4 0 [] zTy [j0 [80] [x,y],c1] [] [],c2] [] [],l3,(9+1+1)+w1+1+w2+1,.app (.app (.tc2 (by decide) gx (by omega) gy (by omega)) gc1) gc2,by omega,hl3,?_⟩;refine jL v t l left f g _ hl hL hf N hout (fun s' l' e=>by cases e) (fun l' e=>?_);cases e;refine a8 (sk 1 rfl (kc cF ?_));refine az (aA rfl nofun (fun _=>aD (sk 1 rfl (kc cS ?_))));refine kz 6 rfl (a8 (aC (a8 (agF 4 [] rfl rfl rfl (aA rfl (fun hb=>absurd hb hI) (fun _=>a8 (agF 4 [] rfl rfl rfl (aA rfl (fun hb=>absurd hb hB) (fun _=>a8 (agF 4 [] rfl rfl rfl (aA rfl (fun hb=>?_) (fun _=>?_))))))))))))
   ·exfalso;simp at hb
   refine a8 (agF 4 [] rfl rfl rfl (aA rfl (fun _=>?_) (fun hb=>?_)))
   ·refine sk 1 rfl (kc cG ?_);refine ak 5 [(5,.row 0 []),(6,.row 0 (bD x))] rfl (kc cL1 ?_);refine kc cA1 ?_;refine ak 5 [(12,.row 1 []),(13,.row 1 (bD y))] rfl (kc cL2 ?_);refine kc cA2 ?_;exact kz 1 rfl (aE (rtC trw))
   ·exfalso;obtain⟨h3,h4⟩:=rM hP.1;simp[h3,h4] at hb
  ·refine⟨.mk 11 0 [] t [] [] [],l1,1,.fail Y hn,by cases Y<;>omega,hok,?_⟩;refine jL v t l left f g _ hl hL hf N hout (fun s' l' e=>by cases e) (fun l' e=>?_);cases e;refine a8 (sk 1 rfl (kc cF ?_));refine az (aA rfl nofun (fun _=>aD (sk 1 rfl (kc cS ?_))));refine kz 6 rfl (a8 (aC (a8 (agF 4 [] rfl rfl rfl (aA rfl (fun hb=>absurd hb hI) (fun _=>a8 (agF 4 [] rfl rfl rfl (aA rfl (fun hb=>absurd hb hB) (fun _=>a8 (agF 4 [] rfl rfl rfl (aA rfl (fun hb=>?_) (fun _=>?_))))))))))))
   ·exfalso;exact hX (aI6 hb)
   refine a8 (agF 4 [] rfl rfl rfl (aA rfl (fun hb=>?_) (fun _=>?_)))
   ·exfalso;exact hP (aI6 hb)
   exact aD (sg rfl (aE (rtC trw)))
theorem aIo:∀(N n:Nat) (t:Ty),n≤N→GT n t→n≤100→aAt n t
 | 0,n,t,h,I,_=>by cases I<;>omega
 | N+1,n,t,h,I,hn=>aOw n t I hn fun k u hk hu=>aIo N k u (by omega) hu (by omega)
end Go.Proofs.YtockgoadliilhaaGreatDoor
