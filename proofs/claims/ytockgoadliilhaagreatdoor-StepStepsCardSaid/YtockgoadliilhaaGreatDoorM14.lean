/-
  Texts Ly15 to Lr16 in one.
-/
import Derived.Test.YtockgoadliilhaaGreatDoorM13
open List (drop_eq_getElem_cons drop_length length_cons length_eq_one_iff length_eq_zero_iff length_map length_nil length_set length_take map_append map_cons map_map map_nil mem_append mem_cons mem_cons_of_mem mem_cons_self mem_filter mem_map mem_of_mem_drop mem_of_mem_take mem_or_eq_of_mem_set mem_singleton nil_append of_mem_zip set_cons_succ sum_cons sum_nil take_add_one take_length)
open Nat (le_refl le_succ le_trans mul_add mul_le_mul_left mul_le_mul_right mul_one zero_add zero_le)
namespace Go.Proofs.YtockgoadliilhaaGreatDoor
open Go Go.AM
set_option maxRecDepth 20000
set_option maxHeartbeats 4000000
theorem sG {α:Type}{g:α→Nat}:∀{l:List α}{x:α},x∈l→g x≤(l.map g).sum
 | y::l,x,h=>by
  rw[Am,Bt];rcases Ap.1 h with e | h
  ·rw[e];omega
  ·have:=sG (g:=g) h;omega
theorem mE {α:Type}{g:α→Nat}{K:Nat}:∀{l:List α},(∀x∈l,g x≤K)→(l.map g).sum≤l.length*K
 | [],_=>by simp
 | y::l,h=>by
  rw[Am,Bt,Ac,Nat.succ_mul];have:=h y ζ;have:=mE (l:=l) fun x hx=>h x (ω _ hx)
  omega
theorem a1b:∀u:List (Str×Ty),31*u.length≤(u.map fun p=>1+w30 p.1).sum
 | []=>le_refl _
 | p::l=>by simp only[Am,Bt,Ac];have:=a1b l;have:=jV p.1;omega
theorem a6o {s:Str}{u:List (Str×Ty)}{I:List (Str×List Str)}(h:lw s u I≤403):u.length≤12:=by
 unfold lw at h;have:=a1b u;have:=jV s;omega
theorem a66 {s:Str}{I:List (Str×Ty)}{u:List (Str×List Str)}(h:lw s I u≤403) {p:Str×List Str}(hp:p∈u):p.2.length≤12:=by
 unfold lw at h;have h1:=sG (g:=fun p:Str×List Str=>1+w30 p.1+(p.2.map fun v=>1+w30 v).sum) hp;have h2:=mD p.2;have:=jV s;omega
section
variable {n:Nat}{U:List Str}
theorem aXf (J:dJ 540000000000) (hn:n≤99) (I:U.length≤480000) {body a:Core}{nm:Str}{s:Nat}(h1:ST n U body) (h2:ST n U a) (hs:m30 body+m30 a≤s):
  TB 403 body nm a (dH (m30 body) body nm a)∧SR (n+1) U s (dH (m30 body) body nm a):=by
 have u:=uU J (D:=400) (M:=650000) (X:=403) (by decide) (by decide) (m30 body) body (le_refl _) (h1.cg (by omega) I) nm a (h2.cg (by omega) I);refine⟨u,u.rx.q,fun E N=>?_,fun x hx=>(u.rx.ty x hx).elim (h1.ty x) (h2.ty x),?_,?_⟩
 ·have:=u.rx.cw fH E r0;have:=h1.cw E (by omega);have:=h2.cw E (by omega);omega
 ·have:=u.rx.tl;have:=h1.tl;have:=h2.tl;omega
 ·have:=u.sz (m30 a/31+1) (by omega) (by omega);have:=ar1 hs;omega
theorem aRp (N:dJ 540000000000) (hn:n≤99) (O:U.length≤480000) {i i':Int}{s nm:Str}{u t':Ty}{body:Core}{bs:List Bind}{al:List Alt}
  (h:ST n U (.mk 6 i s u [.mk 7 i' nm t' [body] [] []] bs al)) {w:Nat}:
  SB 403 body nm u (sTR (m30 body) body nm u)∧SR (n+1) U w (sTR (m30 body) body nm u):=by
 have hh:=h.kid (by decide) (x:=.mk 7 i' nm t' [body] [] []) ζ;obtain⟨hb,_,_⟩:=hh.tkid (x:=body) ζ;have Y:=h.cg (by omega) O;have J:=((hh.cg (by omega) O).kid (x:=body) ζ).1
 obtain⟨Z,w2,_⟩:=Y.ty;have hu:UOk u:=⟨Z,by omega⟩
 have I:=vW N (by decide) (m30 body) body (le_refl _) J nm u hu;refine⟨I,I.q,fun E hE=>?_,fun x hx=>?_,?_,?_⟩
 ·have h1:=I.cw fH E r0;have h2:=(dT.1 (h.cw (n*3) (le_refl _))).2.1
  have h3:=(dT.1 (hh.cw E (by omega))).2.2.1 body ζ;rw[ξ rfl] at h3;refine le_trans h1 (le_trans (lI (le_refl _) fun x=>?_) h3);unfold fP;split
  ·omega
  ·exact le_refl _
 ·rcases a1d N (by decide) (m30 body) body (le_refl _) J nm u hu x hx with⟨h1,h2⟩ | h1
  ·exact(Ap.1 (hb.ty x h1)).resolve_left h2
  ·exact h.ty x (bU.2 (.inl h1))
 ·have:=I.tl;have:=hb.tl;omega
 ·have:=I.sz;have:=hb.sz;omega
theorem aXe {B s:Nat}{c r:Core}{l:List Core}(hc:ST n U c) (hl:∀b∈l,(∀E,n*3≤E→cw fH E b r0≤3+E)∧(∀x∈tyR b,x∈U)∧tlC b≤6000) (u:l.length≤12) (I:60*(m30 c*B)≤s*s+120*s) (h:PR 403 B c l r):SR (n+1) U s r:=by
 refine⟨h.q,fun E J=>h.cw fH E r0 _ (hc.cw E (by omega)) fun b hb=>(hl b hb).1 E (by omega),fun x hx=>?_,?_,?_⟩
 ·rcases h.ty x hx with h | ⟨b,hb,h⟩
  ·exact hc.ty x h
  ·exact(hl b hb).2.1 x h
 ·have h1:=h.tl;have h2:=mE (g:=tlC) (K:=6000) (l:=l) fun b hb=>(hl b hb).2.2
  have h3:=hc.tl;have h4:l.length*6000≤12*6000:=Aw _ u;omega
 ·have:=h.sz;omega
theorem a4k {B s:Nat}{c:Core}{l:List Core}(hn:n≤99) (O:U.length≤480000) (hc:ST n U c) (hl:∀b∈l,(∀E,n*3≤E→cw fH E b r0≤3+E)∧(∀x∈tyR b,x∈U)∧tlC b≤6000) (u:l.length≤12) (hs:s≤3500000) (I:1≤B) (Y:60*(m30 c*B)≤s*s+120*s)
  (Z:∀b∈l,eJ (QL 403) b) (J:∀b∈l,m30 b≤31*B) (N:∀b∈l,m30 b≤10000000):PO 400 650000 403 B c l:=by
 refine⟨hc.q,(hc.cg (by omega) O).dep,Z,fun b hb=>?_,⟨U,?_,hc.ty,fun b hb=>(hl b hb).2.1⟩,I,J,ar3 hs Y,?_⟩
 ·have:=(hl b hb).1 (n*3) (le_refl _)
  have:=lI (A:=fH) (E:=0) (E':=n*3) (Ag _) (c:=b) (ρ:=r0) (ρ':=r0) (fun _=>le_refl _);omega
 ·have h2:=mE (g:=tlC) (K:=6000) (l:=l) fun b hb=>(hl b hb).2.2
  have h3:=hc.tl;have h4:l.length*6000≤12*6000:=Aw _ u;omega
 ·have h2:=mE (g:=m30) (K:=10000000) (l:=l) N;have h4:l.length*10000000≤12*10000000:=Aw _ u;have:Big=250000000000:=rfl;omega
theorem aYo {i:Int}{s:Str}{t:Ty}{ks:List Core}{bs:List Bind}{al:List Alt}(h:ST n U (.mk 8 i s t ks bs al)) {b:Bind}(hb:b∈bs):
  eJ (QL 403) (letB bs b)∧((∀E,n*3≤E→cw fH E (letB bs b) r0≤3+E)∧(∀x∈tyR (letB bs b),x∈U)∧tlC (letB bs b)≤6000)∧m30 (letB bs b)≤31*(fT bs/15+2)∧m30 (letB bs b)≤10000000:=by
 have u:=h.bind hb;obtain⟨⟨g1,g2,g3,g4,g5,g6,g7,g8⟩,_,O,_⟩:=bB.1 h.q;have hs:=h.sz;rw[m30] at hs;have hm:=nY hb;have J:w30 ([]:Str)=30:=rfl;have em:m30 (letB bs b)=31+m30 b.body+fT bs:=by
  unfold letB;rw[m30,dA,dA,gY,J];omega
 have Y:m30 b.body+31≤fT bs:=by
  have h1:=uL bs;have h2:m30 b.body≤dA (bs.map Bind.body):=fX (Af.2 ⟨b,hb,rfl⟩);have h3:1≤bs.length:=List.length_pos_of_mem hb;omega
 refine⟨?_,⟨fun E N=>?_,fun x hx=>?_,?_⟩,by omega,by omega⟩
 ·unfold letB;refine bB.2 ⟨⟨by simp[okF],fun e=>absurd e (by decide),rfl,g4,?_,fun e=>absurd e (by decide),g7,by simp⟩,by simpa using u.q,O,by simp⟩;unfold lw at g5 ⊢;rw[J];have:=jV s;simp only[Bo,sum_nil];omega
 ·unfold letB;have g:=dT.1 (h.cw E N);refine dT.2 ⟨g.1,by rw[dZ];omega,fun x hx=>?_,g.2.2.2.1,by simp⟩;rw[ε.1 hx,φ (by decide)];exact u.cw E N
 ·unfold letB at hx;rcases bU.1 hx with h1 | ⟨y,I,h1,_⟩ | ⟨y,I,h1⟩ | ⟨y,I,_⟩
  ·cases h1
  ·rw[ε.1 I] at h1;exact u.ty x h1
  ·exact h.ty x (bU.2 (.inr (.inr (.inl ⟨y,I,h1⟩))))
  ·cases I
 ·unfold letB;have g:=oH (f:=8) (n:=i) (s:=s) (t:=t) (ks:=ks) (bs:=bs) (al:=al);have ht:=h.tl;have:=(aA6 (K:=6000) (f:=8) (n:=0) (s:=[]) (t:=zTy) (ks:=[b.body]) (bs:=bs) (al:=[])).2 ⟨fun x hx=>by rw[ε.1 hx];exact u.tl,fun x hx=>le_trans (g.2.1 x hx) ht,by simp⟩
  rwa [φ (by decide),Bc] at this
theorem vN {i:Int}{s:Str}{t:Ty}{ks:List Core}{bs:List Bind}{al:List Alt}(h:eJ (QL 403) (.mk 8 i s t ks bs al)):(∃a,ks=[a])∧al=[]∧bs.length≤12:=by
 obtain⟨⟨h1,_,_,_,h5,_⟩,_⟩:=bB.1 h;have h6:=a6o h5;rw[θ] at h6;unfold okF at h1;rw[φ (by decide),φ (by decide),ξ rfl] at h1;obtain⟨g1,g2⟩:=ψ h1;rw[θ] at g2;exact⟨Bm.1 g1,Bv.1 g2,h6⟩
theorem aVh:∀l:List (Str×List Str),31*l.length≤(l.map fun p=>1+w30 p.1+(p.2.map fun v=>1+w30 v).sum).sum
 | []=>by simp
 | p::l=>by
  have h1:=aVh l;have h2:=jV p.1;rw[Am,Bt,Ac];omega
theorem vO {i:Int}{s:Str}{t:Ty}{ks:List Core}{bs:List Bind}{al:List Alt}(h:eJ (QL 403) (.mk 9 i s t ks bs al)):(∃a,ks=[a])∧bs=[]∧al.length≤12∧∀a∈al,a.vars.length≤12:=by
 obtain⟨⟨h1,_,_,_,h5,_⟩,_⟩:=bB.1 h;unfold okF at h1;rw[φ (by decide),φ (by decide),φ (by decide),ξ rfl] at h1;obtain⟨g1,g2⟩:=ψ h1;rw[θ] at g2;refine⟨Bm.1 g1,Bv.1 g2,?_,fun a ha=>a66 h5 (Af.2 ⟨a,ha,rfl⟩)⟩;unfold lw at h5;have h6:=aVh (al.map ahd);rw[θ] at h6;have:=jV s;omega
theorem aDt (hn:n≤99) (N:U.length≤480000) {i:Int}{s:Str}{t:Ty}{a:Core}{bs:List Bind}(h:ST n U (.mk 8 i s t [a] bs [])):
  PO 400 650000 403 (fT bs/15+2) a (bs.map (letB bs))∧∀r,PR 403 (fT bs/15+2) a (bs.map (letB bs)) r→SR (n+1) U (m30 (.mk 8 i s t [a] bs [])) r:=by
 have ha:=h.kid (by decide) (x:=a) ζ;have u:(bs.map (letB bs)).length≤12:=by rw[θ];exact(vN h.q).2.2
 have hl:∀b∈bs.map (letB bs),eJ (QL 403) b∧((∀E,n*3≤E→cw fH E b r0≤3+E)∧(∀x∈tyR b,x∈U)∧tlC b≤6000)∧m30 b≤31*(fT bs/15+2)∧m30 b≤10000000:=fun b hb=>by
  obtain⟨O,I,rfl⟩:=Af.1 hb;exact aYo h I
 have J:=ar2 (a:=m30 a) (b:=fT bs) (s:=m30 (.mk 8 i s t [a] bs [])) (by rw[m30,dA,dA];omega);exact⟨a4k hn N ha (fun b hb=>(hl b hb).2.1) u h.sz (by omega) J (fun b hb=>(hl b hb).1) (fun b hb=>(hl b hb).2.2.1) (fun b hb=>(hl b hb).2.2.2),fun _=>aXe ha (fun b hb=>(hl b hb).2.1) u J⟩
theorem aU0 (hn:n≤99) (N:U.length≤480000) {a:Alt}{c:Core}{s:Nat}(hs:m30 a.body+m30 c≤s) (I:s≤3500000) (ha:ST n U a.body) (hv:a.vars.length≤12) {l:List Core}(g1:∀x∈l,ST n U x) (g2:(l.map m30).sum≤m30 c) (hl:l.length=a.vars.length):
  PO 400 650000 403 (m30 c/31+1) a.body l∧∀r,PR 403 (m30 c/31+1) a.body l r→SR (n+1) U s r:=by
 have hm:∀b∈l,m30 b≤m30 c:=fun b hb=>le_trans (yD hb) g2
 have u:∀b∈l,(∀E,n*3≤E→cw fH E b r0≤3+E)∧(∀x∈tyR b,x∈U)∧tlC b≤6000:=fun b hb=>⟨(g1 b hb).cw,(g1 b hb).ty,(g1 b hb).tl⟩
 have J:=ar1 hs;exact⟨a4k hn N ha u (by omega) I (by omega) J (fun b hb=>(g1 b hb).q) (fun b hb=>by have:=hm b hb;omega) (fun b hb=>by have:=hm b hb;omega),fun _=>aXe ha u (by omega) J⟩
theorem vL (hn:n≤99) (I:U.length≤480000) {a:Alt}{c:Core}{s:Nat}(hs:m30 a.body+m30 c≤s) (u:s≤3500000) (ha:ST n U a.body) (hc:ST n U c) (hv:a.vars.length≤12) {nm:Str}{l:List Core}(J:gvC c=some (nm,l)) (hl:l.length=a.vars.length):
  PO 400 650000 403 (m30 c/31+1) a.body l∧∀r,PR 403 (m30 c/31+1) a.body l r→SR (n+1) U s r:=by
 obtain⟨g1,g2⟩:=a5r _ c (le_refl _) hc nm l J;exact aU0 hn I hs u ha hv g1 g2 hl
theorem aH0 {x r:Core}:∀{ks:List Core}{j:Nat},ks[j]?=some x→dA (ks.set j r)+m30 x=dA ks+m30 r
 | y::ks,0,h=>by
  have e:y=x:=by simpa using h
  subst e;rw[List.set_cons_zero,dA,dA];omega
 | y::ks,j+1,h=>by
  rw[C5,dA,dA];have:=aH0 (r:=r) (ks:=ks) (j:=j) (by simpa using h);omega
theorem a4j {f i:Int}{s:Str}{t:Ty}{ks:List Core}{bs:List Bind}{al:List Alt}(h7:¬f=7) (h:ST n U (.mk f i s t ks bs al)) {j:Nat}{x r:Core}(hx:ks[j]?=some x) (I:SR (n+1) U (m30 x) r):
  SR (n+1) U (m30 (.mk f i s t ks bs al)) (aDw (.mk f i s t ks bs al) j r):=by
 have N:=η hx;have hin:∀y∈ks.set j r,y=r∨y∈ks:=fun y u=>(B5 u).symm
 obtain⟨g1,g2,g3,g4⟩:=bB.1 h.q;unfold aDw;refine⟨bB.2 ⟨by rw[Cq];exact g1,fun y u=>?_,g3,g4⟩,fun E O=>?_,fun y u=>?_,?_,?_⟩
 ·rcases hin y u with rfl | u
  ·exact I.q
  ·exact g2 y u
 ·obtain⟨Y,Z,c3,c4,c5⟩:=dT.1 (h.cw E (by omega));refine dT.2 ⟨Y,Z,fun y u=>?_,c4,c5⟩;rcases hin y u with rfl | u
  ·rw[φ h7];exact I.cw E O
  ·exact c3 y u
 ·rcases bU.1 u with h1 | ⟨z,J,h1,_⟩ | h1
  ·exact h.ty y (bU.2 (.inl h1))
  ·rcases hin z J with rfl | J
   ·exact I.ty y h1
   ·exact h.ty y (bU.2 (.inr (.inl ⟨z,J,h1,.inl h7⟩)))
  ·exact h.ty y (bU.2 (.inr (.inr h1)))
 ·have g:=oH (f:=f) (n:=i) (s:=s) (t:=t) (ks:=ks) (bs:=bs) (al:=al);have ht:=h.tl;have:=(aA6 (K:=84000) (f:=f) (n:=i) (s:=s) (t:=t) (ks:=ks.set j r) (bs:=bs) (al:=al)).2 ⟨fun y u=>?_,fun y u=>by have:=g.2.1 y u;omega,fun y u=>by have:=g.2.2 y u;omega⟩
  ·rwa [φ h7,Bc] at this
  ·rcases hin y u with rfl | u
   ·exact I.tl
   ·have:=g.1 y u;omega
 ·have g1:=aH0 (r:=r) hx;have g2:=fX N;have e:m30 (.mk f i s t (ks.set j r) bs al)=m30 (.mk f i s t ks bs al)-m30 x+m30 r:=by
   rw[m30,m30];omega
  rw[e];exact ar4 (by rw[m30];omega) I.sz
end
theorem iP {bd:List Bind}{k:Nat}{f i:Int}{s:Str}{t:Ty}{ks:List Core}{bs:List Bind}{al:List Alt}:cD bd (k+1) (.mk f i s t ks bs al)=
  if f=1 then(match bd.find? fun b=>decide (b.name=s) with | some b=>(b.body,0) | none=>(zC,51))
  else if f=4∨f=6 then
   (if f=4∧(ks.headD zC).form=5 then(dH (m30 ((ks.headD zC).kids.headD zC)) ((ks.headD zC).kids.headD zC) (ks.headD zC).name (ks.getD 1 zC),0)
   else if f=6∧(ks.headD zC).form=7 then(sTR (m30 ((ks.headD zC).kids.headD zC)) ((ks.headD zC).kids.headD zC) (ks.headD zC).name t,0)
   else pT (cD bd k) (.mk f i s t ks bs al) 0)
  else if f=8 then(aAv (ks.headD zC) (bs.map Bind.name) (bs.map (letB bs)),0)
  else if f=9 then(if shC (ks.headD zC)=true then(match al.findSome? fun a=>gH a (ks.headD zC) with | some r=>(r,0) | none=>(zC,52)) else pT (cD bd k) (.mk f i s t ks bs al) 0)
  else if f=10 then
   (if ¬shC (ks.headD zC)=true then pT (cD bd k) (.mk f i s t ks bs al) 0
   else if ¬shC (ks.getD 1 zC)=true then pT (cD bd k) (.mk f i s t ks bs al) 1
   else if(ks.headD zC).form=3∧(ks.getD 1 zC).form=3 then jG s (ks.headD zC).n (ks.getD 1 zC).n
   else(zC,51))
  else if f=11 then(zC,52)
  else(zC,51):=by rw[cD];rfl
structure BI (U:List Str) (bd:List Bind):Prop where
 len:bd.length≤1000
 all:∀b∈bd,ST 0 U b.body
theorem a0d {n w:Nat}{U:List Str}{s:Str}{a b:Int}(h:(jG s a b).2=0):SR n U w (jG s a b).1:=by
 have hi:∀m,SR n U w (kI m):=fun m=>aFq (by decide) (by decide) (by decide) (by decide)
 have ht:∀c,SR n U w (aK5 c):=fun c=>by cases c<;>exact aFq (by decide) (by decide) (by decide) (by decide)
 unfold jG at h ⊢;by_cases h1:s=aAw
 ·rw[ξ h1];exact hi _
 rw[φ h1] at h ⊢;by_cases h1:s=aVy
 ·rw[ξ h1];exact hi _
 rw[φ h1] at h ⊢;by_cases h1:s=aTb
 ·rw[ξ h1];exact hi _
 rw[φ h1] at h ⊢;by_cases h1:s=aLa
 ·rw[ξ h1] at h ⊢;by_cases h0:b=0
  ·rw[ξ h0] at h;cases h
  ·rw[φ h0];exact hi _
 rw[φ h1] at h ⊢;by_cases h1:s=nEq
 ·rw[ξ h1];exact ht _
 rw[φ h1] at h ⊢;by_cases h1:s=nLt
 ·rw[ξ h1];exact ht _
 ·rw[φ h1] at h;cases h
theorem pU {u:Bool}{p:CE}{g:Core→Core}(h:(aKi u p g).2=0):u=false∧p.2=0∧(aKi u p g).1=g p.1:=by
 unfold aKi at h ⊢;cases u with
 | true=>cases h
 | false=>
  rw[φ Av] at h ⊢;by_cases h0:p.2=0
  ·rw[ξ h0];exact⟨rfl,h0,rfl⟩
  ·rw[φ h0] at h;exact absurd h h0
theorem pH (Y:dJ 540000000000) {n:Nat}{U:List Str}(hn:n≤99) (Z:U.length≤480000) {bd:List Bind}(hB:BI U bd):∀(k:Nat) (c:Core),m30 c≤k→ST n U c→(cD bd k c).2=0→SR (n+1) U (m30 c) (cD bd k c).1:=by
 intro k
 induction k with
 | zero=>intro c h;have:=dD c;omega
 | succ k ih=>
 intro c h hc he;obtain⟨f,i,s,t,ks,bs,al⟩:=c;have I:∀j,¬f=7→(pT (cD bd k) (.mk f i s t ks bs al) j).2=0→SR (n+1) U (m30 (.mk f i s t ks bs al)) (pT (cD bd k) (.mk f i s t ks bs al) j).1:=fun j h7 he=>by
  unfold pT at he ⊢;cases hx:ks[j]? with
  | none=>
   have O:(Core.mk f i s t ks bs al).kids[j]?=none:=hx;rw[O] at he;cases he
  | some x=>
   have O:(Core.mk f i s t ks bs al).kids[j]?=some x:=hx;rw[O] at he ⊢;dsimp only at he ⊢;obtain⟨_,e2,J⟩:=pU he;rw[J];have hxm:=η hx;exact a4j h7 hc hx (ih x (by have:=fX hxm;rw[m30] at h;omega) (hc.kid h7 hxm) e2)
 rw[iP] at he ⊢;by_cases h1:f=1
 ·rw[ξ h1] at he ⊢;cases hf:bd.find? fun b=>decide (b.name=s) with
  | none=>rw[hf] at he;cases he
  | some b=>exact((hB.all b (Bp hf)).mono (Ag _)).sr
 rw[φ h1] at he ⊢;by_cases h46:f=4∨f=6
 ·rw[ξ h46] at he ⊢;by_cases ha:f=4∧(ks.headD zC).form=5
  ·rw[ξ ha];obtain⟨rfl,ha⟩:=ha;obtain⟨⟨a,b,rfl⟩,rfl,rfl⟩:=jP hc.q (.inl rfl);have N:=hc.kid (by decide) (x:=a) ζ;have kb:=hc.kid (by decide) (x:=b) (ω _ ζ);obtain⟨f',i',s',t',ks',bs',al'⟩:=a;have ha:f'=5:=ha;subst ha;obtain⟨⟨body,rfl⟩,rfl,rfl⟩:=dR N.q (.inl rfl);exact(aXf Y hn Z (N.kid (by decide) (x:=body) ζ) kb (by rw[m30,dA,dA,dA,m30,dA,dA];omega)).2
  rw[φ ha] at he ⊢;by_cases hb:f=6∧(ks.headD zC).form=7
  ·rw[ξ hb];obtain⟨rfl,hb⟩:=hb;obtain⟨⟨a,rfl⟩,rfl,rfl⟩:=dR hc.q (.inr (.inl rfl));have N:=hc.kid (by decide) (x:=a) ζ;obtain⟨f',i',s',t',ks',bs',al'⟩:=a;have hb:f'=7:=hb;subst hb;obtain⟨⟨body,rfl⟩,rfl,rfl⟩:=dR N.q (.inr (.inr rfl));exact(aRp Y hn Z hc).2
  rw[φ hb] at he ⊢;exact I 0 (by omega) he
 rw[φ h46] at he ⊢;by_cases h8:f=8
 ·rw[ξ h8];subst h8;obtain⟨⟨a,rfl⟩,rfl,h12⟩:=vN hc.q;obtain⟨g1,g2⟩:=aDt hn Z hc;exact g2 _ (aKq Y (by decide) (by decide) a _ _ (by rw[θ,θ]) (by rw[θ];omega) g1).2
 rw[φ h8] at he ⊢;by_cases h9:f=9
 ·rw[ξ h9] at he ⊢;subst h9;obtain⟨⟨a,rfl⟩,rfl,h12,hv⟩:=vO hc.q;cases hsh:shC a with
  | true=>
   have e:shC ([a].headD zC)=true:=hsh;rw[ξ e] at he ⊢;have N:=hc.kid (by decide) (x:=a) ζ;cases hfs:al.findSome? fun x=>gH x ([a].headD zC) with
   | none=>rw[hfs] at he;cases he
   | some r=>
    obtain⟨x,hx,u⟩:=Cb hfs;have kx:=hc.alt hx;have u:gH x a=some r:=u;have hm:=fE hx;have hsz:=hc.sz;show SR (n+1) U _ r;unfold gH at u;by_cases e1:x.form=3
    ·rw[ξ e1] at u;cases u;exact(kx.mono (le_succ _)).sr
    rw[φ e1] at u;by_cases e2:x.form=2
    ·rw[ξ e2] at u;by_cases J:a.form=3∧a.n=x.n
     ·rw[ξ J] at u;cases u;exact(kx.mono (le_succ _)).sr
     ·rw[φ J] at u;cases u
    rw[φ e2] at u;cases hg:gvC a with
    | none=>rw[hg] at u;cases u
    | some p=>
     obtain⟨nm,l⟩:=p;rw[hg] at u;dsimp only at u;by_cases J:nm=x.name∧l.length=x.vars.length
     ·rw[ξ J] at u;cases u;obtain⟨g1,g2⟩:=vL hn Z (s:=m30 (.mk 9 i s t [a] [] al)) (by rw[m30,dA,dA];omega) hsz kx N (hv x hx) hg J.2;exact g2 _ (aKq Y (by decide) (by decide) x.body _ _ J.2.symm (by have:=hv x hx;omega) g1).2
     ·rw[φ J] at u;cases u
  | false=>
   have e:¬shC ([a].headD zC)=true:=by rw[show shC ([a].headD zC)=shC a from rfl,hsh];decide
   rw[φ e] at he ⊢;exact I 0 (by decide) he
 rw[φ h9] at he ⊢;by_cases h10:f=10
 ·rw[ξ h10] at he ⊢;by_cases g1:¬shC (ks.headD zC)=true
  ·rw[ξ g1] at he ⊢;exact I 0 (by omega) he
  rw[φ g1] at he ⊢;by_cases g2:¬shC (ks.getD 1 zC)=true
  ·rw[ξ g2] at he ⊢;exact I 1 (by omega) he
  rw[φ g2] at he ⊢;by_cases g3:(ks.headD zC).form=3∧(ks.getD 1 zC).form=3
  ·rw[ξ g3] at he ⊢;exact a0d he
  ·rw[φ g3] at he;cases he
 rw[φ h10] at he;by_cases h11:f=11
 ·rw[ξ h11] at he;cases he
 ·rw[φ h11] at he;cases he
mutual
theorem mU {X:Nat}:∀c:Core,eJ (QL X) c→m30 c≤X*eX c
 | .mk f n s t ks bs al,h=>by
  obtain⟨⟨_,_,_,_,h5,_⟩,h2,h3,h4⟩:=bB.1 h;have u:=x3 ks h2;have I:=x4 bs h3;have J:=x5 al h4;unfold lw at h5;rw[m30,eX,Cg,Cg,Cg,mul_one];omega
theorem x3 {X:Nat}:∀l:List Core,(∀x∈l,eJ (QL X) x)→dA l≤X*bR l
 | [],_=>by rw[dA];exact Ag _
 | c::l,h=>by
  rw[dA,bR,Cg];have:=mU c (h c ζ);have:=x3 l fun x hx=>h x (ω _ hx)
  omega
theorem x4 {X:Nat}:∀l:List Bind,(∀x∈l,eJ (QL X) x.body)→fT l≤X*dI l+((l.map bhd).map fun p=>1+w30 p.1).sum
 | [],_=>by rw[fT];exact Ag _
 | .mk s t c::l,h=>by
  rw[fT,dI,Cg,Am,Am,Bt];have:=mU c (h _ ζ);have:=x4 l fun x hx=>h x (ω _ hx)
  show _≤_+(1+w30 s+_);omega
theorem x5 {X:Nat}:∀l:List Alt,(∀x∈l,eJ (QL X) x.body)→gY l≤X*dW l+((l.map ahd).map fun p=>1+w30 p.1+(p.2.map fun v=>1+w30 v).sum).sum
 | [],_=>by rw[gY];exact Ag _
 | .mk f n s v c::l,h=>by
  rw[gY,dW,Cg,Am,Am,Bt];have:=mU c (h _ ζ);have:=x5 l fun x hx=>h x (ω _ hx)
  show _≤_+(1+w30 s+(v.map fun v=>1+w30 v).sum+_);omega
end
mutual
theorem pC:∀c:Core,tlC c≤eX c
 | .mk f n s t ks bs al=>by
  have u:=aA3 ks;have I:=aA4 bs;have J:=aA5 al;rw[tlC,eX];split<;>omega
theorem aA3:∀l:List Core,jW l≤bR l
 | []=>by rw[jW];exact Ag _
 | c::l=>by rw[jW,bR];have:=pC c;have:=aA3 l;omega
theorem aA4:∀l:List Bind,qL l≤dI l
 | []=>by rw[qL];exact Ag _
 | .mk s t c::l=>by rw[qL,dI];have:=pC c;have:=aA4 l;omega
theorem aA5:∀l:List Alt,pA l≤dW l
 | []=>by rw[pA];exact Ag _
 | .mk f n s v c::l=>by rw[pA,dW];have:=pC c;have:=aA5 l;omega
end
theorem SR.st {n s:Nat}{U:List Str}{c:Core}(h:SR n U s c) (hs:eX c≤6000):ST n U c:=
 ⟨h.q,h.cw,h.ty,le_trans (pC c) hs,by have:=mU c h.q;have:403*eX c≤403*6000:=C4 _ hs;omega⟩
theorem rQ {p q:Prop} [Decidable p] [Decidable q] (h:(bif decide p then decide q else false)=true):p∧q:=by
 by_cases hp:p
 ·rw[Ad hp] at h;exact⟨hp,ψ h⟩
 ·rw[Ae hp] at h;cases h
theorem RowsLe.snoc {r r':List C}(h:CsLe r r'):∀l:List (List C),RowsLe (l++[r]) (l++[r'])
 | []=>.cons h .nil
 | x::l=>.cons (CsLe.refl x) (RowsLe.snoc h l)
def aTo {α:Type}(p:α→Bool):List α→Nat→Int
 | [],_=> -1
 | x::l,i=>if p x=true then(i:Int) else aTo p l (i+1)
theorem aCd {α:Type}(p:α→Bool):∀(l:List α) (i:Nat),(∃(k:Nat) (x:α),aTo p l i=((i+k:Nat):Int)∧l[k]?=some x∧l.find? p=some x)∨(aTo p l i= -1∧l.find? p=none)
 | [],i=>.inr ⟨rfl,rfl⟩
 | x::l,i=>by
  rw[aTo,List.find?_cons];cases h:p x with
  | true=>rw[ξ rfl];exact .inl ⟨0,x,rfl,rfl,rfl⟩
  | false=>
   rw[φ Av];rcases aCd p l (i+1) with⟨k,y,h1,h2,h3⟩ | h
   ·exact .inl ⟨k+1,y,by rw[h1];congr 1;omega,h2,h3⟩
   ·exact .inr h
theorem aZq (b:Bind) (f n:Int) (s:Str) (t:Ty) (ks:List Core) (bs:List Bind) (al:List Alt):aU Tryz.prog 105 ([.pa (b8 b)]++[R.vp 3 0].map V.one) [(3,.var 37 (aW (.mk f n s t ks bs al)))] (B (decide (b.name=s))) [(3,.var 37 (aW (.mk f n s t ks bs al)))]:=by
 refine bQ (n:=9) tok Tryz.func105 rfl rfl rfl ?_;exact sgh [(0,.id 12)] rfl (sg rfl (aE rtT))
theorem aQp (l:List Bind) (hl:l.length≤1000000000) (f n:Int) (s:Str) (t:Ty) (ks:List Core) (bs:List Bind) (al:List Alt):aU Tryz.prog 104 [.one (.c (.sl 15 (l.map b8))),.one (.clo 105 [.vp 3 0])] [(3,.var 37 (aW (.mk f n s t ks bs al)))] (I .i64 (aTo (fun b:Bind=>decide (b.name=s)) l 0)) [(3,.var 37 (aW (.mk f n s t ks bs al)))]:=by
 have J:(l.map b8).length=l.length:=θ _;refine bQ (n:=19) tok Tryz.func104 rfl rfl rfl ?_;refine sg rfl (a8 (sg rfl (aC (aK (fun i:Nat=>mk [(0,.one (.c (.sl 15 (l.map b8)))),(1,.one (.clo 105 [.vp 3 0])),(7,I .i64 ((l.map b8).length:Int)),(8,I .i64 i)] [(3,.var 37 (aW (.mk f n s t ks bs al)))]) (fun i=>i≤l.length∧aTo (fun b:Bind=>decide (b.name=s)) l 0=aTo (fun b:Bind=>decide (b.name=s)) (l.drop i) i) (fun i=>l.length-i) 0 ⟨Ag _,rfl⟩ sl ?_))));intro i ⟨hi,hid⟩;refine sg rfl (a8 (aA rfl (fun hb=>?_) (fun hb=>?_)))
 ·have u:=ltD hb J;obtain⟨b,N⟩:=aJ u;have Z:=bW b8 N;have hc:=aZq b f n s t ks bs al;have O:l.drop i=b::l.drop (i+1):=by rw[Bu u,(Aa.1 N).2]
  rw[O,aTo] at hid;refine aD (a8 (aC (sg rfl (skh 5 [(3,.row i (b8 b))] rfl (kv (args:=[.pa (b8 b)]) hc ?_)))));refine az (aA rfl (fun hb=>?_) (fun hb=>?_))
  ·rw[ξ hb] at hid;rw[hid];exact sg rfl (aE rtT)
  ·rw[φ (by rw[show decide (b.name=s)=false from hb];exact Av)] at hid;exact aD (ag [] rfl ⟨i+1,⟨u,hid⟩,by dsimp only;omega,sl⟩)
 have Y:=geD hb J hi;subst Y;rw[C7,aTo] at hid;rw[hid];exact aL (sg rfl (aE rtT))
theorem aZb (m:Mod) (hm:m.binds.length≤1000000000) (f n:Int) (s:Str) (t:Ty) (ks:List Core) (bs:List Bind) (al:List Alt):
  aU Tryz.prog 68 [.pa (jU m),.pa (aB (.mk f n s t ks bs al))] [] (dM (match m.binds.find? fun b=>decide (b.name=s) with | some b=>(b.body,0) | none=>(zC,51))) []:=by
 have u:=aQp m.binds hm f n s t ks bs al;rcases aCd (fun b:Bind=>decide (b.name=s)) m.binds 0 with⟨k,b,h1,h2,h3⟩ | ⟨h1,h3⟩
 ·rw[h1,Bc] at u;rw[h3];have hb':=bW b8 h2;have I:=(Aa.1 h2).1
  refine bQ (n:=22) tok Tryz.func68 rfl rfl rfl ?_;refine sg rfl (sk 4 rfl (kc u ?_));exact kz 1 rfl (a8 (sg rfl (aA rfl (fun hb=>absurd (ψ hb) (by omega)) (fun _=>aD (sgh [(4,.row k (b8 b))] rfl (aE (fM trw)))))))
 ·rw[h1] at u;rw[h3];refine bQ (n:=22) tok Tryz.func68 rfl rfl rfl ?_;refine sg rfl (sk 4 rfl (kc u ?_));exact kz 1 rfl (a8 (sg rfl (aA rfl (fun _=>sg rfl (aE (fM trw))) (fun hb=>absurd hb (by decide)))))
section
variable {n:Nat}{U:List Str}
theorem a39 (I:dJ 540000000000) (hn:n≤99) (J:U.length≤480000) (m:Mod) (i:Int) (s:Str) (t:Ty) (body b:Core) (i':Int) (s':Str) (t':Ty) (h:ST n U (.mk 4 i s t [.mk 5 i' s' t' [body] [] [],b] [] [])):
  aU Tryz.prog 69 [.pa (jU m),.pa (aB (.mk 4 i s t [.mk 5 i' s' t' [body] [] [],b] [] []))] [] (dM (dH (m30 body) body s' b,0)) []:=by
 have N:=h.kid (by decide) (x:=.mk 5 i' s' t' [body] [] []) ζ;have O:=h.kid (by decide) (x:=b) (ω _ ζ);have u:=N.kid (by decide) (x:=body) ζ;have Y:=(aXf I hn J u O (nm:=s') (s:=m30 body+m30 b) (le_refl _)).1.imp;refine bQ (n:=54) tok Tryz.func69 rfl rfl rfl ?_;refine sg rfl (sgh [(2,.row 0 (aB (.mk 5 i' s' t' [body] [] [])))] rfl (a8 (aC (a8 (agF 4 [] rfl rfl rfl (aA rfl (fun _=>skh 10 [(2,.row 0 (aB body)),(8,.row 1 (aB b))] rfl (kc Y ?_)) (fun hb=>absurd hb (by simp[Core.form]))))))));exact kz 2 rfl (aE (fM trw))
theorem a38 (u:dJ 540000000000) (hn:n≤99) (I:U.length≤480000) (m:Mod) (i:Int) (s:Str) (t:Ty) (body:Core) (i':Int) (s':Str) (t':Ty) (h:ST n U (.mk 6 i s t [.mk 7 i' s' t' [body] [] []] [] [])):
  aU Tryz.prog 69 [.pa (jU m),.pa (aB (.mk 6 i s t [.mk 7 i' s' t' [body] [] []] [] []))] [] (dM (sTR (m30 body) body s' t,0)) []:=by
 have J:=(aRp u hn I h (w:=0)).1.imp;refine bQ (n:=54) tok Tryz.func69 rfl rfl rfl ?_;refine sg rfl (sgh [(2,.row 0 (aB (.mk 7 i' s' t' [body] [] [])))] rfl (a8 (aC (a8 (agF 4 [] rfl rfl rfl (aA rfl (fun hb=>absurd hb (by simp[Core.form])) (fun _=>a8 (agF 4 [] rfl rfl rfl (aA rfl (fun _=>skh 8 [(2,.row 0 (aB body))] rfl (kc J ?_)) (fun hb=>absurd hb (by simp[Core.form])))))))))));exact kz 2 rfl (aE (fM trw))
theorem a36 (m:Mod) (f i:Int) (s:Str) (t:Ty) (a:Core) (ks:List Core) (bs:List Bind) (al:List Alt) (p:CE) (h1:¬(f=4∧a.form=5)) (h2:¬(f=6∧a.form=7))
  (hk:aU Tryz.prog 107 [.pa (jU m),.pa (aB (.mk f i s t (a::ks) bs al)),I .i64 (0:Nat)] [] (dM p) []):
  aU Tryz.prog 69 [.pa (jU m),.pa (aB (.mk f i s t (a::ks) bs al))] [] (dM p) []:=by
 refine bQ (n:=54) tok Tryz.func69 rfl rfl rfl ?_;refine sg rfl (sgh [(2,.row 0 (aB a))] rfl (a8 (AWp.cut (mk [(2,.one (.vp 2 0)),(3,.one (.vp 3 0)),(4,.one (.vp 4 0))] [(2,.var 82 ((jU m).map .c)),(3,.var 37 (aW (.mk f i s t (a::ks) bs al))),(4,.var 37 bO)]) ?_ ?_)))
 ·exact aC (a8 (agF 4 [] rfl rfl rfl (aA rfl (fun hb=>(h1 (rQ hb)).elim) (fun _=>a8 (agF 4 [] rfl rfl rfl (aA rfl (fun hb=>(h2 (rQ hb)).elim) (fun _=>aD sl)))))))
 refine sk 2 rfl (kc hk ?_);exact kz 4 rfl (aE (fM trw))
theorem a6c (hI:dJ 540000000000) (hn:n≤99) (hU:U.length≤480000) (m:Mod) (i:Int) (s:Str) (t:Ty) (a:Core) (bs:List Bind) (h:ST n U (.mk 8 i s t [a] bs [])):
  aU Tryz.prog 70 [.pa (jU m),.pa (aB (.mk 8 i s t [a] bs []))] [] (dM (aAv a (bs.map Bind.name) (bs.map (letB bs)),0)) []:=by
 have h12:=(vN h.q).2.2
 have Y:=(aKq hI (by decide) (by decide) a (bs.map Bind.name) (bs.map (letB bs)) (by rw[θ,θ]) (by rw[θ];omega) (aDt hn hU h).1).1
 have J:(aQ bs).length=bs.length:=by rw[bH,θ]
 refine bQ (n:=39) tok Tryz.func70 rfl rfl rfl ?_;refine sg rfl (sg rfl (sg rfl (AWp.sub (Sub.own (t:=6) (id:=720) 9 1 rfl rfl) ?_)));refine AWp.sub (Sub.own (t:=7) (id:=721) 37 10 rfl rfl) ?_;refine a8 (sg rfl (aC (aK (fun k:Nat=>mk [(3,.one (.vp 3 0)),(4,.one (.vp 4 0)),(6,.one (.hs 720 0 ((bs.take k).map Bind.name).length ((bs.take k).map Bind.name).length)),(7,.one (.hs 721 0 ((bs.take k).map (letB bs)).length ((bs.take k).map (letB bs)).length)),(11,.one (.c (.sl 15 (aQ bs)))),(12,I .i64 ((aQ bs).length:Int)),(13,I .i64 k)] [(3,.var 37 (aW (.mk 8 i s t [a] bs []))),(4,.var 37 bO),(720,.arr 9 1 (((bs.take k).map Bind.name).map b6) 0),(721,.arr 37 10 (((bs.take k).map (letB bs)).map aB) 0)]) (fun k=>k≤bs.length) (fun k=>bs.length-k) 0 (Ag _) sl ?_)));intro k hk;refine sg rfl (a8 (aA rfl (fun hb=>?_) (fun hb=>?_)))
 ·have O:=ltD hb J;obtain⟨b,u⟩:=aJ O;have hbi':=bX u;have e1:(bs.take (k+1)).map Bind.name=(bs.take k).map Bind.name++[b.name]:=by rw[Bh,u,At];rfl
  have e2:(bs.take (k+1)).map (letB bs)=(bs.take k).map (letB bs)++[letB bs b]:=by rw[Bh,u,At];rfl
  have hl1:((bs.take k).map Bind.name).length≤12:=by rw[θ,Ar];omega
  have hl2:((bs.take k).map (letB bs)).length≤12:=by rw[θ,Ar];omega
  have hx1:(((bs.take k).map Bind.name).map b6).length=((bs.take k).map Bind.name).length:=θ _;have hx2:(((bs.take k).map (letB bs)).map aB).length=((bs.take k).map (letB bs)).length:=θ _;generalize (bs.take k).map Bind.name=N at *;generalize (bs.take k).map (letB bs)=L at *;refine aD (a8 (aC (sgh [(0,.row k (b8 b))] rfl (sgh [(3,.all)] rfl (ag [(5,.all),(7,.all)] rfl (AWp.sub (Sub.arrWeak (x:=721) rfl (RowsLe.snoc (r':=aB (letB bs b)) ?_ (L.map aB))) ?_))))))
  ·repeat (first | exact .nil | apply Go.AM.CsLe.cons .refl | apply Go.AM.CsLe.cons .nl)
  refine ag [] rfl ⟨k+1,O,by dsimp only;omega,?_⟩;dsimp only;rw[e1,e2];exact sl
 have Z:=geD hb J hk;subst Z;rw[Al];refine aL (AWp.sub (Sub.freeze (id:=720) rfl) ?_);refine AWp.sub (Sub.freeze (id:=721) rfl) ?_;refine skh 6 [(2,.row 0 (aB a))] rfl (kc Y ?_);exact kz 2 rfl (aE (fM trw))
end
noncomputable def tkP (a:Alt) (c:Core):Core×Bool:=
 if a.form=3 then(a.body,true)
 else if a.form=2 then(a.body,decide (c.form=3)&&decide (c.n=a.n))
 else match gvC c with
  | some (s,l)=>if s=a.name∧l.length=a.vars.length then(aAv a.body a.vars l,true) else(zC,false)
  | none=>(zC,false)
theorem aA9 (a:Alt) (c:Core):gH a c=if(tkP a c).2=true then some (tkP a c).1 else none:=by
 unfold gH tkP;by_cases h3:a.form=3
 ·rw[ξ h3,ξ h3];rfl
 rw[φ h3,φ h3];by_cases h2:a.form=2
 ·rw[ξ h2,ξ h2];by_cases h:c.form=3∧c.n=a.n
  ·rw[ξ h,ξ (by simp[h.1,h.2])]
  ·rw[φ h,φ (by simpa using h)]
 rw[φ h2,φ h2];cases gvC c with
 | none=>rfl
 | some p=>
  obtain⟨s,l⟩:=p;dsimp only;by_cases h:s=a.name∧l.length=a.vars.length
  ·simp[ξ h]
  ·simp[φ h]
theorem aGk {f i:Int}{s:Str}{vs:List Str}{body:Core}{u I:Int}{cs:Str}{J:Ty}{ks:List Core}{bs:List Bind}{al:List Alt}:tkP (.mk f i s vs body) (.mk u I cs J ks bs al)=
  if f=3 then(body,true)
  else if f=2 then(body,decide (u=3)&&decide (I=i))
  else match gvC (.mk u I cs J ks bs al) with
   | some (s1,l)=>if s1=s∧l.length=vs.length then(aAv body vs l,true) else(zC,false)
   | none=>(zC,false):=rfl
theorem aZg (a:Alt) (c:Core) (hl:aY c≤570000000000) (O:aU Tryz.prog 67 [.pa (aB c)] [] (aKk (gvC c)) [])
  (hp:∀s l,gvC c=some (s,l)→l.length=a.vars.length→aU Tryz.prog 108 [.pa (aB a.body),aV a.vars,.one (.c (.sl 10 (l.map aB)))] [] (.pa (aB (aAv a.body a.vars l))) []):
  aU Tryz.prog 109 [.pa (c7 a),.pa (aB c)] [] (.tup [.pa (aB (tkP a c).1),B (tkP a c).2]) []:=by
 obtain⟨f,i,s,vs,body⟩:=a;obtain⟨u,J,cs,Y,ks,bs,al⟩:=c;rw[aGk];refine bQ (n:=58) tok Tryz.func109 rfl rfl rfl ?_;refine sg rfl (a8 (sg rfl ?_));by_cases h3:f=3
 ·subst h3;rw[ξ rfl];exact aC (sg rfl (aA rfl (fun _=>sg rfl (aE (fM trw))) (fun hb=>by simp[Alt.form] at hb)))
 rw[φ h3];by_cases h2:f=2
 ·subst h2;rw[ξ rfl];refine aC (sg rfl (aA rfl (fun hb=>by simp[Alt.form] at hb) (fun _=>sg rfl (aA rfl (fun _=>?_) (fun hb=>by simp[Alt.form] at hb)))));by_cases hc:u=3
  ·have hd:decide (u=3)=true:=Ad hc;have e:(decide (u=3)&&decide (J=i))=decide (J=i):=by rw[hd];rfl
   rw[e];exact sgh [(5,.bv true),(11,.bv true)] rfl (aE (fM trw))
  ·have hd:decide (u=3)=false:=Ae hc;have e:(decide (u=3)&&decide (J=i))=false:=by rw[hd];rfl
   rw[e];exact sgh [(5,.bv false),(11,.bv false)] rfl (aE (fM trw))
 rw[φ h2];refine AWp.cut (mk [(2,.one (.vp 2 0)),(3,.one (.vp 3 0)),(4,.one (.vp 4 0))] [(2,.var 88 ((c7 (.mk f i s vs body)).map .c)),(3,.var 37 (aW (.mk u J cs Y ks bs al))),(4,.var 37 bO)]) ?_ ?_
 ·exact aC (sg rfl (aA rfl (fun hb=>absurd (ψ hb) h3) (fun _=>sg rfl (aA rfl (fun hb=>absurd (ψ hb) h2) (fun _=>aD sl)))))
 cases N:gvC (.mk u J cs Y ks bs al) with
 | none=>
  rw[N] at O;exact sgh [(1,.pc (aKk none))] rfl (a8 (a8 (agF 3 [] rfl rfl rfl (aA rfl (fun _=>sg rfl (aE (fM trw))) (fun hb=>by simp[Alt.form] at hb)))))
 | some p=>
  obtain⟨s1,I⟩:=p;rw[N] at O;have ab:(I.map aB).length=I.length:=θ _;have ac:(vs.map b6).length=vs.length:=θ _;dsimp only;refine sgh [(1,.pc (aKk (some (s1,I))))] rfl (a8 (a8 (agF 3 [] rfl rfl rfl (aA rfl (fun hb=>?_) (fun hb=>?_)))))
  ·have hn:¬(s1=s∧I.length=vs.length):=by
    rintro⟨rfl,h⟩;simp[h,Alt.name,Alt.vars] at hb
   rw[φ hn];exact sg rfl (aE (fM trw))
  ·have Z:s1=s∧I.length=vs.length:=by
    simp at hb;have h2:(I.length:Int)=(vs.length:Int):=hb.2;exact⟨hb.1,by omega⟩
   rw[ξ Z];have aa:=hp s1 I N Z.2;refine aD (sk 5 rfl (kc aa ?_));exact kz 2 rfl (aE (fM trw))
theorem aZt (m:Mod) (i:Int) (s:Str) (t:Ty) (a:Core) (al:List Alt) (p:CE) (hl:al.length≤12) (N:aU Tryz.prog 29 [.pa (aB a)] [] (B (shC a)) [])
  (hk:shC a=false→aU Tryz.prog 107 [.pa (jU m),.pa (aB (.mk 9 i s t [a] [] al)),I .i64 (0:Nat)] [] (dM p) [])
  (O:∀x∈al,aU Tryz.prog 109 [.pa (c7 x),.pa (aB a)] [] (.tup [.pa (aB (tkP x a).1),B (tkP x a).2]) []):
  aU Tryz.prog 71 [.pa (jU m),.pa (aB (.mk 9 i s t [a] [] al))] [] (dM (if shC a=true then(match al.findSome? fun x=>gH x a with | some r=>(r,0) | none=>(zC,52)) else p)) []:=by
 have J:(bV al).length=al.length:=by rw[bF,θ]
 refine bQ (n:=41) tok Tryz.func71 rfl rfl rfl ?_;refine sg rfl (a8 (skh 4 [(2,.row 0 (aB a))] rfl (kc N ?_)));refine kz 1 rfl ?_;cases hs:shC a with
 | false=>
  have hk:=hk hs;rw[φ Av];refine aA rfl (fun _=>sk 2 rfl (kc hk ?_)) nofun;exact kz 4 rfl (aE (fM trw))
 | true=>
  rw[ξ rfl];refine aA rfl nofun (fun _=>aD (a8 (sg rfl (aC (aK (fun k:Nat=>mk [(3,.one (.vp 3 0)),(4,.one (.vp 4 0)),(22,.one (.c (.sl 14 (bV al)))),(23,I .i64 ((bV al).length:Int)),(24,I .i64 k)] [(3,.var 37 (aW (.mk 9 i s t [a] [] al))),(4,.var 37 bO)]) (fun k=>k≤al.length∧(al.findSome? fun x=>gH x a)=(al.drop k).findSome? fun x=>gH x a) (fun k=>al.length-k) 0 ⟨Ag _,rfl⟩ sl ?_)))));intro k ⟨hi,hid⟩;refine sg rfl (a8 (aA rfl (fun hb=>?_) (fun hb=>?_)))
  ·have u:=ltD hb J;obtain⟨x,hx⟩:=aJ u;have hx':(bV al)[k]?=some (c7 x):=by rw[bF];exact bW c7 hx
   have ht:=O x (η hx);have Y:al.drop k=x::al.drop (k+1):=by rw[Bu u,(Aa.1 hx).2]
   rw[Y,List.findSome?_cons,aA9] at hid;generalize tkP x a=q at *;obtain⟨qc,qb⟩:=q;refine aD (a8 (aC (sgh [(0,.row k (c7 x))] rfl (skh 5 [(3,.row 0 (aB a))] rfl (kc ht ?_)))));refine kz 6 rfl (sg rfl ?_);cases qb with
   | true=>
    rw[ξ rfl] at hid;dsimp only at hid;rw[hid];exact aA rfl (fun _=>sg rfl (aE (fM trw))) nofun
   | false=>
    rw[φ Av] at hid;dsimp only at hid;exact aA rfl nofun (fun _=>aD (ag [] rfl ⟨k+1,⟨u,hid⟩,by dsimp only;omega,sl⟩))
  have Z:=geD hb J hi;subst Z;rw[C7,List.findSome?_nil] at hid;rw[hid];exact aL (sg rfl (aE (fM trw)))
theorem aUl (s:Str) (a b:Int):aU Tryz.prog 89 [Go.AM.T s,I .i64 a,I .i64 b] [] (dM (jG s a b)) []:=by
 have u:=aCp (decide (a=b));have J:=aCp (decide (a<b));unfold jG;refine bQ (n:=48) tok Tryz.func89 rfl rfl rfl ?_;refine sg rfl (sg rfl (a8 (sg rfl (aC (sg rfl (aA rfl (fun hb=>?_) (fun hb=>?_)))))))
 ·have h:s=aAw:=ψ hb;rw[ξ h];refine aI mixed (ak 2 [] rfl (kw (IntKind.i64.wrap (a+b)) rfl ?_));exact kz 1 rfl (sg rfl (aE (fM trw)))
 have h1:¬s=aAw:=χ hb;rw[φ h1];refine sg rfl (aA rfl (fun hb=>?_) (fun hb=>?_))
 ·have h:s=aVy:=ψ hb;rw[ξ h];refine aI mixed (ak 2 [] rfl (kw (IntKind.i64.wrap (a-b)) rfl ?_));exact kz 1 rfl (sg rfl (aE (fM trw)))
 have h2:¬s=aVy:=χ hb;rw[φ h2];refine sg rfl (aA rfl (fun hb=>?_) (fun hb=>?_))
 ·have h:s=aTb:=ψ hb;rw[ξ h];refine aI mixed (ak 2 [] rfl (kw (IntKind.i64.wrap (a*b)) rfl ?_));exact kz 1 rfl (sg rfl (aE (fM trw)))
 have h3:¬s=aTb:=χ hb;rw[φ h3];refine sg rfl (aA rfl (fun hb=>?_) (fun hb=>?_))
 ·have h:s=aLa:=ψ hb;rw[ξ h];refine a8 (sg rfl (aA rfl (fun hb=>?_) (fun hb=>?_)))
  ·have h0:b=0:=ψ hb;rw[ξ h0];exact sg rfl (aE (fM trw))
  have h0:¬b=0:=χ hb;rw[φ h0];refine aD (aI mixed (ak 2 [] rfl (kw (op:=.quo) (a:=a) (b:=b) (IntKind.i64.wrap (a.tdiv b)) (φ h0) ?_)));exact kz 1 rfl (sg rfl (aE (fM trw)))
 have h4:¬s=aLa:=χ hb;rw[φ h4];refine sg rfl (aA rfl (fun hb=>?_) (fun hb=>?_))
 ·have h:s=nEq:=ψ hb;rw[ξ h];exact sgh [(3,.pc (.pa (aB (aK5 (decide (a=b))))))] rfl (aE (fM trw))
 have h5:¬s=nEq:=χ hb;rw[φ h5];refine sg rfl (aA rfl (fun hb=>?_) (fun hb=>?_))
 ·have h:s=nLt:=ψ hb;rw[ξ h];exact sgh [(3,.pc (.pa (aB (aK5 (decide (a<b))))))] rfl (aE (fM trw))
 have h6:¬s=nLt:=χ hb;rw[φ h6];exact sg rfl (aE (fM trw))
theorem aQf {X:Nat}(a:Alt) (c:Core) (hf:a.form=1∨a.form=2∨a.form=3) (Z:eJ (QL X) c) (hl:aY c≤500000000000) (Y:a.vars.length≤1000000000)
  (hp:∀s l,gvC c=some (s,l)→l.length=a.vars.length→aU Tryz.prog 36 [.pa (aB a.body),aV a.vars,.one (.c (.sl 10 (l.map aB)))] [] (.pa (aB (aAv a.body a.vars l))) []):
  ∃z,(¬(tkP a c).2=true∨z=(tkP a c).1)∧aU Tryz.prog 88 [.pa (c7 a),.pa (aB c)] [] (.tup [.pa (aB z),B (tkP a c).2]) []:=by
 have hg:=aC2 (aY c) c (le_refl _) Z hl;have J:=aMu c Z;have hrl:=aEq c Z;obtain⟨f,i,s,vs,body⟩:=a;have hf:f=1∨f=2∨f=3:=hf;have Y:vs.length≤1000000000:=Y;obtain⟨u,I,cs,N,ks,bs,al⟩:=c;rw[aGk];generalize rgv (.mk u I cs N ks bs al)=r at *;obtain⟨r1,O,r3⟩:=r;dsimp only at J hrl;have hkl:(O.map aB).length=O.length:=θ _;by_cases h3:f=3
 ·subst h3;rw[ξ rfl];refine⟨body,.inr rfl,?_⟩;refine bQ (n:=60) tok Tryz.func88 rfl rfl rfl ?_;refine sg rfl (sk 1 rfl (kc hg ?_));exact kz 7 rfl (a8 (sg rfl (aC (sg rfl (aA rfl (fun hb=>by simp[Alt.form] at hb) (fun _=>sg rfl (aA rfl (fun hb=>by simp[Alt.form] at hb) (fun _=>aD (sg rfl (aE (fM trw)))))))))))
 rw[φ h3];by_cases h2:f=2
 ·subst h2;rw[ξ rfl];refine⟨body,.inr rfl,?_⟩;refine bQ (n:=60) tok Tryz.func88 rfl rfl rfl ?_;refine sg rfl (sk 1 rfl (kc hg ?_));refine kz 7 rfl (a8 (sg rfl (aC (sg rfl (aA rfl (fun hb=>by simp[Alt.form] at hb) (fun _=>sg rfl (aA rfl (fun _=>?_) (fun hb=>by simp[Alt.form] at hb))))))));by_cases hc:u=3
  ·have hd:decide (u=3)=true:=Ad hc;have e:(decide (u=3)&&decide (I=i))=decide (I=i):=by rw[hd];rfl
   rw[e];exact sgh [(5,.bv true),(11,.bv true)] rfl (aE (fM trw))
  ·have hd:decide (u=3)=false:=Ae hc;have e:(decide (u=3)&&decide (I=i))=false:=by rw[hd];rfl
   rw[e];exact sgh [(5,.bv false),(11,.bv false)] rfl (aE (fM trw))
 rw[φ h2];obtain rfl:f=1:=by omega
 refine⟨(tkP (.mk 1 i s vs body) (.mk u I cs N ks bs al)).1,.inr rfl,?_⟩;show aU _ _ _ _ (.tup [.pa (aB (tkP (.mk 1 i s vs body) (.mk u I cs N ks bs al)).1),B (tkP (.mk 1 i s vs body) (.mk u I cs N ks bs al)).2]) _;have hlv:(vs.map b6).length=vs.length:=θ _;refine bQ (n:=60) tok Tryz.func88 rfl rfl rfl ?_;refine sg rfl (sk 1 rfl (kc hg ?_));refine kz 7 rfl (a8 (sg rfl (aC (sg rfl (aA rfl (fun _=>a8 (a8 (agF 2 [] rfl rfl rfl (aA rfl (fun hb=>?_) (fun hb=>?_))))) (fun hb=>by simp[Alt.form] at hb))))))
 ·have hy:r3=true∧r1=s∧O.length=vs.length:=by
   cases r3 with
   | false=>exfalso;simp at hb
   | true=>
    simp at hb;have h2:(O.length:Int)=(vs.length:Int):=hb.2;exact⟨rfl,hb.1,by omega⟩
  obtain⟨rfl,rfl,hlen⟩:=hy;rw[ξ rfl] at J;have e:tkP (.mk 1 i r1 vs body) (.mk u I cs N ks bs al)=(aAv body vs O,true):=by
   rw[aGk,φ h3,φ h2,J];dsimp only;rw[ξ ⟨rfl,hlen⟩]
  rw[e];have hpt:=hp r1 O J hlen;refine AWp.sub (Sub.freeze (id:=900) rfl) ?_;refine sk 5 rfl (kc hpt ?_);exact kz 2 rfl (aE (fM trw))
 ·have hn:tkP (.mk 1 i s vs body) (.mk u I cs N ks bs al)=(zC,false):=by
   rw[aGk,φ h3,φ h2,J];cases r3 with
   | false=>rfl
   | true=>
    rw[ξ rfl];dsimp only;rw[φ];rintro⟨rfl,h⟩;simp[h,Alt.name,Alt.vars] at hb
  rw[hn];exact aD (sg rfl (aE (fM trw)))
def aF (f:Int):Prop:=f=1∨f=2∨f=3
mutual
def tF:Ty→Bool
 | .mk f _ _ a=>!decide (f=1)&&tFs a
def tFs:List Ty→Bool
 | []=>true
 | t::l=>tF t&&tFs l
end
theorem aMe:∀{l:List Ty},tFs l=true↔∀x∈l,tF x=true
 | []=>by simp[tFs]
 | t::l=>by rw[tFs,Aj,aMe (l:=l)];simp
theorem lZ {f n:Int}{s:Str}{a:List Ty}:tF (.mk f n s a)=true↔¬f=1∧∀x∈a,tF x=true:=by rw[tF,Aj,aMe];simp
theorem aXo (z:Str):tF (vT z)=true:=by unfold vT;exact lZ.2 ⟨by decide,by simp⟩
mutual
theorem aMf:∀(t:Ty) (ps:List (Str×Ty)),tF t=true→(∀p∈ps,tF p.2=true)→tF (iD t ps)=true
 | .mk f n s a,ps,h,hp=>by
  obtain⟨h1,h2⟩:=lZ.1 h;rw[iD];by_cases I:f=2
  ·rw[ξ I];cases J:ps.find? (fun p=>decide (p.1=s)) with
   | none=>exact h
   | some p=>exact hp p (Bp J)
  rw[φ I];by_cases N:f=4
  ·rw[ξ N];exact lZ.2 ⟨by decide,yB a ps h2 hp⟩
  rw[φ N];by_cases O:f=5
  ·rw[ξ O];refine lZ.2 ⟨by decide,yB a _ h2 fun p u=>?_⟩;unfold unP at u;split at u
   ·rcases τ.1 u with u | u
    ·exact hp p ((C1.1 u).1)
    ·rw[ε.1 u];exact aXo _
   ·exact hp p ((C1.1 u).1)
  ·rw[φ O];exact h
theorem yB:∀(l:List Ty) (ps:List (Str×Ty)),(∀x∈l,tF x=true)→(∀p∈ps,tF p.2=true)→∀x∈fO l ps,tF x=true
 | [],ps,_,_,x,hx=>by rw[fO] at hx;cases hx
 | t::l,ps,h,hp,x,hx=>by
  rw[fO] at hx;rcases Ap.1 hx with rfl | hx
  ·exact aMf t ps (h t ζ) hp
  ·exact yB l ps (fun y Y=>h y (ω _ Y)) hp x hx
end
structure nA (f n:Int) (t:Ty):Prop where
 f:i64 f
 n:i64 n
 t:tF t=true
mutual
def qA:Core→Prop
 | .mk f n _ t ks bs al=>nA f n t∧qAs ks∧qAb bs∧qAa al
def qAs:List Core→Prop
 | []=>True
 | c::l=>qA c∧qAs l
def qAb:List Bind→Prop
 | []=>True
 | .mk _ t c::l=>(tF t=true∧qA c)∧qAb l
def qAa:List Alt→Prop
 | []=>True
 | .mk f n _ _ c::l=>(aF f∧i64 n∧qA c)∧qAa l
end
theorem aNj:∀{l:List Core},qAs l↔∀x∈l,qA x
 | []=>by simp[qAs]
 | c::l=>by rw[qAs,aNj (l:=l)];simp
theorem aNk:∀{l:List Bind},qAb l↔∀x∈l,tF x.ty=true∧qA x.body
 | []=>by simp[qAb]
 | .mk s t c::l=>by rw[qAb,aNk (l:=l)];simp[Bind.body,Bind.ty]
theorem aNl:∀{l:List Alt},qAa l↔∀x∈l,aF x.form∧i64 x.n∧qA x.body
 | []=>by simp[qAa]
 | .mk f n s v c::l=>by rw[qAa,aNl (l:=l)];simp[Alt.body,Alt.form,Alt.n]
theorem i7 {f n:Int}{s:Str}{t:Ty}{ks:List Core}{bs:List Bind}{al:List Alt}:qA (.mk f n s t ks bs al)↔nA f n t∧(∀x∈ks,qA x)∧(∀x∈bs,tF x.ty=true∧qA x.body)∧∀x∈al,aF x.form∧i64 x.n∧qA x.body:=by
 rw[qA,aNj,aNk,aNl]
theorem aHb {ts:Ty→Ty}{sb:Core→Core}{c:Core}(h:qA c) (ht:∀t,tF t=true→tF (ts t)=true) (hs:∀x,qA x→qA (sb x)):qA (gE ts sb c):=by
 obtain⟨f,n,s,t,ks,bs,al⟩:=c;obtain⟨h0,h1,h2,h3⟩:=i7.1 h;rw[gE];refine i7.2 ⟨⟨h0.f,h0.n,ht t h0.t⟩,fun x hx=>?_,fun x hx=>?_,fun x hx=>?_⟩
 ·obtain⟨y,u,rfl⟩:=Af.1 hx;exact hs y (h1 y u)
 ·obtain⟨y,u,rfl⟩:=Af.1 hx;exact⟨ht _ (h2 y u).1,hs _ (h2 y u).2⟩
 ·obtain⟨y,u,rfl⟩:=Af.1 hx;exact⟨(h3 y u).1,(h3 y u).2.1,hs _ (h3 y u).2.2⟩
theorem aS2:∀(k:Nat) (c:Core) (a:Str) (u:Ty),qA c→tF u=true→qA (sTR k c a u)
 | 0,c,a,u,h,_=>by rw[sTR];exact h
 | k+1,.mk f n s t ks bs al,a,u,h,hu=>by
  have hs:=fun x (hx:qA x)=>aS2 k x a u hx hu
  have ht:=fun t (h:tF t=true)=>aMf t [(a,u)] h fun p hp=>by rw[ε.1 hp];exact hu
  obtain⟨h0,h1,h2,h3⟩:=i7.1 h;rw[sTR];split
  ·exact h
  ·split
   ·refine aHb (i7.2 ⟨h0,fun x hx=>?_,h2,h3⟩) ht hs;obtain⟨y,I,rfl⟩:=Af.1 hx;exact aS2 k y _ _ (h1 y I) (aXo _)
   ·exact aHb h ht hs
theorem eG {n:Int}(h1: -1000≤n) (h2:n≤1000):i64 n:=by unfold i64;omega
theorem a15 (z:Str):qA (vC z):=i7.2 ⟨⟨eG (by decide) (by decide),eG (by decide) (by decide),rfl⟩,fun x hx=>(by cases hx),fun x hx=>(by cases hx),fun x hx=>(by cases hx)⟩
theorem aNn {sb:Core→Str→Core→Core}(hs:∀p n z,qA p→qA z→qA (sb p n z)) {far:List Str}:∀(ns:List Str) (st:List Str×List Core×List Str),(∀p∈st.2.1,qA p)→∀p∈(jB sb far ns st).2.1,qA p
 | [],st,h=>h
 | n::ns,st,h=>by
  refine aNn hs ns (dS sb far st n) fun p hp=>?_
  unfold dS at hp;split at hp
  ·obtain⟨q,u,rfl⟩:=Af.1 hp;exact hs q n _ (h q u) (a15 _)
  ·exact h p hp
theorem aNm {sb:Core→Str→Core→Core}(hs:∀p n z,qA p→qA z→qA (sb p n z)) {s:Str}{b:Core}(hb:qA b) {ns:List Str}{ps:List Core}(hp:∀p∈ps,qA p):∀p∈(cE sb s b ns ps).2,qA p:=by
 intro p h;unfold cE at h;split at h
 ·obtain⟨q,u,rfl⟩:=Af.1 h;exact hs q s b (aNn hs ns _ hp q u) hb
 ·exact hp p h
theorem aX7 {sb:Core→Str→Core→Core}(hs:∀p n z,qA p→qA z→qA (sb p n z)) {s:Str}{b c:Core}(hb:qA b) (h:qA c):qA (oL sb s b c):=by
 obtain⟨f,n,nm,t,ks,bs,al⟩:=c;obtain⟨h0,h1,h2,h3⟩:=i7.1 h;rw[oL];unfold zNm zKs zBs;have u:=aNm hs (s:=s) hb (ns:=gvN f nm bs) (ps:=ks++bs.map Bind.body) fun p hp=>by
  rcases τ.1 hp with hp | hp
  ·exact h1 p hp
  ·obtain⟨y,I,rfl⟩:=Af.1 hp;exact(h2 y I).2
 generalize cE sb s b (gvN f nm bs) (ks++bs.map Bind.body)=r at u ⊢;refine i7.2 ⟨h0,fun x hx=>u x (Bb hx),fun x hx=>⟨(by obtain⟨y,I,e⟩:=Af.1 (lC hx).2;rw[←e];exact(h2 y I).1),u _ (B0 (lC hx).1)⟩,fun x hx=>?_⟩;obtain⟨a,ha,rfl⟩:=Af.1 hx;refine⟨(h3 a ha).1,(h3 a ha).2.1,?_⟩;show qA ((cE sb s b a.vars [a.body]).2.headD a.body);have J:=aNm hs (s:=s) hb (ns:=a.vars) (ps:=[a.body]) fun p hp=>by rw[ε.1 hp];exact(h3 a ha).2.2
 cases N:(cE sb s b a.vars [a.body]).2 with
 | nil=>exact(h3 a ha).2.2
 | cons y l=>exact J y (by rw[N];exact ζ)
theorem aHa:∀(k:Nat) (c:Core) (s:Str) (b:Core),qA c→qA b→qA (dH k c s b)
 | 0,c,s,b,h,_=>by rw[dH];exact h
 | k+1,c,s,b,h,hb=>by
  rw[dH];split
  ·exact hb
  ·refine aX7 (fun p n z hp u=>aHa k p n z hp u) hb ?_;split
   ·obtain⟨f,n,nm,t,ks,bs,al⟩:=c;obtain⟨h0,h1,h2,h3⟩:=i7.1 h;rw[aR2];split
    ·refine i7.2 ⟨h0,fun x hx=>?_,h2,h3⟩;obtain⟨y,I,rfl⟩:=Af.1 hx;exact aS2 _ _ _ _ (h1 y I) (aXo _)
    ·exact h
   ·exact h
theorem aVq (c:Core) (names:List Str) (l:List Core) (hc:qA c) (hl:∀b∈l,qA b):qA (aAv c names l):=by
 have h1:∀(ps:List (Str×Str)) (c:Core),qA c→qA (eY c ps):=by
  intro ps
  induction ps with
  | nil=>intro c h;exact h
  | cons p ps u=>intro c h;exact u _ (aHa _ _ _ _ h (a15 _))
 have h2:∀(ps:List (Str×Core)) (c:Core),(∀p∈ps,qA p.2)→qA c→qA (iI c ps):=by
  intro ps
  induction ps with
  | nil=>intro c _ h;exact h
  | cons p ps u=>intro c hp h;exact u _ (fun q I=>hp q (ω _ I)) (aHa _ _ _ _ h (hp p ζ))
 exact h2 _ _ (fun p hp=>hl p.2 (of_mem_zip (a:=p.1) (b:=p.2) hp).2) (h1 _ _ hc)
structure GI (c:Core):Prop where
 a:qA c
 n:∀x∈pfR c,nh x
section
variable {X:Nat}{f n:Int}{s:Str}{t:Ty}{ks:List Core}{bs:List Bind}{al:List Alt}
theorem GI.parts (hf:f≠1) (I:eJ (QL X) (.mk f n s t ks bs al)) (h:GI (.mk f n s t ks bs al)):(∀x∈ks,GI x)∧(∀b∈bs,GI b.body)∧∀a∈al,aF a.form∧GI a.body:=by
 obtain⟨⟨_,_,_,_,_,J,N,O⟩,_⟩:=bB.1 I;obtain⟨_,h1,h2,h3⟩:=i7.1 h.a;have Y:∀x∈gvN f s bs,nh x:=fun x hx=>by
  unfold gvN at hx;rcases τ.1 hx with hx | hx
  ·by_cases h5:f=5
   ·rw[ξ h5] at hx;rw[ε.1 hx];exact J h5
   ·rw[φ h5] at hx;cases hx
  ·obtain⟨b,hb,rfl⟩:=Af.1 hx;exact N (bhd b) (Af.2 ⟨b,hb,rfl⟩)
 have hp:∀p∈ks++bs.map Bind.body,∀x∈pfR p,nh x:=fun p hp x hx=>by
  by_cases u:x∈gvN f s bs
  ·exact Y x u
  ·exact h.n x ((kN hf).2 (.inl ⟨p,hp,hx,u⟩))
 refine⟨fun x hx=>⟨h1 x hx,hp x (τ.2 (.inl hx))⟩,fun b hb=>⟨(h2 b hb).2,hp b.body (τ.2 (.inr (Af.2 ⟨b,hb,rfl⟩)))⟩,fun a ha=>⟨(h3 a ha).1,(h3 a ha).2.2,fun x hx=>?_⟩⟩;by_cases u:x∈a.vars
 ·exact O (ahd a) (Af.2 ⟨a,ha,rfl⟩) x u
 ·exact h.n x ((kN hf).2 (.inr ⟨a,ha,hx,u⟩))
theorem GI.mk' (hf:f≠1) (h0:nA f n t) (h1:∀x∈ks,GI x) (h2:∀b∈bs,tF b.ty=true∧GI b.body) (h3:∀a∈al,aF a.form∧i64 a.n∧GI a.body):GI (.mk f n s t ks bs al):=by
 refine⟨i7.2 ⟨h0,fun x hx=>(h1 x hx).a,fun x hx=>⟨(h2 x hx).1,(h2 x hx).2.a⟩,fun x hx=>⟨(h3 x hx).1,(h3 x hx).2.1,(h3 x hx).2.2.a⟩⟩,fun x hx=>?_⟩;rcases(kN hf).1 hx with⟨p,hp,h,_⟩ | ⟨a,ha,h,_⟩
 ·rcases τ.1 hp with hp | hp
  ·exact(h1 p hp).n x h
  ·obtain⟨b,hb,rfl⟩:=Af.1 hp;exact(h2 b hb).2.n x h
 ·exact(h3 a ha).2.2.n x h
end
theorem GI.leaf {f n:Int}{s:Str}{t:Ty}(hf:f≠1) (h0:nA f n t):GI (.mk f n s t [] [] []):=GI.mk' hf h0 (fun x hx=>by cases hx) (fun x hx=>by cases hx) (fun x hx=>by cases hx)
mutual
theorem aYr {X:Nat}:∀c:Core,eJ (QL X) c→GI c→∀(s:Str) (l:List Core),gvC c=some (s,l)→∀x∈l,GI x
 | .mk f n s t ks bs al,I,h,nm,l,u=>by
  rw[gvC] at u;by_cases h2:f=2
  ·rw[ξ h2] at u;cases u;exact fun x hx=>by cases hx
  rw[φ h2] at u;by_cases h4:f=4
  ·rw[ξ h4] at u;obtain⟨g1,_,_⟩:=h.parts (by omega) I;obtain⟨⟨O,l'⟩,J,N⟩:=Bq.1 u;cases N;intro x hx;rcases τ.1 hx with hx | hx
   ·exact aWb ks (bB.1 I).2.1 g1 _ _ J x hx
   ·exact g1 x (B0 hx)
  rw[φ h4] at u;by_cases h6:f=6
  ·rw[ξ h6] at u;obtain⟨g1,_,_⟩:=h.parts (by omega) I;exact aWb ks (bB.1 I).2.1 g1 _ _ u
  ·rw[φ h6] at u;cases u
theorem aWb {X:Nat}:∀l:List Core,(∀x∈l,eJ (QL X) x)→(∀x∈l,GI x)→∀(s:Str) (m:List Core),gvH l=some (s,m)→∀x∈m,GI x
 | [],_,_,_,_,u=>by rw[gvH] at u;cases u
 | c::l,I,h,s,m,u=>by rw[gvH] at u;exact aYr c (I c ζ) (h c ζ) s m u
end
theorem aTp (m:Int):i64 (IntKind.i64.wrap m):=by
 rw[IntKind.wrap_i64];unfold i64
 try unfold RowKit.wrap64
 omega
theorem a0e {s:Str}{a b:Int}(h:(jG s a b).2=0):GI (jG s a b).1:=by
 have ht:∀c,GI (aK5 c):=fun c=>by cases c<;>exact GI.leaf (by decide) ⟨eG (by decide) (by decide),eG (by decide) (by decide),rfl⟩
 have hi:∀m,GI (kI (IntKind.i64.wrap m)):=fun m=>GI.leaf (by decide) ⟨eG (by decide) (by decide),aTp m,rfl⟩
 unfold jG at h ⊢;by_cases h1:s=aAw
 ·rw[ξ h1];exact hi _
 rw[φ h1] at h ⊢;by_cases h1:s=aVy
 ·rw[ξ h1];exact hi _
 rw[φ h1] at h ⊢;by_cases h1:s=aTb
 ·rw[ξ h1];exact hi _
 rw[φ h1] at h ⊢;by_cases h1:s=aLa
 ·rw[ξ h1] at h ⊢;by_cases h0:b=0
  ·rw[ξ h0] at h;cases h
  ·rw[φ h0];exact hi _
 rw[φ h1] at h ⊢;by_cases h1:s=nEq
 ·rw[ξ h1];exact ht _
 rw[φ h1] at h ⊢;by_cases h1:s=nLt
 ·rw[ξ h1];exact ht _
 ·rw[φ h1] at h;cases h
theorem aRw {X:Nat}{i:Int}{s:Str}{t:Ty}{ks:List Core}{bs:List Bind}(u:eJ (QL X) (.mk 8 i s t ks bs [])) (h:GI (.mk 8 i s t ks bs [])):∀b∈bs.map (letB bs),GI b:=fun b hb=>by
 obtain⟨_,g2,_⟩:=h.parts (by decide) u;obtain⟨y,I,rfl⟩:=Af.1 hb;obtain⟨_,_,g3,_⟩:=i7.1 h.a;exact GI.mk' (by decide) ⟨eG (by decide) (by decide),eG (by decide) (by decide),rfl⟩ (fun x hx=>by rw[ε.1 hx];exact g2 y I) (fun x hx=>⟨(g3 x hx).1,g2 x hx⟩) (fun x hx=>by cases hx)
theorem aGw (hI:dJ 540000000000) {n:Nat}{U:List Str}(hn:n≤99) (hU:U.length≤480000) {bd:List Bind}(hbd:∀b∈bd,GI b.body):∀(k:Nat) (c:Core),m30 c≤k→ST n U c→GI c→(cD bd k c).2=0→GI (cD bd k c).1:=by
 intro k
 induction k with
 | zero=>intro c h;have:=dD c;omega
 | succ k ih=>
 intro c h hc hg he;obtain⟨f,i,s,t,ks,bs,al⟩:=c;have hq:=hc.q;have I:∀j,¬f=7→¬f=1→(pT (cD bd k) (.mk f i s t ks bs al) j).2=0→GI (pT (cD bd k) (.mk f i s t ks bs al) j).1:=fun j h7 h1 he=>by
  unfold pT at he ⊢;cases hx:ks[j]? with
  | none=>
   have hx':(Core.mk f i s t ks bs al).kids[j]?=none:=hx;rw[hx'] at he;cases he
  | some x=>
   have hx':(Core.mk f i s t ks bs al).kids[j]?=some x:=hx;rw[hx'] at he ⊢;dsimp only at he ⊢;obtain⟨_,e2,J⟩:=pU he;rw[J];have hxm:=η hx;obtain⟨O,p2,p3⟩:=hg.parts h1 hq;have hr:=ih x (by have:=fX hxm;rw[m30] at h;omega) (hc.kid h7 hxm) (O x hxm) e2;unfold aDw;obtain⟨a0,_,a2,a3⟩:=i7.1 hg.a;exact GI.mk' h1 a0 (fun y Y=>(B5 Y).elim (O y) fun e=>by rw[e];exact hr) (fun y Y=>⟨(a2 y Y).1,p2 y Y⟩) fun y Y=>⟨(a3 y Y).1,(a3 y Y).2.1,(p3 y Y).2⟩
 rw[iP] at he ⊢;by_cases h1:f=1
 ·rw[ξ h1] at he ⊢;cases hf:bd.find? fun b=>decide (b.name=s) with
  | none=>rw[hf] at he;cases he
  | some b=>exact hbd b (Bp hf)
 rw[φ h1] at he ⊢;obtain⟨O,p2,p3⟩:=hg.parts h1 hq;by_cases h46:f=4∨f=6
 ·rw[ξ h46] at he ⊢;by_cases ha:f=4∧(ks.headD zC).form=5
  ·rw[ξ ha];obtain⟨rfl,ha⟩:=ha;obtain⟨⟨a,b,rfl⟩,rfl,rfl⟩:=jP hc.q (.inl rfl);have N:=hc.kid (by decide) (x:=a) ζ;have kb:=hc.kid (by decide) (x:=b) (ω _ ζ);have ga:=O a ζ;have gb:=O b (ω _ ζ);obtain⟨f',i',s',t',ks',bs',al'⟩:=a;have ha:f'=5:=ha;subst ha;obtain⟨⟨body,rfl⟩,rfl,rfl⟩:=dR N.q (.inl rfl);have Z:=(ga.parts (by decide) N.q).1 body ζ;have kbd:=N.kid (by decide) (x:=body) ζ;refine⟨aHa _ _ _ _ Z.a gb.a,fun x hx=>?_⟩;rcases(yF hI (by decide) (by decide) _ body (le_refl _) (kbd.cg (by omega) hU) s' b (kb.cg (by omega) hU)).pf x hx with h | h
   ·exact Z.n x h.1
   ·exact gb.n x h
  rw[φ ha] at he ⊢;by_cases hb:f=6∧(ks.headD zC).form=7
  ·rw[ξ hb];obtain⟨rfl,hb⟩:=hb;obtain⟨⟨a,rfl⟩,rfl,rfl⟩:=dR hc.q (.inr (.inl rfl));have N:=hc.kid (by decide) (x:=a) ζ;have ga:=O a ζ;obtain⟨f',i',s',t',ks',bs',al'⟩:=a;have hb:f'=7:=hb;subst hb;obtain⟨⟨body,rfl⟩,rfl,rfl⟩:=dR N.q (.inr (.inr rfl));have Z:=(ga.parts (by decide) N.q).1 body ζ;exact⟨aS2 _ _ _ _ Z.a (i7.1 hg.a).1.t,fun x hx=>Z.n x (by rw[←aNs (m30 body) body s' t];exact hx)⟩
  rw[φ hb] at he ⊢;exact I 0 (by omega) h1 he
 rw[φ h46] at he ⊢;by_cases h8:f=8
 ·rw[ξ h8];subst h8;obtain⟨⟨a,rfl⟩,rfl,h12⟩:=vN hc.q;obtain⟨g1,_⟩:=aDt hn hU hc;have hlb:=aRw hq hg;have hga:=O a ζ
  exact⟨aVq _ _ _ hga.a fun b hb=>(hlb b hb).a,(aIz hI (by decide) (by decide) a _ _ (by rw[θ,θ]) (by rw[θ];omega) g1 hga.n (fun b hb=>(hlb b hb).n) fun x hx=>by
   obtain⟨b,hb,rfl⟩:=Af.1 hx
   exact(bB.1 hq).1.2.2.2.2.2.2.1 (bhd b) (Af.2 ⟨b,hb,rfl⟩)).2⟩
 rw[φ h8] at he ⊢;by_cases h9:f=9
 ·rw[ξ h9] at he ⊢;subst h9;obtain⟨⟨a,rfl⟩,rfl,h12,hv⟩:=vO hc.q;cases hsh:shC a with
  | true=>
   have e:shC ([a].headD zC)=true:=hsh;rw[ξ e] at he ⊢;have N:=hc.kid (by decide) (x:=a) ζ;have ga:=O a ζ;cases hfs:al.findSome? fun x=>gH x ([a].headD zC) with
   | none=>rw[hfs] at he;cases he
   | some r=>
    obtain⟨x,hx,u⟩:=Cb hfs;have kx:=hc.alt hx;have gx:=(p3 x hx).2
    have u:gH x a=some r:=u;have hm:=fE hx;have hsz:=hc.sz;show GI r;unfold gH at u;by_cases e1:x.form=3
    ·rw[ξ e1] at u;cases u;exact gx
    rw[φ e1] at u;by_cases e2:x.form=2
    ·rw[ξ e2] at u;by_cases J:a.form=3∧a.n=x.n
     ·rw[ξ J] at u;cases u;exact gx
     ·rw[φ J] at u;cases u
    rw[φ e2] at u;cases aa:gvC a with
    | none=>rw[aa] at u;cases u
    | some p=>
     obtain⟨nm,l⟩:=p;rw[aa] at u;dsimp only at u;by_cases J:nm=x.name∧l.length=x.vars.length
     ·rw[ξ J] at u;cases u;obtain⟨g1,_⟩:=vL hn hU (s:=m30 (.mk 9 i s t [a] [] al)) (by rw[m30,dA,dA];omega) hsz kx N (hv x hx) aa J.2;have hl:=aYr a N.q ga nm l aa
      exact⟨aVq _ _ _ gx.a fun b hb=>(hl b hb).a,(aIz hI (by decide) (by decide) x.body _ _ J.2.symm (by have:=hv x hx;omega) g1 gx.n (fun b hb=>(hl b hb).n) fun v hvv=>
       (bB.1 hq).1.2.2.2.2.2.2.2 (ahd x) (Af.2 ⟨x,hx,rfl⟩) v hvv).2⟩
     ·rw[φ J] at u;cases u
  | false=>
   have e:¬shC ([a].headD zC)=true:=by rw[show shC ([a].headD zC)=shC a from rfl,hsh];decide
   rw[φ e] at he ⊢;exact I 0 (by decide) (by decide) he
 rw[φ h9] at he ⊢;by_cases h10:f=10
 ·rw[ξ h10] at he ⊢;by_cases g1:¬shC (ks.headD zC)=true
  ·rw[ξ g1] at he ⊢;exact I 0 (by omega) h1 he
  rw[φ g1] at he ⊢;by_cases g2:¬shC (ks.getD 1 zC)=true
  ·rw[ξ g2] at he ⊢;exact I 1 (by omega) h1 he
  rw[φ g2] at he ⊢;by_cases g3:(ks.headD zC).form=3∧(ks.getD 1 zC).form=3
  ·rw[ξ g3] at he ⊢;exact a0e he
  ·rw[φ g3] at he;cases he
 rw[φ h10] at he;by_cases h11:f=11
 ·rw[ξ h11] at he;cases he
 ·rw[φ h11] at he;cases he
def mV (m:Mod):V:=.pa (jU m)
noncomputable def rsF (bd:List Bind) (k:Nat) (c:Core):CE:=if shC c=true then(zC,21) else cD bd k c
theorem aUh (m:Mod) {f n:Int}{s:Str}{t:Ty}{ks:List Core}{bs:List Bind}{al:List Alt}{i:Nat}{x:Core}(st:Core→CE) (hx:ks[i]?=some x) (Y:ks.length≤2) (J:aU Tryz.prog 32 [.pa (aB x)] [] (B (shC x)) [])
  (u:¬shC x=true→aU Tryz.prog 10 [mV m,.pa (aB x)] [] (dM (st x)) []):
  aU Tryz.prog 35 [mV m,.pa (aB (.mk f n s t ks bs al)),I .i64 (i:Nat)] [] (dM (pT st (.mk f n s t ks bs al) i)) []:=by
 have Z:=dB hx;have aa:i<ks.length:=(Aa.1 hx).1
 have e:pT st (.mk f n s t ks bs al) i=aKi (shC x) (st x) (aDw (.mk f n s t ks bs al) i):=by
  unfold pT;have:(Core.mk f n s t ks bs al).kids[i]?=some x:=hx;rw[this]
 rw[e];have N:(aO ks).length=ks.length:=by rw[aR,θ]
 refine bQ (n:=43) tok Tryz.func35 rfl rfl rfl ?_;refine sg rfl ?_;unfold aKi;cases hs:shC x with
 | true=>
  rw[hs] at J;exact a8 (sgh [(3,.row i (aB x)),(5,.pc (B true))] rfl (aA rfl (fun _=>sg rfl (aE (fM trw))) nofun))
 | false=>
  rw[hs] at J;have u:=u (by rw[hs];decide);generalize st x=p at u ⊢;obtain⟨r,e⟩:=p;refine a8 (sgh [(3,.row i (aB x)),(5,.pc (B false))] rfl (aA rfl nofun (fun _=>aD (skh 6 [(4,.row i (aB x))] rfl (kc u ?_)))));refine kz 6 rfl (a8 (sg rfl (aA rfl (fun hb=>?_) (fun hb=>?_))))
  ·have h0:¬e=0:=by
    have hb:(!decide (e=0))=true:=hb;simpa using hb
   rw[φ Av,φ (show ¬(r,e).2=0 from h0)];exact sg rfl (aE (fM trw))
  ·have h0:e=0:=by
    have hb:(!decide (e=0))=false:=hb;simpa using hb
   rw[φ Av,ξ (show(r,e).2=0 from h0)];unfold aDw;dsimp only;have O:(aO ks).set i (aB r)=aO (ks.set i r):=by rw[aR,aR,aMo]
   refine aD (sg rfl (AWp.sub (Sub.own (t:=10) (id:=600) 37 10 rfl rfl) ?_));refine sg rfl ?_ (hc:=⟨by rw[length_nil,show(nB (.mk f n s t ks bs al)).length=ks.length from N];omega,⟨rfl,rfl⟩,rfl,trivial⟩)
   refine AWp.sub (st2:=mk [(2,I .i64 (i:Nat)),(4,.one (.vp 4 0)),(6,.one (.vp 6 0)),(8,.one (.vp 8 0)),(10,.one (.hs 600 0 ks.length ks.length))]
    [(4,.var 37 (aW (.mk f n s t ks bs al))),(6,.var 37 bO),(8,.var 37 (aW r)),(600,.arr 37 10 (aO ks) 0)]) ?_ ?_
   ·have e0:([]:List (List C)).length+(nB (.mk f n s t ks bs al)).length=ks.length:=by rw[length_nil,Bc];exact N
    exact sl (he:=⟨rfl,rfl,rfl,rfl,Go.AM.hs_ren e0 e0,trivial⟩) (hh:=⟨⟨_,rfl,.var rfl⟩,⟨_,rfl,.var rfl⟩,⟨_,rfl,.var rfl⟩,⟨_,rfl,.arrS (A0 _)⟩,trivial⟩)
   refine sgh [(4,.row i (aB x))] rfl ?_;have ab:ks.length=(aO (ks.set i r)).length:=by rw[aR,θ,Cq]
   refine AWp.sub (Sub.freeze (id:=600) rfl) ?_
   refine AWp.sub (st2:=mk [(4,.one (.vp 4 0)),(6,.one (.vp 6 0)),(10,.one (.hs 600 0 ks.length ks.length))]
    [(4,.var 37 (aW (.mk f n s t ks bs al))),(6,.var 37 bO),(600,.arr 37 10 (aO (ks.set i r)) 2)]) (sl (hh:=⟨⟨_,rfl,.var rfl⟩,⟨_,rfl,.var rfl⟩,⟨_,rfl,.arrS O⟩,trivial⟩)) ?_
   exact sg rfl (sg rfl (aE (fM trw)))
theorem aQu (m:Mod) {n:Int}{s:Str}{t:Ty}{a:Core}{al:List Alt}{p:CE}(hal:al.length≤12) (O:aU Tryz.prog 32 [.pa (aB a)] [] (B (shC a)) [])
  (hp:¬shC a=true→aU Tryz.prog 35 [mV m,.pa (aB (.mk 9 n s t [a] [] al)),I .i64 (0:Nat)] [] (dM p) [])
  (ht:∀x∈al,∃z,(¬(tkP x a).2=true∨z=(tkP x a).1)∧aU Tryz.prog 88 [.pa (c7 x),.pa (aB a)] [] (.tup [.pa (aB z),B (tkP x a).2]) []):
  aU Tryz.prog 37 [mV m,.pa (aB (.mk 9 n s t [a] [] al))] [] (dM (if shC a=true then(match al.findSome? fun x=>gH x a with | some r=>(r,0) | none=>(zC,52)) else p)) []:=by
 have Y:(bV al).length=al.length:=by rw[bF,θ]
 refine bQ (n:=48) tok Tryz.func37 rfl rfl rfl ?_;refine sg rfl ?_;cases hs:shC a with
 | false=>
  rw[hs] at O;have hp:=hp (by rw[hs];decide);rw[φ Av];refine a8 (sgh [(2,.row 0 (aB a)),(4,.pc (B false))] rfl (aA rfl (fun _=>sk 2 rfl (kc hp ?_)) nofun));exact kz 6 rfl (sg rfl (aE (fM trw)))
 | true=>
  rw[hs] at O;rw[ξ rfl];refine a8 (sgh [(2,.row 0 (aB a)),(4,.pc (B true))] rfl (aA rfl nofun (fun _=>aD (a8 (sg rfl (aC ?_))))));refine aK (fun i:Nat=>mk [(2,.one (.vp 2 0)),(3,.one (.vp 3 0)),(4,.one (.vp 4 0)),(8,I .i64 i)] [(2,.var 28 ((jU m).map R.c)),(3,.var 37 (aW (.mk 9 n s t [a] [] al))),(4,.var 37 bO)])
   (fun i=>i≤al.length∧al.findSome? (fun x=>gH x a)=(al.drop i).findSome? fun x=>gH x a) (fun i=>al.length-i) 0 ⟨Ag _,rfl⟩ sl ?_
  intro i ⟨hi,u⟩;refine a8 (sg rfl (aA rfl (fun hb=>?_) (fun hb=>?_)))
  ·have J:i<al.length:=ltD hb Y;obtain⟨x,hx⟩:=aJ J;have hx':=fZ hx;obtain⟨z,hz,hT⟩:=ht x (η hx);have hd:al.drop i=x::al.drop (i+1):=by rw[Bu J,(Aa.1 hx).2]
   rw[hd,List.findSome?_cons,aA9] at u;generalize tkP x a=q at *;refine aD (a8 (aC (skh 9 [(3,.row i (c7 x)),(7,.row 0 (aB a))] rfl (kc hT ?_))));refine kz 6 rfl (sg rfl (aA rfl (fun hb=>?_) (fun hb=>?_)))
   ·have N:q.2=true:=hb;rw[ξ N] at u;rw[u];obtain rfl:z=q.1:=hz.resolve_left fun h=>h N
    exact sg rfl (aE (fM trw))
   ·have N:¬q.2=true:=by
     have hb:q.2=false:=hb;rw[hb];decide
    rw[φ N] at u;exact aD (ag [] rfl ⟨i+1,⟨J,u⟩,by dsimp only;omega,sl⟩)
  have Z:i=al.length:=geD hb Y hi;subst Z;rw[C7] at u;rw[u];exact aL (sg rfl (aE (fM trw)))
theorem aUf (m:Mod) {n:Int}{s:Str}{t:Ty}{a b:Core}{p q:CE}(ha:aU Tryz.prog 32 [.pa (aB a)] [] (B (shC a)) []) (hb:aU Tryz.prog 32 [.pa (aB b)] [] (B (shC b)) [])
  (hp:¬shC a=true→aU Tryz.prog 35 [mV m,.pa (aB (.mk 10 n s t [a,b] [] [])),I .i64 (0:Nat)] [] (dM p) []) (hq:¬shC b=true→aU Tryz.prog 35 [mV m,.pa (aB (.mk 10 n s t [a,b] [] [])),I .i64 (1:Nat)] [] (dM q) []):
  aU Tryz.prog 38 [mV m,.pa (aB (.mk 10 n s t [a,b] [] []))] [] (dM (if ¬shC a=true then p else if ¬shC b=true then q else if a.form=3∧b.form=3 then jG s a.n b.n else(zC,51))) []:=by
 have hP:=aUl s a.n b.n;refine bQ (n:=64) tok Tryz.func38 rfl rfl rfl ?_;refine sg rfl (a8 (sg rfl (aC ?_)));refine aK (fun i:Nat=>mk [(2,.one (.vp 2 0)),(3,.one (.vp 3 0)),(4,.one (.vp 4 0)),(6,I .i64 i)] [(2,.var 28 ((jU m).map R.c)),(3,.var 37 (aW (.mk 10 n s t [a,b] [] []))),(4,.var 37 bO)])
  (fun i=>i≤2∧(1≤i→shC a=true)∧(2≤i→shC b=true)) (fun i=>2-i) 0 ⟨Ag _,fun h=>by omega,fun h=>by omega⟩ sl ?_
 intro i ⟨hi,hi1,hi2⟩;refine a8 (sg rfl (aA rfl (fun hb'=>?_) (fun hb'=>?_)))
 ·have hlt:i<2:=by have:=ψ hb';omega
  refine aD (a8 (aC ?_));by_cases h0:i=0
  ·subst h0;cases hs:shC a with
   | false=>
    rw[hs] at ha;have hp:=hp (by rw[hs];decide);rw[ξ Av];refine sgh [(3,.row 0 (aB a)),(5,.pc (B false))] rfl (aA rfl (fun _=>sk 3 rfl (kc hp ?_)) nofun);exact kz 6 rfl (sg rfl (aE (fM trw)))
   | true=>
    rw[hs] at ha;exact sgh [(3,.row 0 (aB a)),(5,.pc (B true))] rfl (aA rfl nofun (fun _=>aD (ag [] rfl ⟨1,⟨by omega,fun _=>rfl,fun h=>by omega⟩,by dsimp only;omega,sl⟩)))
  ·obtain rfl:i=1:=by omega
   have hsa:=hi1 (le_refl _);cases hs:shC b with
   | false=>
    rw[hs] at hb;have hq:=hq (by rw[hs];decide);rw[hsa,φ (show ¬¬true=true from fun h=>h rfl),ξ Av];refine sgh [(3,.row 1 (aB b)),(5,.pc (B false))] rfl (aA rfl (fun _=>sk 3 rfl (kc hq ?_)) nofun);exact kz 6 rfl (sg rfl (aE (fM trw)))
   | true=>
    rw[hs] at hb;exact sgh [(3,.row 1 (aB b)),(5,.pc (B true))] rfl (aA rfl nofun (fun _=>aD (ag [] rfl ⟨2,⟨by omega,fun _=>hsa,fun _=>rfl⟩,by dsimp only;omega,sl⟩)))
 have hge:i=2:=by have:=χ hb';omega
 subst hge;rw[hi1 (by decide),hi2 (by decide),φ (show ¬¬true=true from fun h=>h rfl),φ (show ¬¬true=true from fun h=>h rfl)];refine aL ?_;obtain⟨J,N,O,Y,Z,ba,aa⟩:=a;obtain⟨u,nb,sb,tb,kb,bb,ab⟩:=b;by_cases h1:J=3
 ·have e1:(!decide (J=3))=false:=by rw[Ad h1];rfl
  by_cases h2:u=3
  ·have e2:(!decide (u=3))=false:=by rw[Ad h2];rfl
   rw[ξ (show(Core.mk J N O Y Z ba aa).form=3∧(Core.mk u nb sb tb kb bb ab).form=3 from⟨h1,h2⟩)];refine a8 (sgh [(2,.row 0 (aB (.mk J N O Y Z ba aa))),(6,.bv false),(9,.row 1 (aB (.mk u nb sb tb kb bb ab))),(13,.bv false)] rfl (aA rfl (fun hb=>?_) (fun _=>?_)))
   ·have hb:(!decide (u=3))=true:=hb;rw[e2] at hb;cases hb
   refine aD (skh 12 [(4,.row 0 (aB (.mk J N O Y Z ba aa))),(9,.row 1 (aB (.mk u nb sb tb kb bb ab)))] rfl (kc hP ?_));exact kz 6 rfl (sg rfl (aE (fM trw)))
  ·have e2:(!decide (u=3))=true:=by rw[Ae h2];rfl
   rw[φ (show ¬((Core.mk J N O Y Z ba aa).form=3∧(Core.mk u nb sb tb kb bb ab).form=3) from fun h=>h2 h.2)];refine a8 (sgh [(2,.row 0 (aB (.mk J N O Y Z ba aa))),(6,.bv false),(9,.row 1 (aB (.mk u nb sb tb kb bb ab))),(13,.bv false)] rfl (aA rfl (fun _=>?_) (fun hb=>?_)))
   ·exact sg rfl (aE (fM trw))
   ·have hb:(!decide (u=3))=false:=hb;rw[e2] at hb;cases hb
 ·have e1:(!decide (J=3))=true:=by rw[Ae h1];rfl
  rw[φ (show ¬((Core.mk J N O Y Z ba aa).form=3∧(Core.mk u nb sb tb kb bb ab).form=3) from fun h=>h1 h.1)];exact a8 (sgh [(2,.row 0 (aB (.mk J N O Y Z ba aa))),(6,.bv true),(13,.bv true)] rfl (aA rfl (fun _=>sg rfl (aE (fM trw))) nofun))
section
variable (m:Mod) {f n:Int}{s:Str}{t:Ty}{ks:List Core}{bs:List Bind}{al:List Alt}
theorem a57 {c:Core}(u:aU Tryz.prog 32 [.pa (aB c)] [] (B true) []):aU Tryz.prog 10 [mV m,.pa (aB c)] [] (dM (zC,21)) []:=by
 refine bQ (n:=159) tok Tryz.func10 rfl rfl rfl ?_;exact sg rfl (a8 (sgh [(1,.pc (B true))] rfl (aA rfl (fun _=>sg rfl (aE (fM trw))) nofun)))
theorem a56 (hl:m.binds.length≤1000) (ab:aU Tryz.prog 32 [.pa (aB (.mk 1 n s t ks bs al))] [] (B false) []):
  aU Tryz.prog 10 [mV m,.pa (aB (.mk 1 n s t ks bs al))] [] (dM (match m.binds.find? fun b=>decide (b.name=s) with | some b=>(b.body,0) | none=>(zC,51))) []:=by
 have Z:(m.binds.map b8).length=m.binds.length:=θ _;refine bQ (n:=159) tok Tryz.func10 rfl rfl rfl ?_;refine sg rfl (a8 (sgh [(1,.pc (B false))] rfl (aA rfl nofun (fun _=>aD (a8 (sg rfl (aC (sg rfl (aA rfl (fun _=>sg rfl (aC ?_)) nofun)))))))));refine aK (fun i:Nat=>mk [(2,.one (.vp 2 0)),(3,.one (.vp 3 0)),(4,.one (.vp 4 0)),(6,I .i64 i)] [(2,.var 28 ((jU m).map R.c)),(3,.var 37 (aW (.mk 1 n s t ks bs al))),(4,.var 37 bO)])
  (fun i=>i≤m.binds.length∧m.binds.find? (fun b=>decide (b.name=s))=(m.binds.drop i).find? fun b=>decide (b.name=s)) (fun i=>m.binds.length-i) 0 ⟨Ag _,rfl⟩ sl ?_
 intro i ⟨hi,u⟩;refine a8 (sg rfl (aA rfl (fun hb=>?_) (fun hb=>?_)))
 ·have N:i<m.binds.length:=ltD hb Z;obtain⟨x,hx⟩:=aJ N;have ac:=bW b8 hx;have hd:m.binds.drop i=x::m.binds.drop (i+1):=by rw[Bu N,(Aa.1 hx).2]
  rw[hd,List.find?_cons] at u;obtain⟨J,O,Y⟩:=x;refine aD (a8 (aC (sgh [(3,.row i (b8 (.mk J O Y)))] rfl (aA rfl (fun hb=>?_) (fun hb=>?_)))))
  ·have h:J=s:=ψ hb;have e:decide ((Bind.mk J O Y).name=s)=true:=Ad h;rw[e] at u;rw[u];exact sgh [(3,.row i (b8 (.mk J O Y)))] rfl (aE (fM trw))
  ·have h:¬J=s:=χ hb;have e:decide ((Bind.mk J O Y).name=s)=false:=Ae h;rw[e] at u;exact aD (ag [] rfl ⟨i+1,⟨N,u⟩,by dsimp only;omega,sl⟩)
 have aa:i=m.binds.length:=geD hb Z hi;subst aa;rw[C7] at u;rw[u];exact aL (sg rfl (aE (fM trw)))
theorem a3q {nm:Str}{u:Int}{t':Ty}{body b r:Core}(J:aU Tryz.prog 32 [.pa (aB (.mk 4 n s t [.mk 5 u nm t' [body] [] [],b] [] []))] [] (B false) [])
  (I:aU Tryz.prog 33 [.pa (aB body),Go.AM.T nm,.pa (aB b)] [] (.pa (aB r)) []):aU Tryz.prog 10 [mV m,.pa (aB (.mk 4 n s t [.mk 5 u nm t' [body] [] [],b] [] []))] [] (dM (r,0)) []:=by
 refine bQ (n:=159) tok Tryz.func10 rfl rfl rfl ?_;refine sg rfl (a8 (sgh [(1,.pc (B false))] rfl (aA rfl nofun (fun _=>aD (a8 (sg rfl (aC (sg rfl (aA rfl nofun (fun _=>a8 (sg rfl (aA rfl (fun _=>aD (aA rfl (fun _=>sgh [(2,.row 0 (aB (.mk 5 u nm t' [body] [] [])))] rfl (a8 (sgh [(3,.bv true),(7,.bv true)] rfl (aA rfl (fun _=>skh 10 [(2,.row 0 (aB body)),(8,.row 1 (aB b))] rfl (kc I ?_)) nofun)))) nofun)) nofun))))))))))));exact kz 2 rfl (aE (fM trw))
theorem a3p {nm:Str}{u:Int}{t':Ty}{body r:Core}(J:aU Tryz.prog 32 [.pa (aB (.mk 6 n s t [.mk 7 u nm t' [body] [] []] [] []))] [] (B false) [])
  (I:aU Tryz.prog 34 [.pa (aB body),Go.AM.T nm,tyV t] [] (.pa (aB r)) []):aU Tryz.prog 10 [mV m,.pa (aB (.mk 6 n s t [.mk 7 u nm t' [body] [] []] [] []))] [] (dM (r,0)) []:=by
 refine bQ (n:=159) tok Tryz.func10 rfl rfl rfl ?_;refine sg rfl (a8 (sgh [(1,.pc (B false))] rfl (aA rfl nofun (fun _=>aD (a8 (sg rfl (aC (sg rfl (aA rfl nofun (fun _=>a8 (sg rfl (aA rfl nofun (fun _=>ag [] rfl (aA rfl (fun _=>sgh [(2,.row 0 (aB (.mk 7 u nm t' [body] [] [])))] rfl (a8 (sgh [(3,.bv false),(7,.bv false)] rfl (aA rfl nofun (fun _=>aD (a8 (sgh [(3,.bv true),(7,.bv true)] rfl (aA rfl (fun _=>skh 8 [(2,.row 0 (aB body))] rfl (kc I ?_)) nofun)))))))) nofun))))))))))))));exact kz 2 rfl (aE (fM trw))
theorem a3r {a:Core}{ks1:List Core}{p:CE}(O:f=4∨f=6) (ha:¬(f=4∧a.form=5)) (J:¬(f=6∧a.form=7)) (ad:aU Tryz.prog 32 [.pa (aB (.mk f n s t (a::ks1) bs al))] [] (B false) [])
  (hp:aU Tryz.prog 35 [mV m,.pa (aB (.mk f n s t (a::ks1) bs al)),I .i64 (0:Nat)] [] (dM p) []):aU Tryz.prog 10 [mV m,.pa (aB (.mk f n s t (a::ks1) bs al))] [] (dM p) []:=by
 have h1:¬f=1:=by omega
 obtain⟨af,an,anm,at',N,Y,Z⟩:=a;have ha:¬(f=4∧af=5):=ha;have J:¬(f=6∧af=7):=J;refine bQ (n:=159) tok Tryz.func10 rfl rfl rfl ?_;refine sg rfl (a8 (sgh [(1,.pc (B false))] rfl (aA rfl nofun (fun _=>aD (a8 (sg rfl (aC (sg rfl (aA rfl (fun hb=>absurd (ψ hb) h1) (fun _=>?_))))))))));have ac:∀{ae:St→Prop},True:=trivial;rcases O with rfl | rfl
 ·have u:¬af=5:=fun e=>ha ⟨rfl,e⟩
  have e1:decide (af=5)=false:=Ae u;refine a8 (sg rfl (aA rfl (fun _=>aD (aA rfl (fun _=>sgh [(2,.row 0 (aB (.mk af an anm at' N Y Z)))] rfl (a8 (sgh [(3,.bv true),(7,.bv true)] rfl (aA rfl (fun hb=>absurd (ψ hb) u) (fun _=>aD (a8 (sgh [(3,.bv false),(7,.bv false)] rfl (aA rfl nofun (fun _=>aD (sk 2 rfl (kc hp ?_))))))))))) nofun)) nofun));exact kz 6 rfl (sg rfl (aE (fM trw)))
 ·have u:¬af=7:=fun e=>J ⟨rfl,e⟩
  refine a8 (sg rfl (aA rfl nofun (fun _=>ag [] rfl (aA rfl (fun _=>sgh [(2,.row 0 (aB (.mk af an anm at' N Y Z)))] rfl (a8 (sgh [(3,.bv false),(7,.bv false)] rfl (aA rfl nofun (fun _=>aD (a8 (sgh [(3,.bv true),(7,.bv true)] rfl (aA rfl (fun hb=>absurd (ψ hb) u) (fun _=>aD (sk 2 rfl (kc hp ?_))))))))))) nofun))));exact kz 6 rfl (sg rfl (aE (fM trw)))
theorem a55 {a r:Core}(hbl:bs.length≤1000) (hsh:aU Tryz.prog 32 [.pa (aB (.mk 8 n s t [a] bs []))] [] (B false) [])
  (hr:aU Tryz.prog 36 [.pa (aB a),aV (bs.map Bind.name),.one (.c (.sl 10 ((bs.map (letB bs)).map aB)))] [] (.pa (aB r)) []):aU Tryz.prog 10 [mV m,.pa (aB (.mk 8 n s t [a] bs []))] [] (dM (r,0)) []:=by
 have N:(aQ bs).length=bs.length:=by rw[bH,θ]
 refine bQ (n:=159) tok Tryz.func10 rfl rfl rfl ?_;refine sg rfl (a8 (sgh [(1,.pc (B false))] rfl (aA rfl nofun (fun _=>aD (a8 (sg rfl (aC (sg rfl (aA rfl nofun (fun _=>a8 (sg rfl (aA rfl nofun (fun _=>ag [] rfl (aA rfl nofun (fun _=>sg rfl (aA rfl (fun _=>sg rfl (AWp.sub (Sub.own (t:=10) (id:=600) 9 1 rfl rfl) ?_)) nofun))))))))))))))));refine sg rfl (AWp.sub (Sub.own (t:=11) (id:=601) 37 10 rfl rfl) ?_);refine a8 (sg rfl (aC ?_))
 refine aK (fun i:Nat=>mk [(3,.one (.vp 3 0)),(4,.one (.vp 4 0)),(10,.one (.hs 600 0 i i)),(11,.one (.hs 601 0 i i)),(12,I .i64 i)]
  [(3,.var 37 (aW (.mk 8 n s t [a] bs []))),(4,.var 37 bO),(600,.arr 9 1 ((bs.take i).map fun b=>b6 b.name) 0),(601,.arr 37 10 ((bs.take i).map fun b=>aB (letB bs b)) 0)]) (fun i=>i≤bs.length) (fun i=>bs.length-i) 0 (Ag _) sl ?_
 intro i hi;refine a8 (sg rfl (aA rfl (fun hb=>?_) (fun hb=>?_)))
 ·have O:i<bs.length:=ltD hb N;obtain⟨x,hx⟩:=aJ O;have hx':=bX hx;have Y:=eC (fun b:Bind=>b6 b.name) hx;have u:=eC (fun b:Bind=>aB (letB bs b)) hx;obtain⟨Z,xt,J⟩:=x;have u:(bs.take i).map (fun b=>aB (letB bs b))++[aB (.mk 8 0 [] zTy [J] bs [])]=(bs.take (i+1)).map fun b=>aB (letB bs b):=u
  refine aD (a8 (aC (sgh [(4,.row i (b8 (.mk Z xt J))),(7,.all)] rfl (ag [(6,.row i (b8 (.mk Z xt J))),(9,.all),(11,.all)] rfl (AWp.sub (Sub.arrWeak (x:=601) rfl (RowsLe.snoc (r':=aB (letB bs (.mk Z xt J))) ?_ ((bs.take i).map fun b=>aB (letB bs b)))) ?_)))))
  ·repeat (first | exact .nil | apply Go.AM.CsLe.cons .refl | apply Go.AM.CsLe.cons .nl)
  exact ag [] rfl ⟨i+1,O,by dsimp only;omega,sl⟩
 have hge:i=bs.length:=geD hb N hi;subst hge;rw[Al];have Y:(bs.map fun b=>b6 b.name)=(bs.map Bind.name).map b6:=by rw[A8];rfl
 have u:(bs.map fun b=>aB (letB bs b))=(bs.map (letB bs)).map aB:=by rw[A8];rfl
 rw[Y,u];have hl1:bs.length=((bs.map Bind.name).map b6).length:=by simp
 have hl2:bs.length=((bs.map (letB bs)).map aB).length:=by simp
 refine aL (AWp.sub (Sub.freeze (id:=600) rfl) (AWp.sub (cv 10 ((bs.map Bind.name).map b6)) ?_));refine AWp.sub (Sub.freeze (id:=601) rfl) (AWp.sub (cv 11 ((bs.map (letB bs)).map aB)) ?_);refine skh 6 [(2,.row 0 (aB a))] rfl (kc hr ?_);exact kz 2 rfl (aE (fM trw))
theorem a54 {p:CE}(u:aU Tryz.prog 32 [.pa (aB (.mk 9 n s t ks bs al))] [] (B false) []) (hp:aU Tryz.prog 37 [mV m,.pa (aB (.mk 9 n s t ks bs al))] [] (dM p) []):
  aU Tryz.prog 10 [mV m,.pa (aB (.mk 9 n s t ks bs al))] [] (dM p) []:=by
 refine bQ (n:=159) tok Tryz.func10 rfl rfl rfl ?_;refine sg rfl (a8 (sgh [(1,.pc (B false))] rfl (aA rfl nofun (fun _=>aD (a8 (sg rfl (aC (sg rfl (aA rfl nofun (fun _=>a8 (sg rfl (aA rfl nofun (fun _=>ag [] rfl (aA rfl nofun (fun _=>sg rfl (aA rfl nofun (fun _=>sg rfl (aA rfl (fun _=>sk 2 rfl (kc hp ?_)) nofun))))))))))))))))));exact kz 6 rfl (sg rfl (aE (fM trw)))
theorem a3s {p:CE}(u:aU Tryz.prog 32 [.pa (aB (.mk 10 n s t ks bs al))] [] (B false) []) (hp:aU Tryz.prog 38 [mV m,.pa (aB (.mk 10 n s t ks bs al))] [] (dM p) []):
  aU Tryz.prog 10 [mV m,.pa (aB (.mk 10 n s t ks bs al))] [] (dM p) []:=by
 refine bQ (n:=159) tok Tryz.func10 rfl rfl rfl ?_;refine sg rfl (a8 (sgh [(1,.pc (B false))] rfl (aA rfl nofun (fun _=>aD (a8 (sg rfl (aC (sg rfl (aA rfl nofun (fun _=>a8 (sg rfl (aA rfl nofun (fun _=>ag [] rfl (aA rfl nofun (fun _=>sg rfl (aA rfl nofun (fun _=>sg rfl (aA rfl nofun (fun _=>sg rfl (aA rfl (fun _=>sk 2 rfl (kc hp ?_)) nofun))))))))))))))))))));exact kz 6 rfl (sg rfl (aE (fM trw)))
theorem a52 (h1:¬f=1) (h4:¬f=4) (h6:¬f=6) (I:¬f=8) (J:¬f=9) (u:¬f=10) (N:aU Tryz.prog 32 [.pa (aB (.mk f n s t ks bs al))] [] (B false) []):
  aU Tryz.prog 10 [mV m,.pa (aB (.mk f n s t ks bs al))] [] (dM (if f=11 then(zC,52) else(zC,51))) []:=by
 refine bQ (n:=159) tok Tryz.func10 rfl rfl rfl ?_;refine sg rfl (a8 (sgh [(1,.pc (B false))] rfl (aA rfl nofun (fun _=>aD (a8 (sg rfl (aC (sg rfl (aA rfl (fun hb=>absurd (ψ hb) h1) (fun _=>a8 (sg rfl (aA rfl (fun hb=>absurd (ψ hb) h4) (fun _=>ag [] rfl (aA rfl (fun hb=>absurd (ψ hb) h6) (fun _=>sg rfl (aA rfl (fun hb=>absurd (ψ hb) I) (fun _=>sg rfl (aA rfl (fun hb=>absurd (ψ hb) J) (fun _=>sg rfl (aA rfl (fun hb=>absurd (ψ hb) u) (fun _=>sg rfl (aA rfl (fun hb=>?_) (fun hb=>?_)))))))))))))))))))))))
 ·have h:f=11:=ψ hb;rw[ξ h];exact sg rfl (aE (fM trw))
 ·have h:¬f=11:=χ hb;rw[φ h];exact aD (sg rfl (aE (fM trw)))
end
theorem aZn (hI:dJ 540000000000) {n:Nat}{U:List Str}(hn:n≤99) (hU:U.length≤480000) {m:Mod}(hB:BI U m.binds):∀(k:Nat) (c:Core),m30 c≤k→ST n U c→GI c→
  aU Tryz.prog 10 [mV m,.pa (aB c)] [] (dM (rsF m.binds k c)) []:=by
 intro k
 induction k with
 | zero=>intro c h;have:=dD c;omega
 | succ k ih=>
 intro c h hc hgi;have hcs0:=c8 c;have hsz:=hc.sz;have u:=aC1 c hc.q (by omega);unfold rsF;cases hsc:shC c with
 | true=>
  rw[hsc] at u;rw[ξ rfl];exact a57 m u
 | false=>
 rw[hsc] at u;rw[φ Av];obtain⟨f,i,s,t,ks,bs,al⟩:=c;have hm:∀x∈ks,m30 x<m30 (.mk f i s t ks bs al):=fun x hx=>by have:=fX hx;rw[m30];omega
 have hcs:∀x∈ks,aY x≤500000000000:=fun x hx=>by have:=c8 x;have:=hm x hx;omega
 have Y:∀x∈ks,¬f=7→aU Tryz.prog 32 [.pa (aB x)] [] (B (shC x)) []:=fun x hx h7=>aC1 x (hc.kid h7 hx).q (hcs x hx)
 rw[iP];by_cases h1:f=1
 ·subst h1;rw[ξ rfl];exact a56 m hB.len u
 rw[φ h1];obtain⟨p1,p2,p3⟩:=hgi.parts h1 hc.q;have N:∀(j:Nat) (x:Core),ks[j]?=some x→¬f=7→ks.length≤2→aU Tryz.prog 35 [mV m,.pa (aB (.mk f i s t ks bs al)),I .i64 (j:Nat)] [] (dM (pT (cD m.binds k) (.mk f i s t ks bs al) j)) []:=fun j x hx h7 hl=>by
  have Z:=η hx;refine aUh m (cD m.binds k) hx hl (Y x Z h7) fun hns=>?_
  have:=ih x (by have:=hm x Z;omega) (hc.kid h7 Z) (p1 x Z);unfold rsF at this;rwa [φ hns] at this
 by_cases J:f=4∨f=6
 ·rw[ξ J];by_cases ha:f=4∧(ks.headD zC).form=5
  ·rw[ξ ha];obtain⟨rfl,ha⟩:=ha;obtain⟨⟨a,b,rfl⟩,rfl,rfl⟩:=jP hc.q (.inl rfl);have O:=hc.kid (by decide) (x:=a) ζ;have kb:=hc.kid (by decide) (x:=b) (ω _ ζ);obtain⟨f',i',s',t',ks',bs',al'⟩:=a;have ha:f'=5:=ha;subst ha;obtain⟨⟨body,rfl⟩,rfl,rfl⟩:=dR O.q (.inl rfl);have kbd:=O.kid (by decide) (x:=body) ζ;exact a3q m u (aQj hI (by decide) (by decide) (m30 body) body (le_refl _) (kbd.cg (by omega) hU) s' b (kb.cg (by omega) hU))
  rw[φ ha];by_cases hb:f=6∧(ks.headD zC).form=7
  ·rw[ξ hb];obtain⟨rfl,hb⟩:=hb;obtain⟨⟨a,rfl⟩,rfl,rfl⟩:=dR hc.q (.inr (.inl rfl));have O:=hc.kid (by decide) (x:=a) ζ;obtain⟨f',i',s',t',ks',bs',al'⟩:=a;have hb:f'=7:=hb;subst hb;obtain⟨⟨body,rfl⟩,rfl,rfl⟩:=dR O.q (.inr (.inr rfl));have hcg:=hc.cg (by omega) hU;have hcb:=((O.cg (by omega) hU).kid (x:=body) ζ).1
   obtain⟨w1,w2,_⟩:=hcg.ty;exact a3p m u (a3o hI (by decide) (m30 body) body (le_refl _) hcb s' t ⟨w1,by omega⟩ (le_trans hcg.dep1.1 (by decide)))
  rw[φ hb];have hex:∃a ks1,ks=a::ks1∧ks.length≤2:=by
   rcases J with rfl | rfl
   ·obtain⟨⟨a,b,rfl⟩,_⟩:=jP hc.q (.inl rfl);exact⟨a,[b],rfl,le_refl _⟩
   ·obtain⟨⟨a,rfl⟩,_⟩:=dR hc.q (.inr (.inl rfl));exact⟨a,[],rfl,by simp⟩
  obtain⟨a,ks1,rfl,hl⟩:=hex;exact a3r m J ha hb u (N 0 a rfl (by omega) hl)
 rw[φ J];by_cases h8:f=8
 ·rw[ξ h8];subst h8;obtain⟨⟨a,rfl⟩,rfl,h12⟩:=vN hc.q;have hlb:=aRw hc.q hgi
  exact a55 m (by omega) u (aIz hI (by decide) (by decide) a _ _ (by rw[θ,θ]) (by rw[θ];omega) (aDt hn hU hc).1 (p1 a ζ).n (fun b hb=>(hlb b hb).n) fun x hx=>by
   obtain⟨b,hb,rfl⟩:=Af.1 hx
   exact(bB.1 hc.q).1.2.2.2.2.2.2.1 (bhd b) (Af.2 ⟨b,hb,rfl⟩)).1
 rw[φ h8];by_cases h9:f=9
 ·rw[ξ h9];subst h9;obtain⟨⟨a,rfl⟩,rfl,h12,hv⟩:=vO hc.q;have O:=hc.kid (by decide) (x:=a) ζ;have ga:=p1 a ζ;have hca:=hcs a ζ;refine a54 m u (aQu m h12 (Y a ζ (by decide)) (fun _=>N 0 a rfl (by decide) (by simp)) fun x hx=>?_);refine aQf x a (p3 x hx).1 O.q hca (by have:=hv x hx;omega) fun s1 l1 hg hlv=>?_
  have kx:=hc.alt hx;have gx:=(p3 x hx).2
  have hm':=fE hx;obtain⟨g1,_⟩:=vL hn hU (s:=m30 (.mk 9 i s t [a] [] al)) (by rw[m30,dA,dA];omega) hsz kx O (hv x hx) hg hlv;have hl:=aYr a O.q ga s1 l1 hg
  exact(aIz hI (by decide) (by decide) x.body _ _ hlv.symm (by have:=hv x hx;omega) g1 gx.n (fun b hb=>(hl b hb).n) fun v hvv=>
   (bB.1 hc.q).1.2.2.2.2.2.2.2 (ahd x) (Af.2 ⟨x,hx,rfl⟩) v hvv).1
 rw[φ h9];by_cases aa:f=10
 ·rw[ξ aa];subst aa;obtain⟨⟨a,b,rfl⟩,rfl,rfl⟩:=jP hc.q (.inr rfl);exact a3s m u (aUf m (Y a ζ (by decide)) (Y b (ω _ ζ) (by decide)) (fun _=>N 0 a rfl (by decide) (le_refl _)) (fun _=>N 1 b rfl (by decide) (le_refl _)))
 rw[φ aa];exact a52 m h1 (fun e=>J (.inl e)) (fun e=>J (.inr e)) h8 h9 aa u
end Go.Proofs.YtockgoadliilhaaGreatDoor
