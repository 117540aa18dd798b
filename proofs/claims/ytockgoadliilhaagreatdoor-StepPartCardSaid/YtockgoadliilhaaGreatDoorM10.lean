/-
  Texts Ly4 to Ly10 in one.
-/
import Derived.Test.YtockgoadliilhaaGreatDoorM9
open List (append_nil drop_left flatMap_cons flatMap_nil foldl_append length_append length_cons length_drop length_eq_zero_iff length_map length_nil length_range length_set length_take map_append map_congr_left map_cons map_map map_nil map_set mem_append mem_cons mem_cons_of_mem mem_cons_self mem_filter mem_flatMap mem_map mem_of_mem_drop mem_of_mem_take mem_range mem_singleton nil_append nodup_range not_mem_nil sum_cons sum_nil take_add_one take_left take_length take_succ_cons)
open Nat (add_assoc add_mul add_zero le_add_left le_max_left le_max_right le_mul_of_pos_right le_of_eq le_refl le_trans lt_of_le_of_lt mul_le_mul_right mul_one zero_add zero_le)
namespace Go.Proofs.YtockgoadliilhaaGreatDoor
open Go Go.AM
set_option maxRecDepth 20000
set_option maxHeartbeats 4000000
structure CG (D M X:Nat) (c:Core):Prop where
 q:cB (QL X) c
 dep:cw j3 0 c r0≤D
 sc:(tyR c).length+2*tlC c≤M
 sz:m30 c≤Big
section
variable {D M X:Nat}{f n:Int}{s:Str}{t:Ty}{ks:List Core}{bs:List Bind}{al:List Alt}
theorem aZg (p:Prop) [Decidable p]:(if p then fO r0 s 0 else r0)=r0:=by split;exact aId s;rfl
theorem CG.kid (h:CG D M X (.mk f n s t ks bs al)) {x:Core}(hx:x∈ks):CG D M X x∧((tyR x).length+2*tlC x+(if f=7 then 1 else 0)≤M)∧m30 x<m30 (.mk f n s t ks bs al):=by
 obtain⟨h1,h2,h3,h4⟩:=h;have g:=fE hx;have gl:m30 x<m30 (.mk f n s t ks bs al):=by rw[m30];omega
 have g2:=(mL (f:=f) (n:=n) (s:=s) (t:=t) (ks:=ks) (bs:=bs) (al:=al)).1 x hx;have g3:=(eZ.1 h2).2.2.1 x hx;rw[aZg] at g3;have g4:(tyR x).length≤(tyR (.mk f n s t ks bs al)).length+(if f=7 then 1 else 0):=by
  by_cases h7:f=7
  ·rw[θ h7];refine dO (a:=s::tyR (.mk f n s t ks bs al)) fun y hy=>?_
   by_cases e:y=s
   ·rw[e];exact ζ
   ·exact κ _ (bI.2 (.inr (.inl ⟨x,hx,hy,.inr e⟩)))
  ·rw[ψ h7];exact dO fun y hy=>bI.2 (.inr (.inl ⟨x,hx,hy,.inl h7⟩))
 have g5:(tyR x).length+2*tlC x+(if f=7 then 1 else 0)≤M:=by split at g2<;>split at g4<;>simp_all<;>omega
 exact⟨⟨(aS.1 h1).2.1 x hx,g3,by omega,by omega⟩,g5,gl⟩
theorem CG.bind (h:CG D M X (.mk f n s t ks bs al)) {x:Bind}(hx:x∈bs):CG D M X x.body∧m30 x.body<m30 (.mk f n s t ks bs al):=by
 obtain⟨h1,h2,h3,h4⟩:=h;have g:=lY hx;have gl:m30 x.body<m30 (.mk f n s t ks bs al):=by rw[m30];omega
 have g2:=(mL (f:=f) (n:=n) (s:=s) (t:=t) (ks:=ks) (bs:=bs) (al:=al)).2.1 x hx;have g4:(tyR x.body).length≤(tyR (.mk f n s t ks bs al)).length:=dO fun y hy=>bI.2 (.inr (.inr (.inl ⟨x,hx,.inr hy⟩)))
 exact⟨⟨(aS.1 h1).2.2.1 x hx,((eZ.1 h2).2.2.2.1 x hx).2,by omega,by omega⟩,gl⟩
theorem CG.alt (h:CG D M X (.mk f n s t ks bs al)) {x:Alt}(hx:x∈al):CG D M X x.body∧m30 x.body<m30 (.mk f n s t ks bs al):=by
 obtain⟨h1,h2,h3,h4⟩:=h;have g:=i7 hx;have gl:m30 x.body<m30 (.mk f n s t ks bs al):=by rw[m30];omega
 have g2:=(mL (f:=f) (n:=n) (s:=s) (t:=t) (ks:=ks) (bs:=bs) (al:=al)).2.2 x hx;have g4:(tyR x.body).length≤(tyR (.mk f n s t ks bs al)).length:=dO fun y hy=>bI.2 (.inr (.inr (.inr ⟨x,hx,hy⟩)))
 exact⟨⟨(aS.1 h1).2.2.2 x hx,(eZ.1 h2).2.2.2.2 x hx,by omega,by omega⟩,gl⟩
theorem CG.ty (h:CG D M X (.mk f n s t ks bs al)):wfS t=true∧fvm t≤M+D∧∀b∈bs,wfS b.ty=true∧fvm b.ty≤M+D:=by
 obtain⟨h1,h2,h3,h4⟩:=h;obtain⟨⟨_,_,I,N,_⟩,_⟩:=aS.1 h1;obtain⟨_,W,_,O,_⟩:=eZ.1 h2;refine⟨I,?_,fun b hb=>?_⟩
 ·have g1:=rU (tn t) t (le_refl _) I;have g2:(tfR t).length≤(tyR (.mk f n s t ks bs al)).length:=iW _ _ (aHv t) fun y hy=>bI.2 (.inl hy)
  omega
 ·have J:=N (bhd b) (Ad.2 ⟨b,hb,rfl⟩);have g1:=rU (tn b.ty) b.ty (le_refl _) J;have g2:(tfR b.ty).length≤(tyR (.mk f n s t ks bs al)).length:=iW _ _ (aHv b.ty) fun y hy=>bI.2 (.inr (.inr (.inl ⟨b,hb,.inl hy⟩)))
  have g3:=(O b hb).1
  exact⟨J,by omega⟩
end
theorem aHh {K:Nat}:∀{l:List Core},(∀x∈l,tyM x≤K)→aP7 l≤K
 | [],_=>by rw[aP7];exact Ak _
 | c::l,h=>by
  rw[aP7];have:=h c ζ;have:=aHh (l:=l) fun x hx=>h x (κ _ hx)
  omega
theorem aHi {K:Nat}:∀{l:List Bind},(∀x∈l,fw x.ty≤K∧tyM x.body≤K)→aHj l≤K
 | [],_=>by rw[aHj];exact Ak _
 | .mk s t c::l,h=>by
  rw[aHj];have h1:fw t≤K∧tyM c≤K:=h _ ζ;have:=aHi (l:=l) fun x hx=>h x (κ _ hx)
  omega
theorem aHk {K:Nat}:∀{l:List Alt},(∀x∈l,tyM x.body≤K)→aNg l≤K
 | [],_=>by rw[aNg];exact Ak _
 | .mk f n s v c::l,h=>by
  rw[aNg];have h1:tyM c≤K:=h _ ζ;have:=aHk (l:=l) fun x hx=>h x (κ _ hx)
  omega
theorem CG.tyM {D M X:Nat}:∀(k:Nat) (c:Core),m30 c≤k→CG D M X c→tyM c≤M+D
 | 0,c,h,_=>by have:=dX c;omega
 | k+1,.mk f n s t ks bs al,h,hc=>by
  obtain⟨h1,h2,h3⟩:=hc.ty;have g1:=aRe h1;have g2:=hc.sc;have g3:=aHh (K:=M+D) (l:=ks) fun x hx=>CG.tyM k x (by have:=(hc.kid hx).2.2;omega) (hc.kid hx).1
  have g4:=aHi (K:=M+D) (l:=bs) fun x hx=>⟨le_trans (aRe (h3 x hx).1) (h3 x hx).2,CG.tyM k x.body (by have:=(hc.bind hx).2;omega) (hc.bind hx).1⟩
  have g5:=aHk (K:=M+D) (l:=al) fun x hx=>CG.tyM k x.body (by have:=(hc.alt hx).2;omega) (hc.alt hx).1
  rw[Go.Proofs.YtockgoadliilhaaGreatDoor.tyM];omega
theorem CG.allT {D M X:Nat}{p:Ty→Prop}(hp:∀t,wfS t=true→fvm t≤M+D→p t):∀(k:Nat) (c:Core),m30 c≤k→CG D M X c→allT p c
 | 0,c,h,_=>by have:=dX c;omega
 | k+1,.mk f n s t ks bs al,h,hc=>by
  obtain⟨h1,h2,h3⟩:=hc.ty;rw[Go.Proofs.YtockgoadliilhaaGreatDoor.allT]
  exact⟨hp t h1 h2,sE.2 fun x hx=>CG.allT hp k x (by have:=(hc.kid hx).2.2;omega) (hc.kid hx).1,
   sF.2 fun x hx=>⟨hp x.ty (h3 x hx).1 (h3 x hx).2,CG.allT hp k x.body (by have:=(hc.bind hx).2;omega) (hc.bind hx).1⟩,
   sH.2 fun x hx=>CG.allT hp k x.body (by have:=(hc.alt hx).2;omega) (hc.alt hx).1⟩
theorem CG.tyG {D M X:Nat}(I:cK 540000000000) (J:M+D≤700000) {c:Core}(hc:CG D M X c):Go.Proofs.YtockgoadliilhaaGreatDoor.allT TyG c:=hc.allT (fun t h1 h2=>aLh I t h1 (by omega)) _ c (le_refl _)
theorem CG.types {D M X:Nat}(I:M+D≤700000) {c:Core}(hc:CG D M X c):aW Tryz.prog 74 [.pa (aB c)] [] (bN (tyR c)) []∧(tyR c).length≤700000:=by
 have h1:=hc.tyM _ c (le_refl _);have h2:=bZ c;have h3:=hc.sz;have h4:Big=250000000000:=rfl;exact⟨zP _ c (le_refl _) (by omega) (by omega),by have:=hc.sc;omega⟩
noncomputable def sTR:Nat→Core→Str→Ty→Core
 | 0,c,_,_=>c
 | k+1,.mk f n nm t ks bs al,name,u=>
  if f=7∧(nm=name∨¬name∈tyR (.mk f n nm t ks bs al)) then .mk f n nm t ks bs al
  else if f=7∧nm∈tfR u then
   gU (fun t=>kB t [(name,u)]) (fun x=>sTR k x name u) (.mk f n (bA (tfR u++ks.flatMap tyR)) t (ks.map fun x=>sTR k x nm (vT (bA (tfR u++ks.flatMap tyR)))) bs al)
  else gU (fun t=>kB t [(name,u)]) (fun x=>sTR k x name u) (.mk f n nm t ks bs al)
structure UOk (u:Ty):Prop where
 wf:wfS u=true
 fv:fvm u≤700000
theorem UOk.ps {u:Ty}(h:UOk u) (name:Str):PsOk [(name,u)]:=⟨by simp,fun p hp=>by rw[Ac.1 hp];exact⟨h.wf,h.fv⟩,by simp⟩
theorem UOk.var (z:Str):UOk (vT z):=⟨aHc,by unfold vT;rw[aKx];decide⟩
theorem sW (ps:List (Str×Ty)):kB zTy ps=zTy:=aAu (tn zTy) zTy (le_refl _) rfl ps fun p _ h=>by
 have:tfR zTy=[]:=rfl;rw[this] at h;cases h
theorem aYy (A:Alg) (ρ:Str→Nat) (name:Str) (u:Ty):aIi A ρ [(name,u)]=fO ρ name (tW A u ρ):=by
 funext x;unfold aIi fO;by_cases e:x=name
 ·rw[θ e,Cg (by simp[e])]
 ·rw[ψ e,Ch (by simp;exact fun h=>e h.symm)];rfl
structure SB (X:Nat) (c:Core) (name:Str) (u:Ty) (r:Core):Prop where
 imp:aW Tryz.prog 31 [.pa (aB c),Go.AM.T name,tyV u] [] (.pa (aB r)) []
 q:cB (QL X) r
 cw:∀(A:Alg) (E:Nat) (ρ:Str→Nat),cw A E r ρ≤cw A E c (fO ρ name (tW A u ρ))
 ty:∀x∈tyR r,x∈tyR c∨x∈tfR u
 tl:tlC r≤tlC c
 sz:m30 r≤m30 c
theorem wK {s s':Str}{N I:List (Str×Ty)}{O J:List (Str×List Str)}(hs:w30 s'≤w30 s) (hb:I.map (·.1)=N.map (·.1)) (ha:J=O):lw s' I J≤lw s N O:=by
 subst ha;unfold lw;have e:∀l:List (Str×Ty),(l.map fun p=>1+w30 p.1)=(l.map (·.1)).map fun x=>1+w30 x:=fun l=>by rw[A1];rfl
 rw[e N,e I,hb];omega
section
variable {X:Nat}{ts:Ty→Ty}{sb:Core→Core}{f n:Int}{nm nm1:Str}{t:Ty}{ks ks1:List Core}{bs:List Bind}{al:List Alt}
theorem aFr (h:QL X f nm t ks.length (bs.map bhd) (al.map ahd)) (hn:w30 nm1≤w30 nm) (O:f=5→nm1=nm) (W:f=7→¬nm1=[]) (hk:ks1.length=ks.length) (hz:ts zTy=zTy) (h0:wfS (ts t)=true) (hb:∀b∈bs,wfS (ts b.ty)=true)
  (h1:∀x∈ks1,cB (QL X) (sb x)) (h2:∀b∈bs,cB (QL X) (sb b.body)) (h3:∀a∈al,cB (QL X) (sb a.body)):cB (QL X) (gU ts sb (.mk f n nm1 t ks1 bs al)):=by
 obtain⟨g1,g2,g3,g4,g5,g6,g7,g8⟩:=h;rw[gU];have Y:(al.map fun a=>Alt.mk a.form a.n a.name a.vars (sb a.body)).map ahd=al.map ahd:=by rw[A1];rfl
 have Z:((bs.map fun b=>Bind.mk b.name (ts b.ty) (sb b.body)).map bhd).map (·.1)=(bs.map bhd).map (·.1):=by rw[A1,A1,A1];rfl
 refine aS.2 ⟨⟨?_,fun h7=>⟨by rw[(g2 h7).1];exact hz,W h7⟩,h0,fun p hp=>?_,le_trans (wK hn Z Y) g5,fun h5=>by rw[O h5];exact g6 h5,fun p hp=>?_,by rw[Y];exact g8⟩,fun x hx=>?_,fun x hx=>?_,fun x hx=>?_⟩
 ·rw[ξ,ξ,ξ,ξ,ξ,hk];rw[ξ,ξ] at g1;exact g1
 ·obtain⟨b,I,rfl⟩:=Ad.1 hp;obtain⟨N,J,rfl⟩:=Ad.1 I;exact hb N J
 ·obtain⟨b,I,rfl⟩:=Ad.1 hp;obtain⟨N,J,rfl⟩:=Ad.1 I;exact g7 (bhd N) (Ad.2 ⟨N,J,rfl⟩)
 ·obtain⟨y,hy,rfl⟩:=Ad.1 hx;exact h1 y hy
 ·obtain⟨y,hy,rfl⟩:=Ad.1 hx;exact h2 y hy
 ·obtain⟨y,hy,rfl⟩:=Ad.1 hx;exact h3 y hy
theorem aC9 (hf:tlC (.mk f n nm1 t ks1 bs al)≤tlC (.mk f n nm t ks bs al)) (h1:∀x∈ks1,tlC (sb x)≤tlC x) (h2:∀b∈bs,tlC (sb b.body)≤tlC b.body) (h3:∀a∈al,tlC (sb a.body)≤tlC a.body):
  tlC (gU ts sb (.mk f n nm1 t ks1 bs al))≤tlC (.mk f n nm t ks bs al):=by
 refine le_trans ?_ hf;rw[gU]
 conv=>rhs;rw[tlC]
 refine xY.2 ⟨fun x hx=>?_,fun x hx=>?_,fun x hx=>?_⟩
 ·obtain⟨y,hy,rfl⟩:=Ad.1 hx;exact le_trans (h1 y hy) (le_trans (aAx.1 (le_refl _) y hy) (le_max_left ..))
 ·obtain⟨y,hy,rfl⟩:=Ad.1 hx;exact le_trans (h2 y hy) (le_trans (aAy.1 (le_refl _) y hy) (le_trans (le_max_left ..) (le_max_right ..)))
 ·obtain⟨y,hy,rfl⟩:=Ad.1 hx;exact le_trans (h3 y hy) (le_trans (aAz.1 (le_refl _) y hy) (le_trans (le_max_right ..) (le_max_right ..)))
end
theorem aFv {z:Str}:tfR (vT z)=[z]:=by unfold vT;rw[tfR,θ rfl]
theorem aB5 (hI:cK 540000000000) {D M X:Nat}(hMD:M+D≤700000):∀(k:Nat) (c:Core),m30 c≤k→CG D M X c→∀(name:Str) (u:Ty),UOk u→SB X c name u (sTR k c name u):=by
 intro k
 induction k with
 | zero=>intro c h;have:=dX c;omega
 | succ k ih=>
 intro c h hc name u hu;have hTG:=hc.tyG hI hMD;obtain⟨hty,htl⟩:=hc.types hMD;have hcs:=bZ c;have hsz:=hc.sz;have hBig:Big=250000000000:=rfl;have hfr:=nV (tn u) u (le_refl _) hu.wf (le_trans hu.fv (by decide));have hfl:=nM u;have hufv:=hu.fv;obtain⟨f,n,nm,t,ks,bs,al⟩:=c;obtain⟨ht0,ht1,W⟩:=hc.ty;have hq:=hc.q;obtain⟨q1,q2,q3,q4⟩:=aS.1 hq;rw[sTR];have hps:=hu.ps name;have htt:∀v,wfS v=true→fvm v≤M+D→wfS (kB v [(name,u)])=true∧aW Tryz.prog 78 [tyV v,bN [name],.one (.c (.sl 4 [bD u]))] [] (tyV (kB v [(name,u)])) []:=fun v h1 h2=>aRm hI (tn v) v (le_refl _) h1 (by omega) _ hps
 have hcwt:∀v,wfS v=true→fvm v≤M+D→∀A ρ,tW A (kB v [(name,u)]) ρ≤tW A v (fO ρ name (tW A u ρ)):=fun v h1 h2 A ρ=>by
  have:=aVa A (tn v) v (le_refl _) h1 (by omega) _ hps ρ;rwa [aYy] at this
 have htft:∀v,wfS v=true→∀x∈tfR (kB v [(name,u)]),x∈tfR v∨x∈tfR u:=fun v h1 x hx=>by
  rcases aHt (tn v) v (le_refl _) h1 _ x hx with h | ⟨p,hp,_,h⟩
  ·exact .inl h.1
  ·rw[Ac.1 hp] at h;exact .inr h
 by_cases h7:f=7
 ·subst h7;obtain⟨⟨kid,rfl⟩,rfl,rfl⟩:=dD hq (.inr (.inr rfl));obtain⟨g1,g2,g3⟩:=hc.kid (x:=kid) ζ;rw[θ rfl] at g2;obtain rfl:t=zTy:=(q1.2.1 rfl).1
  have hz0:tfR zTy=[]:=rfl;by_cases hs:nm=name∨¬name∈tyR (.mk 7 n nm zTy [kid] [] [])
  ·rw[θ ⟨rfl,hs⟩];have hno:¬name∈tyR (.mk 7 n nm zTy [kid] [] []):=by
    rcases hs with rfl | hs
    ·intro hin;rcases bI.1 hin with h | ⟨x,_,_,h | h⟩ | ⟨b,hb,_⟩ | ⟨a,ha,_⟩
     ·rw[hz0] at h;cases h
     ·exact h rfl
     ·exact h rfl
     ·cases hb
     ·cases ha
    ·exact hs
   refine⟨aLl 7 n nm name zTy u [kid] [] [] (by omega) hTG rfl ?_,hq,fun A E ρ=>?_,fun x hx=>.inl hx,le_refl _,le_refl _⟩
   ·by_cases e:nm=name
    ·exact .inl e
    ·exact .inr ⟨e,_,hty,hno,by omega⟩
   ·refine le_of_eq (nP fun x hx=>?_);unfold fO;rw[ψ fun e=>hno (by rw[←e];exact hx)]
  have hne:nm≠name:=fun e=>hs (.inl e)
  have hin:name∈tyR (.mk 7 n nm zTy [kid] [] []):=Classical.byContradiction fun e=>hs (.inr e)
  have hink:name∈tyR kid:=by
   rcases bI.1 hin with h | ⟨x,hx,h,_⟩ | ⟨b,hb,_⟩ | ⟨a,ha,_⟩
   ·rw[hz0] at h;cases h
   ·rw[←Ac.1 hx];exact h
   ·cases hb
   ·cases ha
  rw[ψ fun e=>hs e.2];obtain⟨hkty,hktl⟩:=g1.types hMD;have hend:∀(nm1:Str) (I:Core),w30 nm1≤w30 nm→CG D M X I→m30 I≤m30 kid→tlC I≤tlC kid→(∀x∈tyR I,x=nm1∨x∈tyR kid∨x∈tfR u)→(∀x∈tyR I,x=nm→nm1=nm∨nm∈tfR u)→¬nm1∈tfR u→¬nm1=[]→
    (∀(A:Alg) (E:Nat) (ρ:Str→Nat),cw A E I (fO (fO ρ nm1 E) name (tW A u ρ))≤cw A E kid (fO (fO ρ name (tW A u ρ)) nm E))→
    aW Tryz.prog 75 [.one (.vp 700 0),bN (tfR u)] (gHl 7 n nm zTy [kid] [] []) (.tup []) (gHl 7 n nm1 zTy [I] [] [])→
    SB X (.mk 7 n nm zTy [kid] [] []) name u (gU (fun t=>kB t [(name,u)]) (fun x=>sTR k x name u) (.mk 7 n nm1 zTy [I] [] [])):=fun nm1 I hw hk1 hkm hkt hkx hky hno hn1 hkc himp=>by
   have hS:=ih I (by omega) hk1 name u hu;refine⟨zK 7 n nm nm1 name zTy u [kid] [I] [] [] (fun t=>kB t [(name,u)]) (fun x=>sTR k x name u) (by omega) hTG rfl (fun _=>⟨hne,rfl,rfl,_,_,hty,hin,by omega,hfr,himp⟩) (fun e=>absurd rfl e) (fun v hv=>?_) (fun x hx=>?_),?_,fun A E ρ=>?_,fun x hx=>?_,?_,?_⟩
   ·rcases hv with rfl | ⟨b,hb,_⟩
    ·exact(htt zTy rfl ht1).2
    ·cases hb
   ·rcases hx with hx | ⟨b,hb,_⟩ | ⟨a,ha,_⟩
    ·rw[Ac.1 hx];exact hS.imp
    ·cases hb
    ·cases ha
   ·exact aFr (ks:=[kid]) (nm:=nm) q1 hw (fun e=>absurd e (by decide)) (fun _=>hn1) rfl (sW _) (by rw[sW];rfl) (fun b hb=>by cases hb) (fun x hx=>by rw[Ac.1 hx];exact hS.q) (fun b hb=>by cases hb) (fun a ha=>by cases ha)
   ·rw[gU];obtain⟨c0,c1,c2,_,_⟩:=eZ.1 (le_refl (cw A E (.mk 7 n nm zTy [kid] [] []) (fO ρ name (tW A u ρ))));refine eZ.2 ⟨c0,by rw[sW];exact le_trans (le_of_eq (i6 (tn zTy) zTy (le_refl _) fun x hx=>by rw[hz0] at hx;cases hx)) c1,fun x hx=>?_,fun b hb=>(by cases hb),fun a ha=>(by cases ha)⟩;obtain⟨y,hy,rfl⟩:=Ad.1 hx;rw[Ac.1 hy,θ rfl];have c2:=c2 kid ζ;rw[θ rfl] at c2;refine le_trans (hS.cw A E (fO ρ nm1 E)) (le_trans ?_ c2);have e:tW A u (fO ρ nm1 E)=tW A u ρ:=i6 (tn u) u (le_refl _) fun y hy=>by
     unfold fO;rw[ψ fun e=>hno (by rw[←e];exact hy)]
    rw[e];exact hkc A E ρ
   ·rw[gU] at hx;rcases bI.1 hx with h | ⟨y,hy,h,hne'⟩ | ⟨b,hb,_⟩ | ⟨a,ha,_⟩
    ·rw[sW,hz0] at h;cases h
    ·obtain⟨O,J,rfl⟩:=Ad.1 hy;rw[Ac.1 J] at h;have hne':¬x=nm1:=hne'.resolve_left (fun e=>e rfl);rcases hS.ty x h with h | h
     ·rcases hkx x h with h' | h' | h'
      ·exact absurd h' hne'
      ·by_cases e:x=nm
       ·rcases hky x h e with Z | Z
        ·exact absurd (e.trans Z.symm) hne'
        ·exact .inr (by rw[e];exact Z)
       ·exact .inl (bI.2 (.inr (.inl ⟨kid,ζ,h',.inr e⟩)))
      ·exact .inr h'
     ·exact .inr h
    ·cases hb
    ·cases ha
   ·refine aC9 ?_ (fun x hx=>by rw[Ac.1 hx];exact hS.tl) (fun b hb=>by cases hb) (fun a ha=>by cases ha);rw[tlC,tlC,iU,iU,iU,iU];omega
   ·exact aJ8 hw (by rw[cE,cE,cE,cE];omega) (fun x hx=>by rw[Ac.1 hx];exact hS.sz) (fun b hb=>by cases hb) (fun a ha=>by cases ha)
  by_cases hnf:nm∈tfR u
  ·rw[θ ⟨rfl,hnf⟩];have efm:[kid].flatMap tyR=tyR kid:=by simp
   rw[efm,Al,By];have hzo:=mB (tfR u++tyR kid);have hz30:(bA (tfR u++tyR kid)).length≤30:=oK _ (by rw[Aa];omega);have hzn:=wY (tfR u++tyR kid);generalize hze:bA (tfR u++tyR kid)=z at hzo hz30 hzn;have N:=ih kid (by omega) g1 nm (vT z) (UOk.var z);have hkid1:CG D M X (sTR k kid nm (vT z)):=by
    refine⟨N.q,?_,?_,le_trans N.sz g1.sz⟩
    ·have:=N.cw j3 0 r0;have e:tW j3 (vT z) r0=0:=rfl;rw[e,aId] at this;exact le_trans this g1.dep
    ·have h1:=dO (a:=z::tyR kid) (c:=sTR k kid nm (vT z)) fun x hx=>by
      rcases N.ty x hx with h | h
      ·exact κ _ h
      ·rw[aFv] at h;rw[Ac.1 h];exact ζ
     rw[Aj] at h1;have h2:=N.tl;omega
   have hcl:=aFc n nm zTy kid (sTR k kid nm (vT z)) (tfR u) (by omega) hnf hI hkty (by omega) (by rw[hze];exact N.imp);rw[hze] at hcl;refine hend z _ (xT hz30) hkid1 N.sz N.tl (fun x hx=>?_) (fun _ _ _=>.inr hnf) (fun h=>hzo (ω.2 (.inl h))) hzn (fun A E ρ=>?_) hcl
   ·rcases N.ty x hx with h | h
    ·exact .inr (.inl h)
    ·rw[aFv] at h;exact .inl (Ac.1 h)
   ·refine le_trans (N.cw A E _) (le_of_eq (nP fun x hx=>?_));have hzn:¬z=name:=fun e=>hzo (by rw[e];exact ω.2 (.inr hink))
    have e:tW A (vT z) (fO (fO ρ z E) name (tW A u ρ))=E:=by
     unfold vT;rw[tW,θ rfl];unfold fO;rw[ψ hzn,θ rfl]
    rw[e];unfold fO;by_cases e1:x=nm
    ·rw[θ e1,θ e1]
    ·rw[ψ e1,ψ e1];by_cases Z:x=name
     ·rw[θ Z,θ Z]
     ·rw[ψ Z,ψ Z,ψ fun e3=>hzo (by rw[←e3];exact ω.2 (.inr hx))]
  ·rw[ψ fun e=>hnf e.2];refine hend nm kid (le_refl _) g1 (le_refl _) (le_refl _) (fun x hx=>.inr (.inl hx)) (fun _ _ _=>.inl rfl) hnf (q1.2.1 rfl).2 (fun A E ρ=>?_) (aFd n nm zTy kid (tfR u) (by omega) hnf);refine le_of_eq (nP fun x _=>?_);unfold fO;by_cases e1:x=nm
   ·rw[θ e1,θ e1,ψ fun Z=>hne (e1.symm.trans Z)]
   ·rw[ψ e1,ψ e1]
 ·rw[ψ fun e=>h7 e.1,ψ fun e=>h7 e.1];have hk:∀x∈ks,SB X x name u (sTR k x name u):=fun x hx=>ih x (by have:=(hc.kid hx).2.2;omega) (hc.kid hx).1 name u hu
  have hb:∀x∈bs,SB X x.body name u (sTR k x.body name u):=fun x hx=>ih x.body (by have:=(hc.bind hx).2;omega) (hc.bind hx).1 name u hu
  have ha:∀x∈al,SB X x.body name u (sTR k x.body name u):=fun x hx=>ih x.body (by have:=(hc.alt hx).2;omega) (hc.alt hx).1 name u hu
  refine⟨zK f n nm nm name t u ks ks bs al (fun t=>kB t [(name,u)]) (fun x=>sTR k x name u) (by omega) hTG rfl (fun e=>absurd e h7) (fun _=>⟨rfl,rfl⟩) (fun v hv=>?_) (fun x hx=>?_),?_,fun A E ρ=>?_,fun x hx=>?_,?_,?_⟩
  ·rcases hv with rfl | ⟨b,Y,rfl⟩
   ·exact(htt _ ht0 ht1).2
   ·exact(htt _ (W b Y).1 (W b Y).2).2
  ·rcases hx with hx | ⟨b,Y,rfl⟩ | ⟨a,ha',rfl⟩
   ·exact(hk x hx).imp
   ·exact(hb b Y).imp
   ·exact(ha a ha').imp
  ·exact aFr q1 (le_refl _) (fun _=>rfl) (fun e=>absurd e h7) rfl (sW _) (htt t ht0 ht1).1 (fun b Y=>(htt b.ty (W b Y).1 (W b Y).2).1) (fun x hx=>(hk x hx).q) (fun x hx=>(hb x hx).q) (fun x hx=>(ha x hx).q)
  ·rw[gU];obtain⟨c0,c1,c2,c3,c4⟩:=eZ.1 (le_refl (cw A E (.mk f n nm t ks bs al) (fO ρ name (tW A u ρ))));refine eZ.2 ⟨c0,le_trans (hcwt t ht0 ht1 A ρ) c1,fun x hx=>?_,fun x hx=>?_,fun x hx=>?_⟩
   ·obtain⟨y,hy,rfl⟩:=Ad.1 hx;have:=c2 y hy;rw[ψ h7] at this ⊢;exact le_trans ((hk y hy).cw A E ρ) this
   ·obtain⟨y,hy,rfl⟩:=Ad.1 hx;exact⟨le_trans (hcwt y.ty (W y hy).1 (W y hy).2 A ρ) (c3 y hy).1,le_trans ((hb y hy).cw A E ρ) (c3 y hy).2⟩
   ·obtain⟨y,hy,rfl⟩:=Ad.1 hx;exact le_trans ((ha y hy).cw A E ρ) (c4 y hy)
  ·rw[gU] at hx;rcases bI.1 hx with h | ⟨y,hy,h,_⟩ | ⟨y,hy,h⟩ | ⟨y,hy,h⟩
   ·exact(htft t ht0 x h).imp (fun h=>bI.2 (.inl h)) id
   ·obtain⟨O,J,rfl⟩:=Ad.1 hy;exact((hk O J).ty x h).imp (fun h=>bI.2 (.inr (.inl ⟨O,J,h,.inl h7⟩))) id
   ·obtain⟨O,J,rfl⟩:=Ad.1 hy;rcases h with h | h
    ·exact(htft O.ty (W O J).1 x h).imp (fun h=>bI.2 (.inr (.inr (.inl ⟨O,J,.inl h⟩)))) id
    ·exact((hb O J).ty x h).imp (fun h=>bI.2 (.inr (.inr (.inl ⟨O,J,.inr h⟩)))) id
   ·obtain⟨O,J,rfl⟩:=Ad.1 hy;exact((ha O J).ty x h).imp (fun h=>bI.2 (.inr (.inr (.inr ⟨O,J,h⟩)))) id
  ·exact aC9 (le_refl _) (fun x hx=>(hk x hx).tl) (fun x hx=>(hb x hx).tl) (fun x hx=>(ha x hx).tl)
  ·exact aJ8 (le_refl _) (le_refl _) (fun x hx=>(hk x hx).sz) (fun x hx=>(hb x hx).sz) (fun x hx=>(ha x hx).sz)
noncomputable def aB2:Core→List Str→Core
 | .mk f n nm t ks bs al,far=>if nm∈far then .mk f n (bA (far++ks.flatMap tyR)) t (ks.map fun x=>sTR (m30 x) x nm (vT (bA (far++ks.flatMap tyR)))) bs al else .mk f n nm t ks bs al
open Classical in
noncomputable def dA:Nat→Core→Str→Core→Core
 | 0,c,_,_=>c
 | k+1,c,s,b=>if c.form=1∧c.name=s then b else oQ (dA k) s b (if c.form=7∧s∈pfR c then aB2 c (tyR b) else c)
structure RX (X:Nat) (b p r:Core):Prop where
 q:cB (QL X) r
 cw:∀(A:Alg) (E:Nat) (ρ:Str→Nat),cw A E r ρ≤max (cw A E p ρ) (cw A E b ρ)
 ty:∀x∈tyR r,x∈tyR p∨x∈tyR b
 tl:tlC r≤tlC p+tlC b
structure R0 (p q:Core):Prop where
 cw:∀(A:Alg) (E:Nat) (ρ:Str→Nat),cw A E q ρ≤cw A E p ρ
 ty:∀x∈tyR q,x∈tyR p
 tl:tlC q≤tlC p
 sz:m30 q≤m30 p
theorem R0.refl (p:Core):R0 p p:=⟨fun _ _ _=>le_refl _,fun _ h=>h,le_refl _,le_refl _⟩
theorem R0.trans {p q r:Core}(h:R0 p q) (k:R0 q r):R0 p r:=⟨fun A E ρ=>le_trans (k.cw A E ρ) (h.cw A E ρ),fun x hx=>h.ty x (k.ty x hx),le_trans k.tl h.tl,le_trans k.sz h.sz⟩
theorem R0.rx {X:Nat}{b p q r:Core}(h:R0 p q) (k:RX X b q r):RX X b p r:=
 ⟨k.q,fun A E ρ=>le_trans (k.cw A E ρ) (by have:=h.cw A E ρ;omega),fun x hx=>(k.ty x hx).imp (h.ty x) id,by have:=k.tl;have:=h.tl;omega⟩
theorem R0.cg {D M X:Nat}{p q:Core}(h:R0 p q) (hp:CG D M X p) (I:cB (QL X) q):CG D M X q:=
 ⟨I,le_trans (h.cw j3 0 r0) hp.dep,by have:=hp.sc;have:=h.tl;have:=dO (a:=tyR p) h.ty;omega,le_trans h.sz hp.sz⟩
structure TB (X:Nat) (c:Core) (s:Str) (b r:Core):Prop where
 imp:aW Tryz.prog 106 [.pa (aB c),Go.AM.T s,.pa (aB b)] [] (.pa (aB r)) []
 rx:RX X b c r
 sz:∀B,1≤B→m30 b≤31*B→m30 r≤m30 c*B
theorem aNf {z:Str}:tyR (vC z)=[]:=rfl
theorem aSb {z:Str}:tlC (vC z)=0:=rfl
theorem aXm {A:Alg}{E:Nat}{ρ:Str→Nat}{z:Str}:cw A E (vC z) ρ=A.k:=by
 refine Nat.le_antisymm (eZ.2 ⟨le_refl _,?_,fun x hx=>(by cases hx),fun x hx=>(by cases hx),fun x hx=>(by cases hx)⟩) (a0a _)
 exact le_of_eq (i6 (tn zTy) zTy (le_refl _) fun x hx=>by
  have:tfR zTy=[]:=rfl
  rw[this] at hx;cases hx)
theorem TB.r0 {X:Nat}{c:Core}{s z:Str}{r:Core}(hz:z.length≤30) (h:TB X c s (vC z) r):R0 c r:=
 ⟨fun A E ρ=>by have:=h.rx.cw A E ρ;rw[aXm] at this;have:=a0a (A:=A) (E:=E) (ρ:=ρ) c;omega,
  fun x hx=>(h.rx.ty x hx).resolve_right (by rw[aNf];exact not_mem_nil),by have:=h.rx.tl;rw[aSb] at this;omega,
  by have:=h.sz 1 (le_refl _) (by rw[aQ2 hz];exact le_refl _);rwa [mul_one] at this⟩
theorem CG.vC {D M X:Nat}{z:Str}(hz:z.length≤30) (I:31≤X):CG D M X (vC z):=by
 refine⟨aS.2 ⟨⟨rfl,fun h=>by omega,rfl,fun p hp=>(by cases hp),?_,fun h=>by omega,fun p hp=>(by cases hp),fun p hp=>(by cases hp)⟩,fun x hx=>(by cases hx),fun x hx=>(by cases hx),fun x hx=>(by cases hx)⟩,?_,?_,?_⟩
 ·show lw z [] []≤X;unfold lw w30;simp only[By,sum_nil];omega
 ·rw[aXm];exact Ak _
 ·rw[aNf,aSb];exact Ak _
 ·rw[aQ2 hz];decide
section
variable {sb:Core→Str→Core→Core}{P:Core→Prop}{X:Nat}{s:Str}{b:Core}
theorem r8 {ns:List Str}{ps:List Core}(Y:∀p∈ps,P p) (J:∀p,P p→cB (QL X) p) (hz:∀p n z,P p→z.length≤30→P (sb p n (vC z))∧R0 p (sb p n (vC z))) (hs:∀p,P p→RX X b p (sb p s b))
  (hl:(ps.flatMap pfR).length+2*ns.length+(pfR b).length≤540000000000):A2 (RX X b) ps (cD sb s b ns ps).2∧A2 NR ns (cD sb s b ns ps).1:=by
 obtain⟨⟨I,h1,h2⟩,h3⟩:=aDx (sb:=sb) (Rel:=fun p q=>P p→(P q∧R0 p q)) (fun p h=>⟨h,R0.refl p⟩)
  (fun p q r N O h=>by
   obtain⟨Z,a2⟩:=N h;obtain⟨b1,b2⟩:=O Z
   exact⟨b1,a2.trans b2⟩) (s:=s) (b:=b) (ns:=ns) (ps:=ps) (fun p n z W h=>hz p n z h W) hl
 have key:∀{ps I:List Core},A2 (fun p q=>P p→(P q∧R0 p q)) ps I→(∀p∈ps,P p)→A2 (RX X b) ps I∧A2 (RX X b) ps (I.map fun p=>sb p s b):=by
  intro ps I h
  induction h with
  | nil=>intro _;exact⟨.nil,.nil⟩
  | cons r _ ih=>
   intro hp;obtain⟨i1,i2⟩:=ih fun p h=>hp p (κ _ h)
   obtain⟨g1,g2⟩:=r (hp _ ζ);exact⟨.cons ⟨J _ g1,fun A E ρ=>le_trans (g2.cw A E ρ) (le_max_left ..),fun x hx=>.inl (g2.ty x hx),le_trans g2.tl (Nat.le_add_right _ _)⟩ i1,.cons (g2.rx (hs _ g1)) i2⟩
 obtain⟨k1,k2⟩:=key h1 Y;refine⟨?_,h3⟩;rcases h2 with h2 | h2
 ·rw[h2];exact k1
 ·rw[h2];exact k2
end
mutual
theorem lL:∀c:Core,allT (fun _=>True) c
 | .mk f n s t ks bs al=>⟨trivial,uR ks,uS bs,uT al⟩
theorem uR:∀l:List Core,aAg (fun _=>True) l
 | []=>trivial
 | c::l=>⟨lL c,uR l⟩
theorem uS:∀l:List Bind,aAh (fun _=>True) l
 | []=>trivial
 | .mk s t c::l=>⟨trivial,lL c,uS l⟩
theorem uT:∀l:List Alt,aAi (fun _=>True) l
 | []=>trivial
 | .mk f n s v c::l=>⟨lL c,uT l⟩
end
theorem nI:∀{ts:List Ty}{ns:List Str}{ps:List Core},ns.length=ts.length→ps.length=ts.length→(mkB ts ns ps).map Bind.name=ns
 | [],[],_,_,_=>by unfold mkB;rfl
 | t::ts,n::ns,p::ps,h1,h2=>by
  simp only[Aj] at h1 h2;rw[mkB,Al,nI (ts:=ts) (by omega) (by omega)];rfl
section
variable {sb:Core→Str→Core→Core}{X:Nat}{s:Str}{b:Core}{f n:Int}{nm:Str}{t:Ty}{ks:List Core}{bs:List Bind}{al:List Alt}
theorem aUg (h7:f≠7) (hq:cB (QL X) (.mk f n nm t ks bs al)) (hg:A2 (RX X b) (ks++bs.map Bind.body) (cD sb s b (gvN f nm bs) (ks++bs.map Bind.body)).2) (hn:A2 NR (gvN f nm bs) (cD sb s b (gvN f nm bs) (ks++bs.map Bind.body)).1)
  (ha:∀a∈al,A2 (RX X b) [a.body] (cD sb s b a.vars [a.body]).2∧A2 NR a.vars (cD sb s b a.vars [a.body]).1):RX X b (.mk f n nm t ks bs al) (oQ sb s b (.mk f n nm t ks bs al)):=by
 obtain⟨⟨q1,q2,q3,q4,q5,q6,q7,q8⟩,qk,qb,qa⟩:=aS.1 hq;have O:∀a∈al,RX X b a.body (lV sb s b a).body∧A2 NR a.vars (lV sb s b a).vars∧(lV sb s b a).name=a.name:=fun a ha'=>by
  obtain⟨g1,g2⟩:=ha a ha';refine⟨?_,g2,rfl⟩;show RX X b a.body ((cD sb s b a.vars [a.body]).2.headD a.body);cases hx:(cD sb s b a.vars [a.body]).2 with
  | nil=>rw[hx] at g1;cases g1
  | cons y l'=>
   rw[hx] at g1;cases g1 with
   | cons h _=>exact h
 have Y:f=5→bs=[]:=fun h5=>(dD hq (.inl h5)).2.1
 rw[oQ];unfold zNm zKs zBs;generalize cD sb s b (gvN f nm bs) (ks++bs.map Bind.body)=r at hg hn ⊢;obtain⟨J,N⟩:=r;dsimp only at *;have Z:A2 (RX X b) ks (N.take ks.length):=by
  have:=hg.take ks.length;rwa [take_left] at this
 have hB:A2 (RX X b) (bs.map Bind.body) (N.drop ks.length):=by
  have:=hg.drop ks.length;rwa [drop_left] at this
 have aa:(N.drop ks.length).length=bs.length:=by rw[hB.length,ξ]
 have W:∀x∈mkB (bs.map Bind.ty) J (N.drop ks.length),∃y∈bs,RX X b y.body x.body:=fun x hx=>by
  obtain⟨p,hp,h⟩:=hB.mem x.body (mX hx).1;obtain⟨y,hy,rfl⟩:=Ad.1 hp;exact⟨y,hy,h⟩
 have ab:∀x∈mkB (bs.map Bind.ty) J (N.drop ks.length),∃y∈bs,y.ty=x.ty:=fun x hx=>Ad.1 (mX hx).2
 have I:=hn.length;have hbn:((mkB (bs.map Bind.ty) J (N.drop ks.length)).map fun x=>1+w30 x.name).sum≤(bs.map fun x=>1+w30 x.name).sum∧(mkB (bs.map Bind.ty) J (N.drop ks.length)).length=bs.length:=by
  by_cases h5:f=5
  ·have:=Y h5;subst this;show((mkB [] J _).map _).sum≤_∧(mkB [] J _).length=_;unfold mkB;exact⟨le_refl _,rfl⟩
  ·unfold gvN at hn I;rw[ψ h5,Be] at hn I;rw[ξ] at I;have e1:∀l:List Bind,(l.map fun x=>1+w30 x.name)=(l.map Bind.name).map fun v=>1+w30 v:=fun l=>by rw[A1];rfl
   rw[e1,e1,nI (by rw[ξ];exact I) (by rw[ξ];exact aa)];exact⟨aDh hn,by rw[rL (by rw[ξ];exact I) (by rw[ξ];exact aa),ξ]⟩
 have hbh:∀x∈mkB (bs.map Bind.ty) J (N.drop ks.length),nh x.name:=fun x hx=>by
  by_cases h5:f=5
  ·have:=Y h5;subst this;have hx:x∈mkB [] J (N.drop ks.length):=hx;unfold mkB at hx;cases hx
  ·have ac:=hn;unfold gvN at ac I;rw[ψ h5,Be] at ac I;rw[ξ] at I;have ad:x.name∈(mkB (bs.map Bind.ty) J (N.drop ks.length)).map Bind.name:=Ad.2 ⟨x,hx,rfl⟩;rw[nI (by rw[ξ];exact I) (by rw[ξ];exact aa)] at ad;obtain⟨v,hv,hr⟩:=ac.mem _ ad;obtain⟨y,hy,rfl⟩:=Ad.1 hv;exact hr.nh (q7 (bhd y) (Ad.2 ⟨y,hy,rfl⟩))
 have hnm:w30 (if f=5 then J.headD nm else nm)≤w30 nm:=by
  split
  ·rename_i hf;unfold gvN at hn;rw[θ hf] at hn;cases hn with
   | cons h _=>exact h.w
  ·exact le_refl _
 refine⟨aS.2 ⟨⟨?_,fun h=>absurd h h7,q3,fun p hp=>?_,?_,fun h5=>?_,fun p hp=>?_,fun p hp v hv=>?_⟩,fun x hx=>?_,fun x hx=>?_,fun x hx=>?_⟩,fun A E ρ=>?_,fun x hx=>?_,?_⟩
 ·rw[ξ,ξ,ξ,hbn.2,Z.length];rw[ξ,ξ] at q1;exact q1
 ·obtain⟨x,hx,rfl⟩:=Ad.1 hp;obtain⟨y,hy,e⟩:=ab x hx;have:=q4 (bhd y) (Ad.2 ⟨y,hy,rfl⟩);show wfS x.ty=true;rw[←e];exact this
 ·refine le_trans ?_ q5;unfold lw;rw[A1,A1,A1,A1,A1];have ea:(al.map (((fun p:Str×List Str=>1+w30 p.1+(p.2.map fun v=>1+w30 v).sum)∘ahd)∘lV sb s b)).sum≤(al.map ((fun p:Str×List Str=>1+w30 p.1+(p.2.map fun v=>1+w30 v).sum)∘ahd)).sum:=by
   clear ha q1 q5 hq qa q8
   induction al with
   | nil=>exact le_refl _
   | cons a l ih=>
    have h1:=ih fun x hx=>O x (κ _ hx)
    obtain⟨_,h2,h3⟩:=O a ζ;have h2:=aDh h2;simp only[Al,Cb,Function.comp,ahd] at h1 ⊢;rw[h3];omega
  have eb:=hbn.1;have ec:∀l:List Bind,(l.map ((fun p:Str×Ty=>1+w30 p.1)∘bhd)).sum=(l.map fun x=>1+w30 x.name).sum:=fun l=>rfl
  rw[ec,ec];omega
 ·rw[θ h5];unfold gvN at hn;rw[θ h5] at hn;cases hn with
  | cons h _=>exact h.nh (q6 h5)
 ·obtain⟨x,hx,rfl⟩:=Ad.1 hp;exact hbh x hx
 ·obtain⟨a,ha',rfl⟩:=Ad.1 hp;obtain⟨a0,ae,rfl⟩:=Ad.1 ha';obtain⟨w,hw,hr⟩:=(O a0 ae).2.1.mem v hv;exact hr.nh (q8 (ahd a0) (Ad.2 ⟨a0,ae,rfl⟩) w hw)
 ·obtain⟨p,_,h⟩:=Z.mem x hx;exact h.q
 ·obtain⟨y,_,h⟩:=W x hx;exact h.q
 ·obtain⟨a,ha',rfl⟩:=Ad.1 hx;exact(O a ha').1.q
 ·obtain⟨c0,c1,c2,c3,c4⟩:=eZ.1 (le_refl (cw A E (.mk f n nm t ks bs al) ρ));rw[ψ h7] at c2;generalize cw A E (.mk f n nm t ks bs al) ρ=K at *;refine eZ.2 ⟨by omega,by omega,fun x hx=>?_,fun x hx=>⟨?_,?_⟩,fun x hx=>?_⟩
  ·obtain⟨p,hp,h⟩:=Z.mem x hx;rw[ψ h7];have h1:=h.cw A E ρ;have h2:=c2 p hp;omega
  ·obtain⟨y,hy,e⟩:=ab x hx;rw[←e];have:=(c3 y hy).1
   omega
  ·obtain⟨y,hy,h⟩:=W x hx;have h1:=h.cw A E ρ;have h2:=(c3 y hy).2
   omega
  ·obtain⟨a,ha',rfl⟩:=Ad.1 hx;have h1:=(O a ha').1.cw A E ρ;have h2:=c4 a ha';omega
 ·rcases bI.1 hx with h | ⟨y,hy,h,_⟩ | ⟨y,hy,h⟩ | ⟨y,hy,h⟩
  ·exact .inl (bI.2 (.inl h))
  ·obtain⟨p,hp,g⟩:=Z.mem y hy;exact(g.ty x h).imp (fun h=>bI.2 (.inr (.inl ⟨p,hp,h,.inl h7⟩))) id
  ·rcases h with h | h
   ·obtain⟨z,hz,e⟩:=ab y hy;exact .inl (bI.2 (.inr (.inr (.inl ⟨z,hz,.inl (by rw[e];exact h)⟩))))
   ·obtain⟨z,hz,g⟩:=W y hy;exact(g.ty x h).imp (fun h=>bI.2 (.inr (.inr (.inl ⟨z,hz,.inr h⟩)))) id
  ·obtain⟨a,ha',rfl⟩:=Ad.1 hy;exact((O a ha').1.ty x h).imp (fun h=>bI.2 (.inr (.inr (.inr ⟨a,ha',h⟩)))) id
 ·obtain⟨d1,d2,d3⟩:=mL (f:=f) (n:=n) (s:=nm) (t:=t) (ks:=ks) (bs:=bs) (al:=al);rw[ψ h7] at d1;generalize tlC (.mk f n nm t ks bs al)=K at *;have:=(xY (K:=K+tlC b) (f:=f) (n:=n) (s:=(if f=5 then J.headD nm else nm)) (t:=t) (ks:=N.take ks.length) (bs:=mkB (bs.map Bind.ty) J (N.drop ks.length)) (al:=al.map (lV sb s b))).2 ⟨fun x hx=>?_,fun x hx=>?_,fun x hx=>?_⟩
  ·rwa [ψ h7,Bd] at this
  ·obtain⟨p,hp,h⟩:=Z.mem x hx;have:=h.tl;have:=d1 p hp;omega
  ·obtain⟨y,hy,h⟩:=W x hx;have:=h.tl;have:=d2 y hy;omega
  ·obtain⟨a,ha',rfl⟩:=Ad.1 hx;have:=(O a ha').1.tl;have:=d3 a ha';omega
end
theorem uF (hI:cK 540000000000) {D M X:Nat}(ag:M+D≤700000) (hX:31≤X):∀(k:Nat) (c:Core),m30 c≤k→CG D M X c→∀(s:Str) (b:Core),CG D M X b→TB X c s b (dA k c s b):=by
 intro k
 induction k with
 | zero=>intro c h;have:=dX c;omega
 | succ k ih=>
 intro c h hc s b hb;have hTG:=hc.tyG hI ag;have hTGb:=hb.tyG hI ag;have hcs:=bZ c;have hbs:=bZ b;have hsz:=hc.sz;have hszb:=hb.sz;have hBig:Big=250000000000:=rfl;have hpfb:=jX b;have hpfc:=jX c;have ah:=oN (aU c) c (le_refl _) (by omega);have hfreeb:=oN (aU b) b (le_refl _) (by omega);obtain⟨hbty,hbtl⟩:=hb.types ag;have hm31:=dX c;have hb31:=dX b;obtain⟨f,n,nm,t,ks,bs,al⟩:=c;have hq:=hc.q;rw[dA];by_cases hv:f=1∧nm=s
 ·rw[θ (show(Core.mk f n nm t ks bs al).form=1∧(Core.mk f n nm t ks bs al).name=s from hv)];exact⟨aLj f n nm t ks bs al s b hv (by omega) hTGb,⟨hb.q,fun A E ρ=>le_max_right ..,fun x hx=>.inr hx,le_add_left _ _⟩,fun B _ hb'=>le_trans hb' (Ax _ hm31)⟩
 rw[ψ (show ¬((Core.mk f n nm t ks bs al).form=1∧(Core.mk f n nm t ks bs al).name=s) from hv)]
 let P:Core→Prop:=fun x=>m30 x<m30 (.mk f n nm t ks bs al)∧CG D M X x
 have Z:∀p,P p→∀n' b',CG D M X b'→TB X p n' b' (dA k p n' b'):=fun p hp n' b' hb'=>ih p (by have:=hp.1;omega) hp.2 n' b' hb'
 have hz:∀p m z,P p→z.length≤30→P (dA k p m (vC z))∧R0 p (dA k p m (vC z)):=fun p m z hp O=>by
  have h1:=Z p hp m (vC z) (CG.vC O hX);have h2:=h1.r0 O;exact⟨⟨lt_of_le_of_lt h2.sz hp.1,h2.cg hp.2 h1.rx.q⟩,h2⟩
 have hfree:∀p,P p→aW Tryz.prog 125 [.pa (aB p)] [] (bN (pfR p)) []:=fun p hp=>oN (aU p) p (le_refl _) (by have:=bZ p;have:=hp.1;omega)
 have hok:∀ps,(∀p∈ps,P p)→PutOk (dA k) P s b ps:=fun ps hps=>⟨hps,fun p hp=>hfree p (hps p hp),hfreeb,fun p m z hp O=>(hz p m z hp O).1,fun p m z hp O=>(Z p hp m (vC z) (CG.vC O hX)).imp,fun p hp=>(Z p hp s b hb).imp,hI⟩
 have hPq:∀p,P p→cB (QL X) p:=fun p hp=>hp.2.q
 have hS:∀p,P p→RX X b p (dA k p s b):=fun p hp=>(Z p hp s b hb).rx
 have hSB:∀B,1≤B→m30 b≤31*B→∀p,P p→wfC (dA k p s b)=true∧allT (fun _=>True) (dA k p s b)∧m30 (dA k p s b)≤m30 p*B:=fun B Y ab p hp=>by
  have h1:=Z p hp s b hb;exact⟨aAn _ h1.rx.q,lL _,h1.sz B Y ab⟩
 have hPQ:∀p,P p→wfC p=true∧allT (fun _=>True) p:=fun p hp=>⟨aAn _ hp.2.q,lL _⟩
 have hzs:∀p m z,P p→z.length≤30→P (dA k p m (vC z))∧m30 (dA k p m (vC z))≤m30 p:=fun p m z hp O=>⟨(hz p m z hp O).1,(hz p m z hp O).2.sz⟩
 by_cases h7:f=7
 ·subst h7;obtain⟨⟨kid,rfl⟩,rfl,rfl⟩:=dD hq (.inr (.inr rfl));obtain⟨g1,g2,g3⟩:=hc.kid (x:=kid) ζ;rw[θ rfl] at g2;obtain⟨q1,_⟩:=aS.1 hq;have hnmn:¬nm=[]:=(q1.2.1 rfl).2
  obtain rfl:t=zTy:=(q1.2.1 rfl).1
  have hz0:tfR zTy=[]:=rfl;have aa:∀ac,gvN 7 ac []=[]:=fun ac=>by unfold gvN;rw[ψ (by decide)];rfl
  have easm:∀ac I,oQ (dA k) s b (.mk 7 n ac zTy [I] [] [])=.mk 7 n ac zTy ((cD (dA k) s b [] [I]).2.take 1) [] []:=fun ac I=>by
   rw[oQ];unfold zNm zKs zBs;rw[aa,ψ (by decide)];rfl
  have hpk:P kid:=⟨g3,g1⟩
  have hpfk:pfR (.mk 7 n nm zTy [kid] [] [])=pfP [] [] (pfR kid):=by
   rw[pfR,ψ (by decide),o5,o5,oX,pJ,aa]
  have hmem:∀x,x∈pfR (.mk 7 n nm zTy [kid] [] [])↔x∈pfR kid:=fun x=>by
   rw[hpfk];constructor
   ·intro hx;have key:∀(l o:List Str),x∈pfP [] o l→x∈o∨x∈l:=by
     intro l
     induction l with
     | nil=>intro o h;exact .inl h
     | cons y l ih2=>
      intro o h;rcases ih2 (pfG [] o y) h with h | h
      ·unfold pfG at h;rw[ψ (by simp)] at h;rcases wF.1 h with h | h
       ·exact .inl h
       ·exact .inr (by rw[h];exact ζ)
      ·exact .inr (κ _ h)
    rcases key _ _ hx with h | h
    ·cases h
    ·exact h
   ·exact fun hx=>rD hx (by simp)
  have hlk:∀I,P I→(([I]:List Core).flatMap pfR).length+2*(gvN 7 nm []).length+(pfR b).length≤540000000000:=fun I W=>by
   rw[aa];have:=jX I;have:=W.1;simp only[Ci,Cy,A8,length_nil];omega
  by_cases hin:s∈pfR (.mk 7 n nm zTy [kid] [] [])
  ·rw[θ (show(Core.mk 7 n nm zTy [kid] [] []).form=7∧_ from⟨rfl,hin⟩)];have hink:=(hmem s).1 hin;have hend:∀(nm1:Str) (I:Core),w30 nm1≤w30 nm→P I→m30 I≤m30 kid→tlC I≤tlC kid→(∀x∈tyR I,x=nm1∨x∈tyR kid)→(∀x∈tyR I,x=nm→nm1=nm∨nm∈tyR b)→¬nm1∈tyR b→¬nm1=[]→
     (∀(A:Alg) (E:Nat) (ρ:Str→Nat),cw A E I (fO ρ nm1 E)≤cw A E kid (fO ρ nm E))→
     aW Tryz.prog 75 [.one (.vp 700 0),bN (tyR b)] (gHl 7 n nm zTy [kid] [] []) (.tup []) (gHl 7 n nm1 zTy [I] [] [])→
     TB X (.mk 7 n nm zTy [kid] [] []) s b (oQ (dA k) s b (.mk 7 n nm1 zTy [I] [] [])):=fun nm1 I hw W hkm hkt hkx hky hno hn1 hkc himp=>by
    have J:=oM (dA k) P 7 n nm nm1 zTy [kid] [I] [] [] s b (by omega) hTG hv rfl (fun e=>absurd e (by decide)) (fun _=>⟨rfl,rfl,_,ah,by omega,fun _=>⟨_,hbty,himp⟩,fun e=>absurd hin e⟩) (fun e=>absurd rfl e)
     (hok _ fun p hp=>by
      have:p=I:=by simpa using hp
      rw[this];exact W) (fun a ha=>by cases ha) (by
      have h1:=hlk I W;rw[aa] at h1;simp only[By,A8,length_nil,Aj] at h1 ⊢;have:=jX I;have:=W.1;simp only[Ci,Cy,A8] at h1 ⊢
      omega) (fun a ha=>by cases ha)
    obtain⟨hA,_⟩:=r8 (sb:=dA k) (P:=P) (X:=X) (s:=s) (b:=b) (ns:=[]) (ps:=[I]) (fun p hp=>by rw[Ac.1 hp];exact W) hPq hz hS (by have:=hlk I W;rwa [aa] at this);rw[easm] at J ⊢;have hszB:∀B,1≤B→m30 b≤31*B→m30 (.mk 7 n nm1 zTy ((cD (dA k) s b [] [I]).2.take 1) [] [])≤m30 (.mk 7 n nm zTy [kid] [] [])*B:=fun B Y ab=>by
     have hg:=aBj (sb:=dA k) (P:=P) (T:=fun _=>True) (s:=s) (b:=b) (ns:=[]) (ps:=[I]) Y (fun p hp=>by rw[Ac.1 hp];exact W) hzs hPQ (hSB B Y ab) (by have:=hlk I W;rwa [aa] at this);have hsm:=aEi (hg.sm.take 1);have e:([I]:List Core).take 1=[I]:=rfl;rw[e,cE,cE,Bu] at hsm;rw[m30,m30,fF,gP,cE,cE,Bu,Bu,Bu,A0];have h5:1+w30 nm1≤(1+w30 nm)*B:=le_trans (by omega) (Bg _ Y);have h6:m30 I*B≤m30 kid*B:=Ax _ hkm;omega
    cases hx:(cD (dA k) s b [] [I]).2 with
    | nil=>rw[hx] at hA;cases hA
    | cons y l'=>
     rw[hx] at hA J hszB;cases hA with
     | cons hy _=>
      refine⟨J,⟨aS.2 ⟨⟨rfl,fun _=>⟨rfl,hn1⟩,rfl,fun p hp=>(by cases hp),?_⟩,fun x hx=>?_,fun x hx=>(by cases hx),fun x hx=>(by cases hx)⟩,fun A E ρ=>?_,fun x hx=>?_,?_⟩,hszB⟩
      ·exact⟨le_trans (wK hw rfl rfl) q1.2.2.2.2.1,fun e=>absurd e (by decide),fun p hp=>(by cases hp),fun p hp=>(by cases hp)⟩
      ·have:x=y:=by simpa using hx
       rw[this];exact hy.q
      ·obtain⟨c0,c1,c2,_,_⟩:=eZ.1 (le_refl (cw A E (.mk 7 n nm zTy [kid] [] []) ρ));have c2:=c2 kid ζ;rw[θ rfl] at c2;refine eZ.2 ⟨by omega,by omega,fun x hx=>?_,fun x hx=>(by cases hx),fun x hx=>(by cases hx)⟩;have:x=y:=by simpa using hx
       rw[this,θ rfl];have h1:=hy.cw A E (fO ρ nm1 E);have h2:=hkc A E ρ;have h3:cw A E b (fO ρ nm1 E)=cw A E b ρ:=nP fun y hy=>by
        unfold fO;rw[ψ fun e=>hno (by rw[←e];exact hy)]
       omega
      ·rcases bI.1 hx with h | ⟨z,ai,h,ae⟩ | ⟨z,ai,_⟩ | ⟨z,ai,_⟩
       ·rw[hz0] at h;cases h
       ·have:z=y:=by simpa using ai
        rw[this] at h;have ae:¬x=nm1:=ae.resolve_left (fun e=>e rfl);rcases hy.ty x h with h | h
        ·rcases hkx x h with h' | h'
         ·exact absurd h' ae
         ·by_cases e:x=nm
          ·rcases hky x h e with e2 | e2
           ·exact absurd (e.trans e2.symm) ae
           ·exact .inr (by rw[e];exact e2)
          ·exact .inl (bI.2 (.inr (.inl ⟨kid,ζ,h',.inr e⟩)))
        ·exact .inr h
       ·cases ai
       ·cases ai
      ·have d1:=hy.tl;show tlC (.mk 7 n nm1 zTy [y] [] [])≤tlC (.mk 7 n nm zTy [kid] [] [])+tlC b;rw[tlC,tlC,iU,iU,iU,iU,pQ,oV];omega
   rw[aB2];by_cases ad:nm∈tyR b
   ·rw[θ ad];have efm:[kid].flatMap tyR=tyR kid:=by simp
    rw[efm,Al,By];obtain⟨hkty,hktl⟩:=g1.types ag;have hzo:=mB (tyR b++tyR kid);have hz30:(bA (tyR b++tyR kid)).length≤30:=oK _ (by rw[Aa];omega);have hzn:=wY (tyR b++tyR kid);generalize hze:bA (tyR b++tyR kid)=z at hzo hz30 hzn;have N:=aB5 hI ag (m30 kid) kid (le_refl _) g1 nm (vT z) (UOk.var z);have hkid1:CG D M X (sTR (m30 kid) kid nm (vT z)):=by
     refine⟨N.q,?_,?_,le_trans N.sz g1.sz⟩
     ·have:=N.cw j3 0 r0;have e:tW j3 (vT z) r0=0:=rfl;rw[e,aId] at this;exact le_trans this g1.dep
     ·have h1:=dO (a:=z::tyR kid) (c:=sTR (m30 kid) kid nm (vT z)) fun x hx=>by
       rcases N.ty x hx with h | h
       ·exact κ _ h
       ·rw[aFv] at h;rw[Ac.1 h];exact ζ
      rw[Aj] at h1;have h2:=N.tl;omega
    have hcl:=aFc n nm zTy kid (sTR (m30 kid) kid nm (vT z)) (tyR b) (by omega) ad hI hkty (by omega) (by rw[hze];exact N.imp);rw[hze] at hcl;refine hend z _ (xT hz30) ⟨lt_of_le_of_lt N.sz g3,hkid1⟩ N.sz N.tl (fun x hx=>?_) (fun _ _ _=>.inr ad) (fun h=>hzo (ω.2 (.inl h))) hzn (fun A E ρ=>?_) hcl
    ·rcases N.ty x hx with h | h
     ·exact .inr h
     ·rw[aFv] at h;exact .inl (Ac.1 h)
    ·refine le_trans (N.cw A E _) (le_of_eq (nP fun x hx=>?_));have e:tW A (vT z) (fO ρ z E)=E:=by
      unfold vT;rw[tW,θ rfl];unfold fO;rw[θ rfl]
     rw[e];unfold fO;by_cases e1:x=nm
     ·rw[θ e1,θ e1]
     ·rw[ψ e1,ψ e1,ψ fun e3=>hzo (by rw[←e3];exact ω.2 (.inr hx))]
   ·rw[ψ ad];exact hend nm kid (le_refl _) hpk (le_refl _) (le_refl _) (fun x hx=>.inr hx) (fun _ _ _=>.inl rfl) ad hnmn (fun A E ρ=>le_refl _) (aFd n nm zTy kid (tyR b) (by omega) ad)
  ·rw[ψ (show ¬((Core.mk 7 n nm zTy [kid] [] []).form=7∧s∈pfR (Core.mk 7 n nm zTy [kid] [] [])) from fun h=>hin h.2)];have hnk:¬s∈pfR kid:=fun h=>hin ((hmem s).2 h)
   have J:=oM (dA k) P 7 n nm nm zTy [kid] [kid] [] [] s b (by omega) hTG hv rfl (fun e=>absurd e (by decide)) (fun _=>⟨rfl,rfl,_,ah,by omega,fun e=>absurd e hin,fun _=>⟨rfl,rfl⟩⟩) (fun e=>absurd rfl e)
    (hok _ fun p hp=>by
     have:p=kid:=by simpa using hp
     rw[this];exact hpk) (fun a ha=>by cases ha) (by
     have h1:=hlk kid hpk;rw[aa] at h1;simp only[By,A8,length_nil,Aj] at h1 ⊢;have:=jX kid;have:=hpk.1;simp only[Ci,Cy,A8] at h1 ⊢
     omega) (fun a ha=>by cases ha)
   have e5:cD (dA k) s b [] [kid]=([],[kid]):=by
    unfold cD;rw[ψ];exact fun h=>hnk (by simpa using h.1)
   rw[easm,e5] at J ⊢;have J:aW Tryz.prog 106 [.pa (aB (.mk 7 n nm zTy [kid] [] [])),Go.AM.T s,.pa (aB b)] [] (.pa (aB (.mk 7 n nm zTy [kid] [] []))) []:=J;show TB X (.mk 7 n nm zTy [kid] [] []) s b (.mk 7 n nm zTy [kid] [] []);exact⟨J,⟨hq,fun A E ρ=>le_max_left ..,fun x hx=>.inl hx,Nat.le_add_right _ _⟩,fun B Y _=>Bg _ Y⟩
 ·rw[ψ (show ¬((Core.mk f n nm t ks bs al).form=7∧s∈pfR (Core.mk f n nm t ks bs al)) from fun h=>h7 h.1)];have hP1:∀x∈ks,P x:=fun x hx=>⟨(hc.kid hx).2.2,(hc.kid hx).1⟩
  have hP2:∀x∈bs,P x.body:=fun x hx=>⟨(hc.bind hx).2,(hc.bind hx).1⟩
  have hP3:∀x∈al,P x.body:=fun x hx=>⟨(hc.alt hx).2,(hc.alt hx).1⟩
  have hPs:∀p∈ks++bs.map Bind.body,P p:=fun p hp=>by
   rcases ω.1 hp with hp | hp
   ·exact hP1 p hp
   ·obtain⟨x,hx,rfl⟩:=Ad.1 hp;exact hP2 x hx
  have hm:=hsz;rw[m30] at hm;have hfm:=aK1 (ks++bs.map Bind.body);rw[wJ] at hfm;have hbsb:=wI bs;have hksl:=aEh ks;have hgv:=aKh (f:=f) (nm:=nm) (bs:=bs);have hla:∀a∈al,(pfR a.body).length+2*a.vars.length+(pfR b).length+1≤540000000000:=fun a ha=>by
   have h1:=i7 ha;have h2:=vG a.vars;have h3:=jX a.body;omega
  have hM:((ks++bs.map Bind.body).flatMap pfR).length+2*(1+bs.length)+(pfR b).length+(ks.length+bs.length)≤540000000000:=by omega
  have J:=oM (dA k) P f n nm nm t ks ks bs al s b (by omega) hTG hv rfl (fun hf=>dD hq (.inl hf)) (fun e=>absurd e h7) (fun _=>⟨rfl,rfl⟩) (hok _ hPs) (fun a ha=>hok _ fun p hp=>by rw[Ac.1 hp];exact hP3 a ha) hM hla;have hgl:((ks++bs.map Bind.body).flatMap pfR).length+2*(gvN f nm bs).length+(pfR b).length≤540000000000:=by omega
  have hal':∀a∈al,(([a.body]:List Core).flatMap pfR).length+2*a.vars.length+(pfR b).length≤540000000000:=fun a ha=>by
   have:=hla a ha;simp only[Ci,Cy,A8];omega
  obtain⟨hA,hN⟩:=r8 (sb:=dA k) (P:=P) (X:=X) (s:=s) (b:=b) (ns:=gvN f nm bs) hPs hPq hz hS hgl;have hAa:∀a∈al,A2 (RX X b) [a.body] (cD (dA k) s b a.vars [a.body]).2∧A2 NR a.vars (cD (dA k) s b a.vars [a.body]).1:=fun a ha=>
   r8 (sb:=dA k) (P:=P) (X:=X) (s:=s) (b:=b) (fun p hp=>by rw[Ac.1 hp];exact hP3 a ha) hPq hz hS (hal' a ha)
  refine⟨J,aUg h7 hq hA hN hAa,fun B Y ab=>?_⟩;have hg:=aBj (sb:=dA k) (P:=P) (T:=fun _=>True) (s:=s) (b:=b) (ns:=gvN f nm bs) Y hPs hzs hPQ (hSB B Y ab) hgl;have hga:∀a∈al,PK B (fun _=>True) a.vars [a.body] (cD (dA k) s b a.vars [a.body]):=fun a ha=>aBj Y (fun p hp=>by rw[Ac.1 hp];exact hP3 a ha) hzs hPQ (hSB B Y ab) (hal' a ha)
  exact(aMf (n:=n) (nm:=nm) Y hg hga trivial (fun x hx=>trivial) (fun hf=>dD hq hf) (fun hf=>sI hq hf)).2.2
theorem vZ {G:List Str}{x:Str}:∀{l o:List Str},x∈pfP G o l→x∈o∨(x∈l∧¬x∈G)
 | [],o,h=>.inl h
 | y::l,o,h=>by
  rcases vZ (l:=l) (o:=pfG G o y) h with h | ⟨h,I⟩
  ·unfold pfG at h;split at h
   ·exact .inl h
   ·rename_i hy;rcases wF.1 h with h | h
    ·exact .inl h
    ·exact .inr ⟨by rw[h];exact ζ,by rw[h];exact hy⟩
  ·exact .inr ⟨κ _ h,I⟩
theorem aD0 {G:List Str}{x:Str}:∀{l:List Core}{o:List Str},x∈o5 G l o→x∈o∨∃c∈l,x∈pfR c∧¬x∈G
 | [],o,h=>by rw[o5] at h;exact .inl h
 | c::l,o,h=>by
  rw[o5] at h;rcases aD0 h with h | ⟨d,hd,h⟩
  ·rcases vZ h with h | h
   ·exact .inl h
   ·exact .inr ⟨c,ζ,h⟩
  ·exact .inr ⟨d,κ _ hd,h⟩
theorem aD1 {G:List Str}{x:Str}:∀{l:List Bind}{o:List Str},x∈oX G l o→x∈o∨∃c∈l,x∈pfR c.body∧¬x∈G
 | [],o,h=>by rw[oX] at h;exact .inl h
 | .mk s t c::l,o,h=>by
  rw[oX] at h;rcases aD1 h with h | ⟨d,hd,h⟩
  ·rcases vZ h with h | h
   ·exact .inl h
   ·exact .inr ⟨.mk s t c,ζ,h⟩
  ·exact .inr ⟨d,κ _ hd,h⟩
theorem aD2 {x:Str}:∀{l:List Alt}{o:List Str},x∈pJ l o→x∈o∨∃a∈l,x∈pfR a.body∧¬x∈a.vars
 | [],o,h=>by rw[pJ] at h;exact .inl h
 | .mk f n s v c::l,o,h=>by
  rw[pJ] at h;rcases aD2 h with h | ⟨d,hd,h⟩
  ·rcases vZ h with h | h
   ·exact .inl h
   ·exact .inr ⟨.mk f n s v c,ζ,h⟩
  ·exact .inr ⟨d,κ _ hd,h⟩
section
variable {f n:Int}{nm:Str}{t:Ty}{ks:List Core}{bs:List Bind}{al:List Alt}{x:Str}
theorem gO (hf:f≠1):x∈pfR (.mk f n nm t ks bs al)↔(∃p∈ks++bs.map Bind.body,x∈pfR p∧¬x∈gvN f nm bs)∨∃a∈al,x∈pfR a.body∧¬x∈a.vars:=by
 constructor
 ·intro h;rw[pfR,ψ hf] at h;rcases aD2 h with h | h
  ·rcases aD1 h with h | ⟨b,hb,h⟩
   ·rcases aD0 h with h | ⟨c,hc,h⟩
    ·cases h
    ·exact .inl ⟨c,ω.2 (.inl hc),h⟩
   ·exact .inl ⟨b.body,ω.2 (.inr (Ad.2 ⟨b,hb,rfl⟩)),h⟩
  ·exact .inr h
 ·rintro(⟨p,hp,h1,h2⟩ | ⟨a,ha,h1,h2⟩)
  ·rw[pfR,ψ hf];refine w9 ?_;rcases ω.1 hp with hp | hp
   ·exact w7 (w3 hp h1 h2)
   ·obtain⟨b,hb,rfl⟩:=Ad.1 hp;exact w6 hb h1 h2
  ·rw[pfR,ψ hf];exact w8 ha h1 h2
end
mutual
def mS (σ:Str→Nat):Core→Nat
 | .mk f _ s _ ks bs al=>(if f=1 then σ s else 1+w30 s)+mSs σ ks+mSb σ bs+mSa σ al
def mSs (σ:Str→Nat):List Core→Nat
 | []=>0
 | c::l=>mS σ c+mSs σ l
def mSb (σ:Str→Nat):List Bind→Nat
 | []=>0
 | .mk s _ c::l=>1+w30 s+mS σ c+mSb σ l
def mSa (σ:Str→Nat):List Alt→Nat
 | []=>0
 | .mk _ _ s vs c::l=>1+w30 s+(vs.map fun v=>1+w30 v).sum+mS σ c+mSa σ l
end
mutual
theorem yT {σ:Str→Nat}(h:∀s,1+w30 s≤σ s):∀c:Core,m30 c≤mS σ c
 | .mk f n s t ks bs al=>by
  rw[m30,mS];have:=aJ3 h ks;have:=aJ5 h bs;have:=aJ7 h al;have:=h s;split<;>omega
theorem aJ3 {σ:Str→Nat}(h:∀s,1+w30 s≤σ s):∀l:List Core,cE l≤mSs σ l
 | []=>le_refl _
 | c::l=>by rw[cE,mSs];have:=yT h c;have:=aJ3 h l;omega
theorem aJ5 {σ:Str→Nat}(h:∀s,1+w30 s≤σ s):∀l:List Bind,fF l≤mSb σ l
 | []=>le_refl _
 | .mk s t c::l=>by rw[fF,mSb];have:=yT h c;have:=aJ5 h l;omega
theorem aJ7 {σ:Str→Nat}(h:∀s,1+w30 s≤σ s):∀l:List Alt,gP l≤mSa σ l
 | []=>le_refl _
 | .mk f n s v c::l=>by rw[gP,mSa];have:=yT h c;have:=aJ7 h l;omega
end
mutual
theorem aYh {σ:Str→Nat}{B:Nat}(I:1≤B) (h:∀s,σ s≤(1+w30 s)*B):∀c:Core,mS σ c≤m30 c*B
 | .mk f n s t ks bs al=>by
  rw[m30,mS,A0,A0,A0];have:=aWo I h ks;have:=aWq I h bs;have:=aWr I h al;have:=h s;have:1+w30 s≤(1+w30 s)*B:=Bg _ I;split<;>omega
theorem aWo {σ:Str→Nat}{B:Nat}(I:1≤B) (h:∀s,σ s≤(1+w30 s)*B):∀l:List Core,mSs σ l≤cE l*B
 | []=>by rw[mSs];exact Ak _
 | c::l=>by rw[cE,mSs,A0];have:=aYh I h c;have:=aWo I h l;omega
theorem aWq {σ:Str→Nat}{B:Nat}(I:1≤B) (h:∀s,σ s≤(1+w30 s)*B):∀l:List Bind,mSb σ l≤fF l*B
 | []=>by rw[mSb];exact Ak _
 | .mk s t c::l=>by
  rw[fF,mSb,A0,A0];have:=aYh I h c;have:=aWq I h l;have:1+w30 s≤(1+w30 s)*B:=Bg _ I;omega
theorem aWr {σ:Str→Nat}{B:Nat}(I:1≤B) (h:∀s,σ s≤(1+w30 s)*B):∀l:List Alt,mSa σ l≤gP l*B
 | []=>by rw[mSa];exact Ak _
 | .mk f n s v c::l=>by
  rw[gP,mSa,A0,A0];have:=aYh I h c;have:=aWr I h l;have:1+w30 s+(v.map fun v=>1+w30 v).sum≤(1+w30 s+(v.map fun v=>1+w30 v).sum)*B:=Bg _ I;omega
end
structure Sg (σ:Str→Nat):Prop where
 ge:∀s,1+w30 s≤σ s
 fr:∀l,(bA l).length≤30→σ (bA l)≤31
section
variable {σ:Str→Nat}
theorem aZd {z:Str}:mS σ (vC z)=σ z:=by unfold vC;rw[mS,θ rfl,mSs,mSb,mSa];rfl
theorem aJz {g:Core→Core}:∀{l:List Core},(∀x∈l,mS σ (g x)≤mS σ x)→mSs σ (l.map g)≤mSs σ l
 | [],_=>le_refl _
 | c::l,h=>by
  rw[Al,mSs,mSs];have:=h c ζ;have:=aJz (l:=l) fun x hx=>h x (κ _ hx)
  omega
theorem aJ0 {ts:Ty→Ty}{g:Core→Core}:∀{l:List Bind},(∀x∈l,mS σ (g x.body)≤mS σ x.body)→mSb σ (l.map fun b=>.mk b.name (ts b.ty) (g b.body))≤mSb σ l
 | [],_=>le_refl _
 | .mk s t c::l,h=>by
  rw[Al,mSb,mSb];have h1:=h _ ζ;have h2:=aJ0 (ts:=ts) (l:=l) fun x hx=>h x (κ _ hx)
  simp only[Bind.body,Bind.name] at h1 h2 ⊢;omega
theorem aJ1 {g:Core→Core}:∀{l:List Alt},(∀x∈l,mS σ (g x.body)≤mS σ x.body)→mSa σ (l.map fun a=>.mk a.form a.n a.name a.vars (g a.body))≤mSa σ l
 | [],_=>le_refl _
 | .mk f n s vs c::l,h=>by
  rw[Al,mSa,mSa];have h1:=h _ ζ;have h2:=aJ1 (l:=l) fun x hx=>h x (κ _ hx)
  simp only[Alt.body,Alt.name,Alt.vars] at h1 h2 ⊢;omega
theorem aQ0 {ts:Ty→Ty}{sb:Core→Core}{f n:Int}{nm nm1:Str}{t:Ty}{ks ks1:List Core}{bs:List Bind}{al:List Alt}(I:f=1→nm1=nm) (hn:w30 nm1≤w30 nm) (hk:mSs σ ks1≤mSs σ ks)
  (h1:∀x∈ks1,mS σ (sb x)≤mS σ x) (h2:∀b∈bs,mS σ (sb b.body)≤mS σ b.body) (h3:∀a∈al,mS σ (sb a.body)≤mS σ a.body):
  mS σ (gU ts sb (.mk f n nm1 t ks1 bs al))≤mS σ (.mk f n nm t ks bs al):=by
 rw[gU,mS,mS];have:=aJz h1;have:=aJ0 (ts:=ts) h2;have:=aJ1 h3;by_cases e:f=1
 ·rw[θ e,θ e,I e];omega
 ·rw[ψ e,ψ e];omega
end
theorem kH:∀(k:Nat) (c:Core) (name:Str) (u:Ty),skT (sTR k c name u)=skT c
 | 0,c,_,_=>rfl
 | k+1,.mk f n nm t ks bs al,name,u=>by
  rw[sTR];split
  ·rfl
  ·split
   ·rename_i h;refine aIa (fun h7=>absurd h.1 h7) ?_ (fun x _=>kH k x name u) (fun b _=>kH k b.body name u) (fun a _=>kH k a.body name u);rw[A1];exact A6 fun x _=>kH k x nm _
   ·exact aIa (fun _=>rfl) rfl (fun x _=>kH k x name u) (fun b _=>kH k b.body name u) (fun a _=>kH k a.body name u)
theorem aWi (k:Nat) (c:Core) (name:Str) (u:Ty):pfR (sTR k c name u)=pfR c:=by rw[←aI4,kH,aI4]
theorem aM5 (N:cK 540000000000) {D M X:Nat}(J:M+D≤700000) {kid:Core}(g1:CG D M X kid) (g2:(tyR kid).length+2*tlC kid+1≤M) (k:Nat) (hk:m30 kid≤k) (nm z:Str):CG D M X (sTR k kid nm (vT z)):=by
 have I:=aB5 N J k kid hk g1 nm (vT z) (UOk.var z);refine⟨I.q,?_,?_,le_trans I.sz g1.sz⟩
 ·have:=I.cw j3 0 r0;have e:tW j3 (vT z) r0=0:=rfl;rw[e,aId] at this;exact le_trans this g1.dep
 ·have h1:=dO (a:=z::tyR kid) (c:=sTR k kid nm (vT z)) fun x hx=>by
   rcases I.ty x hx with h | h
   ·exact κ _ h
   ·rw[aFv] at h;rw[Ac.1 h];exact ζ
  rw[Aj] at h1;have h2:=I.tl;omega
theorem aWs (O:cK 540000000000) {D M X:Nat}(I:M+D≤700000) {σ:Str→Nat}:∀(k:Nat) (c:Core),m30 c≤k→CG D M X c→∀(name:Str) (u:Ty),UOk u→mS σ (sTR k c name u)≤mS σ c:=by
 intro k
 induction k with
 | zero=>intro c h;have:=dX c;omega
 | succ k J=>
 intro c h hc name u hu;obtain⟨f,n,nm,t,ks,bs,al⟩:=c;rw[sTR];split
 ·exact le_refl _
 ·split
  ·rename_i h7;obtain⟨rfl,ab⟩:=h7;obtain⟨⟨kid,rfl⟩,rfl,rfl⟩:=dD hc.q (.inr (.inr rfl));obtain⟨g1,g2,g3⟩:=hc.kid (x:=kid) ζ;rw[θ rfl] at g2;obtain⟨_,Z⟩:=g1.types I;have ac:=nM u;have aa:=hu.fv;have W:[kid].flatMap tyR=tyR kid:=by simp
   rw[W,Al,By];have N:(bA (tfR u++tyR kid)).length≤30:=oK _ (by rw[Aa];omega);have h1:=J kid (by omega) g1 nm (vT (bA (tfR u++tyR kid))) (UOk.var _);have Y:=aM5 O I g1 g2 k (by omega) nm (bA (tfR u++tyR kid));have ad:=(aB5 O I k kid (by omega) g1 nm (vT (bA (tfR u++tyR kid))) (UOk.var _)).sz;have h2:=J _ (by omega) Y name u hu;refine aQ0 (fun e=>absurd e (by decide)) (xT N) (by rw[mSs,mSs,mSs,mSs];omega) (fun x hx=>?_) (fun b hb=>by cases hb) (fun a ha=>by cases ha);rw[Ac.1 hx];exact h2
  ·exact aQ0 (fun _=>rfl) (le_refl _) (le_refl _) (fun x hx=>J x (by have:=(hc.kid hx).2.2;omega) (hc.kid hx).1 name u hu) (fun x hx=>J x.body (by have:=(hc.bind hx).2;omega) (hc.bind hx).1 name u hu) (fun x hx=>J x.body (by have:=(hc.alt hx).2;omega) (hc.alt hx).1 name u hu)
def Fr (z:Str):Prop:=∃l,z=bA l
section
variable {sb:Core→Str→Core→Core}{P:Core→Prop}
theorem wT {far:List Str}:∀{ns:List Str}{st:List Str×List Core×List Str},(∀x∈st.1,x∈(kC sb far ns st).1)∧∀n∈ns,n∈(kC sb far ns st).1∨n∈far
 | [],st=>⟨fun _ h=>h,fun n hn=>by cases hn⟩
 | n::ns,st=>by
  obtain⟨h1,h2⟩:=wT (far:=far) (ns:=ns) (st:=eG sb far st n);have e:kC sb far (n::ns) st=kC sb far ns (eG sb far st n):=rfl;rw[e];refine⟨fun x hx=>h1 x ?_,fun m hm=>?_⟩
  ·unfold eG;split<;>exact ω.2 (.inl hx)
  ·rcases Ao.1 hm with rfl | hm
   ·by_cases hf:m∈far
    ·exact .inr hf
    ·refine .inl (h1 m ?_);unfold eG;rw[ψ hf];exact ω.2 (.inr (Ac.2 rfl))
   ·exact h2 m hm
structure RN (p:Core) (out:List Str) (q:Core):Prop where
 pf:∀x∈pfR q,x∈pfR p∨x∈out
 ms:∀σ,Sg σ→mS σ q≤mS σ p
theorem aBu {far:List Str}(hz:∀p n z,P p→Fr z→z.length≤30→P (sb p n (vC z))∧(∀x∈pfR (sb p n (vC z)),x∈pfR p∨x=z)∧∀σ,Sg σ→mS σ (sb p n (vC z))≤mS σ p):
  ∀{ns:List Str} {st:List Str×List Core×List Str},st.2.2.length+ns.length≤540000000000→(∀p∈st.2.1,P p)→A2 (fun p q=>P q∧RN p (kC sb far ns st).1 q) st.2.1 (kC sb far ns st).2.1
 | [],st,_,I=>by
  show A2 (fun p q=>P q∧RN p st.1 q) st.2.1 st.2.1;have key:∀l:List Core,(∀p∈l,P p)→A2 (fun p q=>P q∧RN p st.1 q) l l:=by
   intro l
   induction l with
   | nil=>intro _;exact .nil
   | cons p l Y=>intro h;exact .cons ⟨h p ζ,fun x hx=>.inl hx,fun _ _=>le_refl _⟩ (Y fun q J=>h q (κ _ J))
  exact key _ I
 | n::ns,st,hl,I=>by
  simp only[Aj] at hl;have hg:=rR (sb:=sb) (far:=far) (st:=st) (n:=n);have e:kC sb far (n::ns) st=kC sb far ns (eG sb far st n):=rfl;rw[e];have hf:(bA st.2.2).length≤30:=oK _ (by omega);by_cases hn:n∈far
  ·have es:eG sb far st n=(st.1++[bA st.2.2],st.2.1.map (fun p=>sb p n (vC (bA st.2.2))),st.2.2++[bA st.2.2]):=by unfold eG;rw[θ hn]
   rw[es] at hg ⊢;have O:∀p∈st.2.1.map (fun p=>sb p n (vC (bA st.2.2))),P p:=fun p hp=>by
    obtain⟨q,J,rfl⟩:=Ad.1 hp;exact(hz q n _ (I q J) ⟨_,rfl⟩ hf).1
   have N:=aBu hz (far:=far) (ns:=ns) (st:=(st.1++[bA st.2.2],st.2.1.map (fun p=>sb p n (vC (bA st.2.2))),st.2.2++[bA st.2.2])) (by omega) O;have hout:=(wT (sb:=sb) (far:=far) (ns:=ns) (st:=(st.1++[bA st.2.2],st.2.1.map (fun p=>sb p n (vC (bA st.2.2))),st.2.2++[bA st.2.2]))).1 (bA st.2.2) (ω.2 (.inr (Ac.2 rfl)))
   generalize kC sb far ns (st.1++[bA st.2.2],st.2.1.map (fun p=>sb p n (vC (bA st.2.2))),st.2.2++[bA st.2.2])=r at N hout ⊢;dsimp only at N;have key:∀(l:List Core) (m:List Core),(∀p∈l,P p)→A2 (fun p q=>P q∧RN p r.1 q) (l.map (fun p=>sb p n (vC (bA st.2.2)))) m→A2 (fun p q=>P q∧RN p r.1 q) l m:=by
    intro l
    induction l with
    | nil=>intro m _ h;cases h;exact .nil
    | cons p l W=>
     intro m hp h;cases h with
     | cons h1 h2=>
      obtain⟨_,z2,z3⟩:=hz p n _ (hp p ζ) ⟨_,rfl⟩ hf;refine .cons ⟨h1.1,fun x hx=>?_,fun σ hσ=>le_trans (h1.2.ms σ hσ) (z3 σ hσ)⟩ (W _ (fun q J=>hp q (κ _ J)) h2);rcases h1.2.pf x hx with h | h
      ·rcases z2 x h with h | h
       ·exact .inl h
       ·exact .inr (by rw[h];exact hout)
      ·exact .inr h
   exact key _ _ I N
  ·have es:eG sb far st n=(st.1++[n],st.2.1,st.2.2):=by unfold eG;rw[ψ hn]
   rw[es] at hg ⊢;exact aBu hz (far:=far) (ns:=ns) (st:=(st.1++[n],st.2.1,st.2.2)) (by omega) I
structure RB (s:Str) (b:Core) (ns out:List Str) (p q:Core):Prop where
 pf:∀x∈pfR q,¬x∈out→(x∈pfR p∧¬x=s∧¬x∈ns)∨x∈pfR b
 ms:∀σ,Sg σ→mS σ b≤σ s→mS σ q≤mS σ p
theorem aI1 {s:Str}{b:Core}{ns:List Str}{ps:List Core}(Z:∀p∈ps,P p)
  (hz:∀p n z,P p→Fr z→z.length≤30→P (sb p n (vC z))∧(∀x∈pfR (sb p n (vC z)),x∈pfR p∨x=z)∧∀σ,Sg σ→mS σ (sb p n (vC z))≤mS σ p)
  (hs:∀p,P p→(∀x∈pfR (sb p s b),(x∈pfR p∧¬x=s)∨x∈pfR b)∧∀σ,Sg σ→mS σ b≤σ s→mS σ (sb p s b)≤mS σ p)
  (hl:(ps.flatMap pfR).length+2*ns.length+(pfR b).length≤540000000000):A2 (RB s b ns (cD sb s b ns ps).1) ps (cD sb s b ns ps).2:=by
 unfold cD;split
 ·rename_i hin;have hg:=aBu hz (far:=pfR b) (ns:=ns) (st:=([],ps,ps.flatMap pfR++ns++pfR b)) (by simp only[Aa];omega) Z;have W:=(wT (sb:=sb) (far:=pfR b) (ns:=ns) (st:=([],ps,ps.flatMap pfR++ns++pfR b))).2
  generalize kC sb (pfR b) ns ([],ps,ps.flatMap pfR++ns++pfR b)=r at hg W ⊢;dsimp only at hg ⊢;have key:∀(l m:List Core),A2 (fun p q=>P q∧RN p r.1 q) l m→A2 (RB s b ns r.1) l (m.map fun p=>sb p s b):=by
   intro l m h
   induction h with
   | nil=>exact .nil
   | cons h1 _ J=>
    refine .cons ⟨fun x hx I=>?_,fun σ hσ hb=>le_trans ((hs _ h1.1).2 σ hσ hb) (h1.2.ms σ hσ)⟩ J;rcases(hs _ h1.1).1 x hx with⟨h,Y⟩ | h
    ·rcases h1.2.pf x h with h | h
     ·by_cases N:x∈ns
      ·rcases W x N with O | O
       ·exact absurd O I
       ·exact .inr O
      ·exact .inl ⟨h,Y,N⟩
     ·exact absurd h I
    ·exact .inr h
  exact key _ _ hg
 ·rename_i hin;have key:∀l:List Core,(∀p∈l,p∈ps)→A2 (RB s b ns ns) l l:=by
   intro l
   induction l with
   | nil=>intro _;exact .nil
   | cons p l J=>
    intro h;refine .cons ⟨fun x hx I=>.inl ⟨hx,fun e=>hin ⟨Ck.2 ⟨p,h p ζ,by rw[←e];exact hx⟩,by rw[←e];exact I⟩,I⟩,fun _ _ _=>le_refl _⟩ (J fun q hq=>h q (κ _ hq))
  exact key ps fun p hp=>hp
end
section
variable {σ:Str→Nat}
theorem aWp {l m:List Core}(h:A2 (fun p q=>mS σ q≤mS σ p) l m):mSs σ m≤mSs σ l:=by
 induction h with
 | nil=>exact le_refl _
 | cons r _ I=>rw[mSs,mSs];omega
theorem aQw:∀{ts:List Ty}{ns:List Str}{ps:List Core}{bs:List Bind},A2 (fun(b:Bind) n=>w30 n≤w30 b.name) bs ns→A2 (fun(b:Bind) p=>mS σ p≤mS σ b.body) bs ps→mSb σ (mkB ts ns ps)≤mSb σ bs
 | [],_,_,_,_,_=>by unfold mkB;rw[mSb];exact Ak _
 | t::ts,_,_,_,.nil,.nil=>by unfold mkB;rw[mSb];exact le_refl _
 | t::ts,n::ns,p::ps,.mk s ty c::bs,.cons h1 h2,.cons h3 h4=>by
  unfold mkB;rw[mSb,mSb];have:=aQw (ts:=ts) h2 h4;have h1:w30 n≤w30 s:=h1;have h3:mS σ p≤mS σ c:=h3;omega
end
structure PL (c:Core) (s:Str) (b r:Core):Prop where
 pf:∀x∈pfR r,(x∈pfR c∧¬x=s)∨x∈pfR b
 ms:∀σ,Sg σ→mS σ b≤σ s→mS σ r≤mS σ c
section
variable {sb:Core→Str→Core→Core}{X:Nat}{s:Str}{b:Core}{f n:Int}{nm:Str}{t:Ty}{ks:List Core}{bs:List Bind}{al:List Alt}
theorem aUh (J:f≠1) (hq:cB (QL X) (.mk f n nm t ks bs al)) (hn:A2 NR (gvN f nm bs) (cD sb s b (gvN f nm bs) (ks++bs.map Bind.body)).1)
  (hg:A2 (RB s b (gvN f nm bs) (cD sb s b (gvN f nm bs) (ks++bs.map Bind.body)).1) (ks++bs.map Bind.body) (cD sb s b (gvN f nm bs) (ks++bs.map Bind.body)).2)
  (ha:∀a∈al,A2 NR a.vars (cD sb s b a.vars [a.body]).1∧A2 (RB s b a.vars (cD sb s b a.vars [a.body]).1) [a.body] (cD sb s b a.vars [a.body]).2):PL (.mk f n nm t ks bs al) s b (oQ sb s b (.mk f n nm t ks bs al)):=by
 have hA:∀a∈al,RB s b a.vars (lV sb s b a).vars a.body (lV sb s b a).body∧A2 NR a.vars (lV sb s b a).vars:=fun a ha'=>by
  obtain⟨g2,g1⟩:=ha a ha';refine⟨?_,g2⟩;show RB s b a.vars (cD sb s b a.vars [a.body]).1 a.body ((cD sb s b a.vars [a.body]).2.headD a.body);cases hx:(cD sb s b a.vars [a.body]).2 with
  | nil=>rw[hx] at g1;cases g1
  | cons y l'=>
   rw[hx] at g1;cases g1 with
   | cons h _=>exact h
 have W:f=5→bs=[]:=fun h5=>(dD hq (.inl h5)).2.1
 rw[oQ];unfold zNm zKs zBs;generalize cD sb s b (gvN f nm bs) (ks++bs.map Bind.body)=r at hg hn ⊢;obtain⟨N,Y⟩:=r;dsimp only at *;have hK:=hg.take ks.length;rw[take_left] at hK;have hB:=hg.drop ks.length;rw[drop_left] at hB;have hBl:(Y.drop ks.length).length=bs.length:=by rw[hB.length,ξ]
 have I:=hn.length;have hgv:gvN f (if f=5 then N.headD nm else nm) (mkB (bs.map Bind.ty) N (Y.drop ks.length))=N:=by
  by_cases h5:f=5
  ·have:=W h5;subst this;unfold gvN at hn I ⊢;rw[θ h5] at hn I;rw[θ h5,θ h5]
   match N,I with
   | [y],_=>show [y]++(mkB [] [y] _).map Bind.name=[y];unfold mkB;rfl
  ·unfold gvN at I ⊢;rw[ψ h5,Be] at I;rw[ξ] at I;rw[ψ h5,Be,nI (by rw[ξ];exact I) (by rw[ξ];exact hBl)]
 refine⟨fun x hx=>?_,fun σ hσ hb=>?_⟩
 ·rcases(gO J).1 hx with⟨q,hq',h1,h2⟩ | ⟨a,ha',h1,h2⟩
  ·rw[hgv] at h2;have hqm:q∈Y:=by
    rcases ω.1 hq' with h | h
    ·exact Bs h
    ·obtain⟨y,hy,rfl⟩:=Ad.1 h;exact Cx (mX hy).1
   obtain⟨p,hp,hr⟩:=hg.mem q hqm;rcases hr.pf x h1 h2 with⟨g1,g2,g3⟩ | h
   ·exact .inl ⟨(gO J).2 (.inl ⟨p,hp,g1,g3⟩),g2⟩
   ·exact .inr h
  ·obtain⟨a0,Z,rfl⟩:=Ad.1 ha';rcases(hA a0 Z).1.pf x h1 h2 with⟨g1,g2,g3⟩ | h
   ·exact .inl ⟨(gO J).2 (.inr ⟨a0,Z,g1,g3⟩),g2⟩
   ·exact .inr h
 ·rw[mS,mS,ψ J,ψ J];have e1:w30 (if f=5 then N.headD nm else nm)≤w30 nm:=by
   split
   ·rename_i hf;unfold gvN at hn;rw[θ hf] at hn;cases hn with
    | cons h _=>exact h.w
   ·exact le_refl _
  have e2:mSs σ (Y.take ks.length)≤mSs σ ks:=aWp (A2.mono (fun p q h=>h.ms σ hσ hb) hK);have e3:mSb σ (mkB (bs.map Bind.ty) N (Y.drop ks.length))≤mSb σ bs:=by
   by_cases hf:f=5
   ·have:=W hf;subst this;show mSb σ (mkB [] _ _)≤_;unfold mkB;rw[mSb];exact Ak _
   ·have h4:=hn;unfold gvN at h4;rw[ψ hf,Be] at h4;exact aQw (A2.mapL (A2.mono (fun a b h=>h.w) h4)) (A2.mapL (A2.mono (fun p q h=>h.ms σ hσ hb) hB))
  have e4:mSa σ (al.map (lV sb s b))≤mSa σ al:=by
   clear ha hq
   induction al with
   | nil=>exact le_refl _
   | cons a l ihl=>
    obtain⟨af,an,anm,vs,O⟩:=a;obtain⟨g1,g2⟩:=hA _ ζ;have:=ihl fun x hx=>hA x (κ _ hx)
    have g3:=g1.ms σ hσ hb;have g4:=aDh g2;have e:lV sb s b (Alt.mk af an anm vs O)=.mk af an anm (lV sb s b (Alt.mk af an anm vs O)).vars (lV sb s b (Alt.mk af an anm vs O)).body:=rfl;have g3:mS σ (lV sb s b (Alt.mk af an anm vs O)).body≤mS σ O:=g3;have g4:((lV sb s b (Alt.mk af an anm vs O)).vars.map fun v=>1+w30 v).sum≤(vs.map fun v=>1+w30 v).sum:=g4;rw[Al,e,mSa,mSa];omega
  omega
end
theorem aSh (hI:cK 540000000000) {D M X:Nat}(J:M+D≤700000) (hX:31≤X):∀(k:Nat) (c:Core),m30 c≤k→CG D M X c→∀(s:Str) (b:Core),CG D M X b→PL c s b (dA k c s b):=by
 intro k
 induction k with
 | zero=>intro c h;have:=dX c;omega
 | succ k ih=>
 intro c h hc s b hb;have hBig:Big=250000000000:=rfl;have hsz:=hc.sz;have hszb:=hb.sz;have hpfb:=jX b;obtain⟨hbty,hbtl⟩:=hb.types J;obtain⟨f,n,nm,t,ks,bs,al⟩:=c;have hq:=hc.q;rw[dA];by_cases hv:f=1∧nm=s
 ·rw[θ (show(Core.mk f n nm t ks bs al).form=1∧(Core.mk f n nm t ks bs al).name=s from hv)];obtain⟨rfl,rfl⟩:=hv;refine⟨fun x hx=>.inr hx,fun σ hσ I=>le_trans I ?_⟩;rw[mS,θ rfl];omega
 rw[ψ (show ¬((Core.mk f n nm t ks bs al).form=1∧(Core.mk f n nm t ks bs al).name=s) from hv)]
 let P:Core→Prop:=fun x=>m30 x<m30 (.mk f n nm t ks bs al)∧CG D M X x
 have W:∀p,P p→∀n' b',CG D M X b'→PL p n' b' (dA k p n' b'):=fun p hp n' b' I=>ih p (by have:=hp.1;omega) hp.2 n' b' I
 have O:∀p,P p→∀n' b',CG D M X b'→TB X p n' b' (dA k p n' b'):=fun p hp n' b' I=>uF hI J hX k p (by have:=hp.1;omega) hp.2 n' b' I
 have hz:∀p m z,P p→Fr z→z.length≤30→P (dA k p m (vC z))∧(∀x∈pfR (dA k p m (vC z)),x∈pfR p∨x=z)∧∀σ,Sg σ→mS σ (dA k p m (vC z))≤mS σ p:=fun p m z hp hF N=>by
  have hcg:=CG.vC (D:=D) (M:=M) N hX;have h1:=O p hp m (vC z) hcg;have h2:=h1.r0 N;have h3:=W p hp m (vC z) hcg;refine⟨⟨lt_of_le_of_lt h2.sz hp.1,h2.cg hp.2 h1.rx.q⟩,fun x hx=>(h3.pf x hx).imp And.left fun h=>?_,fun σ hσ=>h3.ms σ hσ ?_⟩
  ·have:pfR (vC z)=[z]:=rfl;rw[this] at h;exact Ac.1 h
  ·rw[aZd];obtain⟨l,rfl⟩:=hF;have:=hσ.fr l N;have:=hσ.ge m;have:=jT m;omega
 have hzR:∀p m z,P p→z.length≤30→P (dA k p m (vC z))∧R0 p (dA k p m (vC z)):=fun p m z hp N=>by
  have h1:=O p hp m (vC z) (CG.vC N hX);have h2:=h1.r0 N;exact⟨⟨lt_of_le_of_lt h2.sz hp.1,h2.cg hp.2 h1.rx.q⟩,h2⟩
 have hPq:∀p,P p→cB (QL X) p:=fun p hp=>hp.2.q
 have hSR:∀p,P p→RX X b p (dA k p s b):=fun p hp=>(O p hp s b hb).rx
 have hs:∀p,P p→(∀x∈pfR (dA k p s b),(x∈pfR p∧¬x=s)∨x∈pfR b)∧∀σ,Sg σ→mS σ b≤σ s→mS σ (dA k p s b)≤mS σ p:=fun p hp=>⟨(W p hp s b hb).pf,(W p hp s b hb).ms⟩
 by_cases hf1:f=1
 ·subst hf1;obtain⟨rfl,rfl,rfl⟩:=sI hq rfl;rw[ψ (fun h=>absurd h.1 (by show ¬(1:Int)=7;decide))];have hne:¬nm=s:=fun e=>hv ⟨rfl,e⟩
  have e:oQ (dA k) s b (.mk 1 n nm t [] [] [])=.mk 1 n nm t [] [] []:=by
   rw[oQ];unfold zNm zKs zBs;rw[ψ (by decide)];have:(([]:List Core)++([]:List Bind).map Bind.body)=[]:=rfl;rw[this];have hp:cD (dA k) s b (gvN 1 nm []) []=(gvN 1 nm [],[]):=by
    unfold cD;rw[ψ fun h=>by cases h.1]
   rw[hp];rfl
  rw[e]
  exact⟨fun x hx=>.inl ⟨hx,fun e=>hne (by
   have:pfR (.mk 1 n nm t [] [] [])=[nm]:=rfl
   rw[this] at hx;rw[←Ac.1 hx,e])⟩,fun _ _ _=>le_refl _⟩
 have Y:∀nm1 ks1,(f=5→nm1=nm)→cB (QL X) (.mk f n nm1 t ks1 bs al)→(∀x∈ks1,P x)→cE ks1≤cE ks→PL (.mk f n nm1 t ks1 bs al) s b (oQ (dA k) s b (.mk f n nm1 t ks1 bs al)):=fun nm1 ks1 _ hq1 hP1 hkm=>by
  have hP2:∀x∈bs,P x.body:=fun x hx=>⟨(hc.bind hx).2,(hc.bind hx).1⟩
  have hP3:∀x∈al,P x.body:=fun x hx=>⟨(hc.alt hx).2,(hc.alt hx).1⟩
  have hPs:∀p∈ks1++bs.map Bind.body,P p:=fun p hp=>by
   rcases ω.1 hp with hp | hp
   ·exact hP1 p hp
   ·obtain⟨x,hx,rfl⟩:=Ad.1 hp;exact hP2 x hx
  have hm:=hsz;rw[m30] at hm;have hfm:=aK1 (ks1++bs.map Bind.body);rw[wJ] at hfm;have hbsb:=wI bs;have hgv:=aKh (f:=f) (nm:=nm1) (bs:=bs);have hgl:((ks1++bs.map Bind.body).flatMap pfR).length+2*(gvN f nm1 bs).length+(pfR b).length≤540000000000:=by omega
  have hal':∀a∈al,(([a.body]:List Core).flatMap pfR).length+2*a.vars.length+(pfR b).length≤540000000000:=fun a ha=>by
   have h1:=i7 ha;have h2:=vG a.vars;have h3:=jX a.body;simp only[Ci,Cy,A8];omega
  have hN:=(r8 (sb:=dA k) (P:=P) (X:=X) (s:=s) (b:=b) (ns:=gvN f nm1 bs) hPs hPq hzR hSR hgl).2
  have hRB:=aI1 (sb:=dA k) (P:=P) (s:=s) (b:=b) (ns:=gvN f nm1 bs) hPs hz hs hgl;exact aUh hf1 hq1 hN hRB fun a ha=>⟨(r8 (sb:=dA k) (P:=P) (X:=X) (s:=s) (b:=b) (fun p hp=>by rw[Ac.1 hp];exact hP3 a ha) hPq hzR hSR (hal' a ha)).2,aI1 (sb:=dA k) (P:=P) (s:=s) (b:=b) (fun p hp=>by rw[Ac.1 hp];exact hP3 a ha) hz hs (hal' a ha)⟩
 have hPk:∀x∈ks,P x:=fun x hx=>⟨(hc.kid hx).2.2,(hc.kid hx).1⟩
 by_cases hcl:f=7∧s∈pfR (.mk f n nm t ks bs al)
 ·rw[θ (show(Core.mk f n nm t ks bs al).form=7∧s∈pfR (Core.mk f n nm t ks bs al) from hcl),aB2];by_cases hnb:nm∈tyR b
  ·rw[θ hnb];obtain⟨rfl,hin⟩:=hcl;obtain⟨⟨kid,rfl⟩,rfl,rfl⟩:=dD hq (.inr (.inr rfl));obtain⟨g1,g2,g3⟩:=hc.kid (x:=kid) ζ;rw[θ rfl] at g2;obtain⟨_,hktl⟩:=g1.types J;obtain⟨q1,_⟩:=aS.1 hq;have efm:[kid].flatMap tyR=tyR kid:=by simp
   rw[efm,Al,By];have Z:(bA (tyR b++tyR kid)).length≤30:=oK _ (by rw[Aa];omega);have hzn:=wY (tyR b++tyR kid);generalize bA (tyR b++tyR kid)=z at Z hzn;have hS1:=aB5 hI J (m30 kid) kid (le_refl _) g1 nm (vT z) (UOk.var z);have aa:=aM5 hI J g1 g2 (m30 kid) (le_refl _) nm z;have hq1:cB (QL X) (.mk 7 n z t [sTR (m30 kid) kid nm (vT z)] [] []):=by
    refine aS.2 ⟨⟨q1.1,fun h=>⟨(q1.2.1 h).1,hzn⟩,q1.2.2.1,fun p hp=>(by cases hp),le_trans (wK (xT Z) rfl rfl) q1.2.2.2.2.1,fun e=>absurd e (by decide),fun p hp=>(by cases hp),fun p hp=>(by cases hp)⟩,fun x hx=>?_,fun x hx=>(by cases hx),fun x hx=>(by cases hx)⟩;rw[Ac.1 hx];exact aa.q
   have hr:=Y z [sTR (m30 kid) kid nm (vT z)] (fun e=>absurd e (by decide)) hq1 (fun x hx=>by rw[Ac.1 hx];exact⟨lt_of_le_of_lt hS1.sz g3,aa⟩) (by rw[cE,cE,cE,cE];have:=hS1.sz;omega);refine⟨fun x hx=>(hr.pf x hx).imp (fun h=>⟨?_,h.2⟩) id,fun σ hσ I=>le_trans (hr.ms σ hσ I) ?_⟩
   ·rcases(gO (by decide)).1 h.1 with⟨p,hp,h1,h2⟩ | ⟨a,ha,_⟩
    ·have hpe:p=sTR (m30 kid) kid nm (vT z):=by simpa using hp
     rw[hpe,aWi] at h1;exact(gO (by decide)).2 (.inl ⟨kid,by simp,h1,by unfold gvN;rw[ψ (by decide)];simp⟩)
    ·cases ha
   ·rw[mS,mS,ψ (by decide),ψ (by decide),mSs,mSs,mSs,mSs,mSb,mSa];have:=aWs hI J (σ:=σ) (m30 kid) kid (le_refl _) g1 nm (vT z) (UOk.var z);have:=xT (s:=nm) Z;omega
  ·rw[ψ hnb];exact Y nm ks (fun _=>rfl) hq hPk (le_refl _)
 ·rw[ψ (show ¬((Core.mk f n nm t ks bs al).form=7∧s∈pfR (Core.mk f n nm t ks bs al)) from hcl)];exact Y nm ks (fun _=>rfl) hq hPk (le_refl _)
def tF {α:Type}(L:List α) (i:Nat):List α:=L.reverse.take i++((L.drop i).take (L.length-2*i)++L.reverse.drop (L.length-i))
section
variable {α:Type}{L:List α}{i:Nat}
theorem vQ (h:2*i≤L.length) (k:Nat):(tF L i)[k]?=if k<i then L.reverse[k]? else if k<L.length-i then L[k]? else L.reverse[k]?:=by
 have h1:(L.reverse.take i).length=i:=by rw[At,List.length_reverse];omega
 have h2:((L.drop i).take (L.length-2*i)).length=L.length-2*i:=by rw[At,Bw];omega
 unfold tF;by_cases hk:k<i
 ·rw[θ hk,A7 (by omega),List.getElem?_take_of_lt hk]
 ·rw[ψ hk,Ay (by omega),h1];by_cases I:k<L.length-i
  ·rw[θ I,A7 (by omega),List.getElem?_take_of_lt (by omega),An];congr 1;omega
  ·rw[ψ I,Ay (by omega),h2,An];congr 1;omega
theorem aDs (h:2*i≤L.length):(tF L i).length=L.length:=by
 unfold tF;simp only[Aa,At,List.length_reverse,Bw];omega
theorem aIk (h:2*i+1<L.length) {x y:α}(hx:(tF L i)[i]?=some x) (hy:(tF L i)[L.length-1-i]?=some y):((tF L i).set i y).set (L.length-1-i) x=tF L (i+1):=by
 refine Bo fun k=>?_
 have hl:=aDs (L:=L) (i:=i) (by omega);rw[vQ (by omega)] at hx hy;rw[ψ (by omega),θ (by omega)] at hx hy;rw[List.getElem?_set,List.getElem?_set,B0,hl,vQ (by omega),vQ (by omega)];have I:∀j,j<L.length→L.reverse[j]?=L[L.length-1-j]?:=fun j hj=>List.getElem?_reverse hj
 by_cases h1:L.length-1-i=k
 ·subst h1;rw[θ rfl,θ (by omega),ψ (by omega),ψ (by omega),I _ (by omega),←hx];congr 1;omega
 ·rw[ψ h1];by_cases h2:i=k
  ·subst h2;rw[θ rfl,θ (by omega),θ (by omega),I _ (by omega),←hy]
  ·rw[ψ h2];by_cases h3:k<i
   ·rw[θ h3,θ (by omega)]
   ·rw[ψ h3,ψ (show ¬k<i+1 by omega)];by_cases h4:k<L.length-(i+1)
    ·rw[θ (by omega),θ h4]
    ·rw[ψ (show ¬k<L.length-i by omega),ψ h4]
theorem aNw (h:2*i≤L.length) (h2:L.length≤2*i+1):tF L i=L.reverse:=by
 refine Bo fun k=>?_
 rw[vQ h];have I:∀j,j<L.length→L.reverse[j]?=L[L.length-1-j]?:=fun j hj=>List.getElem?_reverse hj
 by_cases h3:k<i
 ·rw[θ h3]
 ·rw[ψ h3];by_cases h4:k<L.length-i
  ·rw[θ h4,I k (by omega)];congr 1;omega
  ·rw[ψ h4]
theorem aIj:tF L 0=L:=by unfold tF;simp
end
theorem aLm (L:List Core) (hL:L.length≤570000000000):aW Tryz.prog 103 [.one (.hs 720 0 L.length L.length)] [(720,.arr 37 10 (L.map aB) 0)] (.tup []) [(720,.arr 37 10 (L.reverse.map aB) 0)]:=by
 have hkL:(L.map aB).length=L.length:=ξ _;refine bT (n:=28) tok Tryz.func103 rfl rfl rfl ?_;refine sg rfl (aC (aL (fun i:Nat=>mk [(0,.one (.hs 720 0 L.length L.length)),(2,I .i64 i),(3,I .i64 ((L.length:Int)-1-i))] [(720,.arr 37 10 ((tF L i).map aB) 0)]) (fun i=>2*i≤L.length) (fun i=>L.length-i) 0 (Ak _) (sl (he:=⟨rfl,rfl,by show some (I .i64 _)=some (I .i64 _);congr 2;simp,trivial⟩) (hh:=⟨⟨_,rfl,.arrS (by rw[aIj])⟩,trivial⟩)) ?_));intro i hi;have N:=aDs (L:=L) hi;have O:((tF L i).map aB).length=L.length:=by rw[ξ,N]
 refine a8 (sg rfl (aA rfl (fun hb=>?_) (fun hb=>?_)))
 ·have hlt:(i:Int)<(L.length:Int)-1-i:=φ hb;obtain⟨x,hx⟩:=aK (l:=tF L i) (k:=i) (by omega);obtain⟨y,hy⟩:=aK (l:=tF L i) (k:=L.length-1-i) (by omega);have W:=aIk (by omega) hx hy;have hx':=bJ aB hx;have Y:=bJ aB hy;have ej:(L.length:Int)-1-i=((L.length-1-i:Nat):Int):=by omega
  have Z:i≠L.length-1-i:=by omega
  have hj:L.length-1-i<L.length:=by omega
  have hil:i<L.length:=by omega
  have hy2:(((tF L i).map aB).set i (aB y))[L.length-1-i]?=some (aB y):=by rw[List.getElem?_set_ne Z];exact Y
  have J:(((tF L i).map aB).set i (aB y)).set (L.length-1-i) (aB x)=(tF L (i+1)).map aB:=by rw[←W,map_set,map_set]
  have hks:(((tF L i).map aB).set i (aB y)).length=L.length:=by rw[B0,O]
  refine aD (AWp.sub (st2:=mk [(0,.one (.hs 720 0 L.length L.length)),(2,I .i64 i),(3,I .i64 ((L.length-1-i:Nat):Int))] [(720,.arr 37 10 ((tF L i).map aB) 0)]) (sl (he:=⟨rfl,rfl,congrArg (fun x=>some (I .i64 x)) ej,trivial⟩)) ?_);generalize L.length-1-i=j at *;refine a8 (aC (ag [(7,.row j (aB y)),(11,.row i (aB x)),(13,.row i (aB x)),(15,.row j (aB y))] rfl (ag [] rfl ⟨i+1,by omega,by dsimp only;omega,sl (he:=⟨rfl,rfl,?_,trivial⟩) (hh:=⟨⟨_,rfl,.arrS J⟩,trivial⟩)⟩)));show some (I .i64 ((j:Int)-1))=some (I .i64 ((L.length:Int)-1-((i+1:Nat):Int)));congr 2;omega
 ·have hge:¬(i:Int)<(L.length:Int)-1-i:=δ hb;rw[aNw hi (by omega)];exact aM ⟨.inl rfl,⟨_,_,.nil,.nil,rfl⟩,⟨⟨_,rfl,.arr⟩,trivial⟩,rfl⟩
mutual
def gvC:Core→Option (Str×List Core)
 | .mk f _ s _ ks _ _=>if f=2 then some (s,[]) else if f=4 then(gvH ks).map (fun p=>(p.1,p.2++ks.drop 1)) else if f=6 then gvH ks else none
def gvH:List Core→Option (Str×List Core)
 | []=>none
 | c::_=>gvC c
end
def wQ:Option (Str×List Core)→V
 | some (s,l)=>.tup [Go.AM.T s,.one (.c (.sl 10 (l.map aB))),B true]
 | none=>.tup [Go.AM.T [],.one (.c (.sl 10 [])),B false]
theorem hY {X:Nat}{f n:Int}{s:Str}{t:Ty}{ks:List Core}{bs:List Bind}{al:List Alt}(h:cB (QL X) (.mk f n s t ks bs al)) (hf:f=4∨f=10):(∃a b,ks=[a,b])∧bs=[]∧al=[]:=by
 obtain⟨h1,_⟩:=aS.1 h;have g:=h1.1;unfold okF at g;rw[θ hf] at g;obtain⟨g1,g2,g3⟩:=φ g;rw[ξ] at g2 g3;refine⟨?_,Bl.1 g2,Bl.1 g3⟩
 match ks,g1 with
 | [a,b],_=>exact⟨a,b,rfl⟩
theorem aB6 (X:Nat) (c:Core) (Z:cB (QL X) c) (hsz:aU c≤570000000000):aW Tryz.prog 67 [.pa (aB c)] [] (wQ (gvC c)) []:=by
 refine bT (n:=30) tok Tryz.func67 rfl rfl rfl ?_;refine sg rfl (sg rfl (AWp.sub (Sub.own (t:=5) (id:=720) 37 10 rfl rfl) ?_));refine aC (aL (fun x:Core×List Core=>mk [(1,.one (.vp 1 0)),(5,.one (.hs 720 0 x.2.length x.2.length))] [(720,.arr 37 10 (x.2.map aB) 0),(1,.var 37 (b9 x.1))]) (fun x=>cB (QL X) x.1∧gvC c=(gvC x.1).map (fun p=>(p.1,p.2++x.2.reverse))∧x.2.length+aU x.1≤aU c) (fun x=>aU x.1) (c,[]) ⟨Z,by cases gvC c<;>simp,by simp⟩ sl ?_);rintro⟨c1,acc⟩ ⟨I,hg,W⟩;dsimp only at I hg W ⊢;obtain⟨f,n,s,t,ks,bs,al⟩:=c1;have hka:(acc.map aB).length=acc.length:=ξ _;have N:=aLm acc (by omega);obtain⟨_,Y,_,_⟩:=aS.1 I;refine aC (a8 (sg rfl (aC (sg rfl (aA rfl (fun hb=>?_) (fun hb=>?_))))))
 ·have h2:f=2:=φ hb;have e:gvC c=some (s,acc.reverse):=by rw[hg,gvC,θ h2];rfl
  rw[e];refine sk 1 rfl (kc N ?_);refine az (sg rfl (AWp.sub (Sub.freeze (id:=720) rfl) ?_));exact aI ⟨.inr rfl,⟨_,_,.tmp rfl (.tmp rfl (.tmp rfl .nil)),.cons .refl (.cons (hs_all rfl rfl (by simp) rfl) (.cons .refl .nil)),rfl⟩,trivial,rfl⟩
 have h2:¬f=2:=δ hb;refine sg rfl (aA rfl (fun hb=>?_) (fun hb=>?_))
 ·have h4:f=4:=φ hb;subst h4;obtain⟨⟨a,b,rfl⟩,rfl,rfl⟩:=hY I (.inl rfl);have J:gvC c=(gvC a).map (fun p=>(p.1,p.2++(acc++[b]).reverse)):=by
   rw[hg,gvC,ψ h2,θ rfl,gvH];cases gvC a<;>simp
  have O:aU (.mk 4 n s t [a,b] [] [])=1+s.length+(aU a+(aU b+0))+0+0:=by rw[aU,bW,bW,bW,fW,fX]
  have hbp:=bR b;have hl1:acc.length+1≤570000000000:=by omega
  refine ag [(3,.row 1 (aB b)),(5,.all)] rfl (ag [(2,.row 0 (aB a))] rfl ⟨(a,acc++[b]),⟨Y a (by simp),J,by rw[Aa];show acc.length+1+aU a≤_;omega⟩,by dsimp only;omega,?_⟩);exact sl
 have h4:¬f=4:=δ hb;refine sg rfl (aA rfl (fun hb=>?_) (fun hb=>?_))
 ·have h6:f=6:=φ hb;subst h6;obtain⟨⟨a,rfl⟩,rfl,rfl⟩:=dD I (.inr (.inl rfl));have J:gvC c=(gvC a).map (fun p=>(p.1,p.2++acc.reverse)):=by
   rw[hg,gvC,ψ h2,ψ h4,θ rfl,gvH]
  have O:aU (.mk 6 n s t [a] [] [])=1+s.length+(aU a+0)+0+0:=by rw[aU,bW,bW,fW,fX]
  exact aD (ag [(2,.row 0 (aB a))] rfl ⟨(a,acc),⟨Y a (by simp),J,by dsimp only;omega⟩,by dsimp only;omega,sl⟩)
 have h6:¬f=6:=δ hb;have e:gvC c=none:=by rw[hg,gvC,ψ h2,ψ h4,ψ h6];rfl
 rw[e];exact sg rfl (aI ⟨.inr rfl,⟨_,_,.tmp rfl (.tmp rfl (.tmp rfl .nil)),.cons .refl (.cons (.one (.c .nl .nil)) (.cons .refl .nil)),rfl⟩,trivial,rfl⟩)
def shC (c:Core):Bool:=decide (c.form=5) || (decide (c.form=7) || (decide (c.form=3) || (gvC c).isSome))
theorem xC (X:Nat) (c:Core) (J:cB (QL X) c) (I:aU c≤570000000000):aW Tryz.prog 29 [.pa (aB c)] [] (B (shC c)) []:=by
 have hg:=aB6 X c J I;obtain⟨f,n,s,t,ks,bs,al⟩:=c;refine bT (n:=19) tok Tryz.func29 rfl rfl rfl ?_;refine sg rfl (a8 (sg rfl ?_));by_cases h:f=5∨f=7∨f=3
 ·have e:shC (.mk f n s t ks bs al)=true:=by
   unfold shC;show(decide (f=5) || (decide (f=7) || (decide (f=3) || _)))=true;rcases h with h | h | h
   ·rw[Ai h];rfl
   ·rw[Ai h];simp
   ·rw[Ai h];simp
  rw[e];have N:¬f=5→¬f=7→some (B (decide (f=3)))=some (B true):=fun h5 h7=>by rw[Ai (show f=3 by omega)]
  refine aC (a8 (AWp.cut (mk [(8,B true)] []) ?_ ?_))
  ·refine sg rfl (aA rfl (fun hb=>?_) (fun hb=>?_))
   ·have h5:f=5:=φ hb;exact aD (sl (he:=⟨by show some (B (decide (f=5)))=some (B true);rw[Ai h5],trivial⟩))
   have h5:¬f=5:=δ hb;refine sg rfl (aA rfl (fun hb=>?_) (fun hb=>?_))
   ·have h7:f=7:=φ hb;exact aD (sl (he:=⟨by show some (B (decide (f=7)))=some (B true);rw[Ai h7],trivial⟩))
   have h7:¬f=7:=δ hb;exact ag [] rfl (sl (he:=⟨N h5 h7,trivial⟩))
  exact aA rfl (fun _=>sg rfl (aI rtT)) nofun
 ·have h5:¬f=5:=fun e=>h (.inl e)
  have h7:¬f=7:=fun e=>h (.inr (.inl e))
  have h3:¬f=3:=fun e=>h (.inr (.inr e))
  have e:shC (.mk f n s t ks bs al)=(gvC (.mk f n s t ks bs al)).isSome:=by
   unfold shC;show(decide (f=5) || (decide (f=7) || (decide (f=3) || _)))=_;rw[Am h5,Am h7,Am h3];rfl
  rw[e];refine aC (a8 (AWp.cut (mk [(1,.one (.vp 1 0)),(8,B false)] [(1,.var 37 (b9 (.mk f n s t ks bs al)))]) ?_ ?_))
  ·exact sg rfl (aA rfl (fun hb=>absurd (φ hb) h5) (fun _=>sg rfl (aA rfl (fun hb=>absurd (φ hb) h7) (fun _=>ag [] rfl (sl (he:=⟨rfl,by show some (B (decide (f=3)))=some (B false);rw[Am h3],trivial⟩))))))
  refine aA rfl nofun (fun _=>aD ?_);cases hx:gvC (.mk f n s t ks bs al) with
  | none=>
   rw[hx] at hg;exact sgh [(1,.pc (wQ none))] rfl (sg rfl (aI rtT))
  | some p=>
   obtain⟨s1,O⟩:=p;rw[hx] at hg;exact sgh [(1,.pc (wQ (some (s1,O))))] rfl (sg rfl (aI rtT))
theorem aPh (c:Core) (I:aU c≤570000000000):aW Tryz.prog 125 [.pa (aB c)] [] (ouV (pfR c)) [(500,ouO (pfR c))]:=nW c (fun x _=>oN (aU x) x (le_refl _)) I
def pcN (n:Nat):Str:=37::Lib.decDigits n
theorem aJe (n m:Nat) (h:pcN n=pcN m):n=m:=aRh _ _ (List.cons.inj h).2
theorem j9 (n:Nat):¬nh (pcN n):=fun h=>h.1 rfl
def lS (tk:List Str) (n:Nat):List Str:=((List.range n).map pcN).filter fun s=>decide (¬s∈tk)
theorem rE (tk:List Str) (n:Nat):lS tk (n+1)=if pcN n∈tk then lS tk n else lS tk n++[pcN n]:=by
 unfold lS;rw[List.range_succ,As,List.filter_append];by_cases h:pcN n∈tk
 ·rw[θ h];simp[h]
 ·rw[ψ h];simp[h]
theorem aOf {tk:List Str}{n:Nat}{x:Str}(h:x∈lS tk n):¬x∈tk∧∃m,m<n∧x=pcN m:=by
 obtain⟨h1,h2⟩:=mem_filter.1 h;obtain⟨m,hm,rfl⟩:=Ad.1 h1;exact⟨φ h2,m,mem_range.1 hm,rfl⟩
theorem aOg (tk:List Str) (n:Nat):n≤(lS tk n).length+tk.length:=by
 have J:((List.range n).map pcN).Nodup:=by
  rw[List.Nodup,List.pairwise_map];exact List.Pairwise.imp (fun h e=>h (aJe _ _ e)) nodup_range
 have h:=iW ((List.range n).map pcN) (lS tk n++tk) J fun x hx=>by
  by_cases I:x∈tk
  ·exact ω.2 (.inr I)
  ·exact ω.2 (.inl (mem_filter.2 ⟨hx,Ai I⟩))
 rw[ξ,length_range,Aa] at h;exact h
theorem wA (tk:List Str):∀k:Nat,∃N,N≤tk.length+k∧(lS tk N).length=k∧∀m,m<N→(lS tk m).length<k:=by
 intro k;have h0:∀n,(lS tk (n+1)).length≤(lS tk n).length+1:=fun n=>by rw[rE];split<;>simp
 have key:∀M:Nat,k≤(lS tk M).length→∃N,N≤M∧(lS tk N).length=k∧∀m,m<N→(lS tk m).length<k:=by
  intro M
  induction M with
  | zero=>intro h;exact⟨0,le_refl _,by have:(lS tk 0).length=0:=rfl;omega,fun m hm=>by omega⟩
  | succ M O=>
   intro h;by_cases W:k≤(lS tk M).length
   ·obtain⟨N,h1,h2,h3⟩:=O W;exact⟨N,by omega,h2,h3⟩
   ·refine⟨M+1,le_refl _,by have:=h0 M;omega,fun m hm=>?_⟩;by_cases Y:k≤(lS tk m).length
    ·exfalso;have I:∀d,(lS tk m).length≤(lS tk (m+d)).length:=fun d=>by
      induction d with
      | zero=>exact le_refl _
      | succ d J=>
       rw[←Cc,rE];split
       ·exact J
       ·rw[Aa];omega
     have:=I (M-m);rw[show m+(M-m)=M by omega] at this;omega
    ·omega
 exact key (tk.length+k) (by have:=aOg tk (tk.length+k);omega)
noncomputable def aG8 (tk:List Str) (k:Nat):Nat:=Classical.choose (wA tk k)
noncomputable def o6 (tk:List Str) (k:Nat):List Str:=lS tk (aG8 tk k)
theorem aBm (tk:List Str) (k:Nat):aG8 tk k≤tk.length+k:=(B5 (wA tk k)).1
theorem pX (tk:List Str) (k:Nat):(o6 tk k).length=k:=(B5 (wA tk k)).2.1
theorem aJk (tk:List Str) (k:Nat) {m:Nat}(h:m<aG8 tk k):(lS tk m).length<k:=(B5 (wA tk k)).2.2 m h
theorem pW {tk:List Str}{k:Nat}{x:Str}(h:x∈o6 tk k):¬x∈tk∧¬nh x∧∃m,m<tk.length+k∧x=pcN m:=by
 obtain⟨h1,m,hm,rfl⟩:=aOf h;exact⟨h1,j9 m,m,by have:=aBm tk k;omega,rfl⟩
theorem aLb:∀(k n:Nat),n<10^(k+1)→(Lib.decDigits n).length≤k+1
 | 0,n,h=>by rw[Lib.decDigits,dif_pos (by omega)];exact le_refl _
 | k+1,n,h=>by
  rw[Lib.decDigits];split
  ·simp
  ·rw[Aa];have:=aLb k (n/10) (by rw[Nat.pow_succ] at h;omega);simp only[Bk,List.length_nil];omega
theorem aWl {n:Nat}(h:n<10^29):(pcN n).length≤30:=by
 have:=aLb 28 n h;unfold pcN;rw[Aj];omega
mutual
theorem aOt {X:Nat}{σ:Str→Nat}(hn:∀x,nh x→σ x=1+w30 x):∀c:Core,cB (QL X) c→(∀x∈pfR c,σ x=1+w30 x)→mS σ c=m30 c
 | .mk f n s t ks bs al,h,hp=>by
  obtain⟨⟨_,_,_,_,_,O,W,Y⟩,Z,qb,qa⟩:=aS.1 h;rw[mS,m30];by_cases h1:f=1
  ·obtain⟨rfl,rfl,rfl⟩:=sI h h1;rw[θ h1,hp s (by rw[pfR,θ h1];exact Ac.2 rfl)];rfl
  ·rw[ψ h1];have hg:∀x∈gvN f s bs,nh x:=fun x hx=>by
    unfold gvN at hx;rcases ω.1 hx with hx | hx
    ·by_cases h5:f=5
     ·rw[θ h5] at hx;rw[Ac.1 hx];exact O h5
     ·rw[ψ h5] at hx;cases hx
    ·obtain⟨b,hb,rfl⟩:=Ad.1 hx;exact W (bhd b) (Ad.2 ⟨b,hb,rfl⟩)
   have N:∀p∈ks++bs.map Bind.body,∀x∈pfR p,σ x=1+w30 x:=fun p J x hx=>by
    by_cases I:x∈gvN f s bs
    ·exact hn x (hg x I)
    ·exact hp x ((gO h1).2 (.inl ⟨p,J,hx,I⟩))
   have ha:∀a∈al,∀x∈pfR a.body,σ x=1+w30 x:=fun a ha x hx=>by
    by_cases I:x∈a.vars
    ·exact hn x (Y (ahd a) (Ad.2 ⟨a,ha,rfl⟩) x I)
    ·exact hp x ((gO h1).2 (.inr ⟨a,ha,hx,I⟩))
   rw[aQx hn ks Z fun p J=>N p (ω.2 (.inl J)),aQy hn bs qb fun b hb=>N b.body (ω.2 (.inr (Ad.2 ⟨b,hb,rfl⟩))),aQz hn al qa ha]
theorem aQx {X:Nat}{σ:Str→Nat}(hn:∀x,nh x→σ x=1+w30 x):∀l:List Core,(∀c∈l,cB (QL X) c)→(∀c∈l,∀x∈pfR c,σ x=1+w30 x)→mSs σ l=cE l
 | [],_,_=>by rw[mSs,cE]
 | c::l,h,hp=>by rw[mSs,cE,aOt hn c (h c ζ) (hp c ζ),aQx hn l (fun x hx=>h x (κ _ hx)) fun x hx=>hp x (κ _ hx)]
theorem aQy {X:Nat}{σ:Str→Nat}(hn:∀x,nh x→σ x=1+w30 x):∀l:List Bind,(∀c∈l,cB (QL X) c.body)→(∀c∈l,∀x∈pfR c.body,σ x=1+w30 x)→mSb σ l=fF l
 | [],_,_=>by rw[mSb,fF]
 | .mk s t c::l,h,hp=>by rw[mSb,fF,aOt hn c (h _ ζ) (hp _ ζ),aQy hn l (fun x hx=>h x (κ _ hx)) fun x hx=>hp x (κ _ hx)]
theorem aQz {X:Nat}{σ:Str→Nat}(hn:∀x,nh x→σ x=1+w30 x):∀l:List Alt,(∀c∈l,cB (QL X) c.body)→(∀c∈l,∀x∈pfR c.body,σ x=1+w30 x)→mSa σ l=gP l
 | [],_,_=>by rw[mSa,gP]
 | .mk f n s v c::l,h,hp=>by rw[mSa,gP,aOt hn c (h _ ζ) (hp _ ζ),aQz hn l (fun x hx=>h x (κ _ hx)) fun x hx=>hp x (κ _ hx)]
end
noncomputable def fY (c:Core) (l:List (Str×Str)):Core:=l.foldl (fun c p=>dA (m30 c) c p.1 (vC p.2)) c
noncomputable def kN (c:Core) (l:List (Str×Core)):Core:=l.foldl (fun c p=>dA (m30 c) c p.1 p.2) c
def fN (c:Core) (l:List Core):List Str:=pfR c++l.flatMap pfR
noncomputable def xR (c:Core) (names:List Str) (l:List Core):Core:=kN (fY c (names.zip (o6 (fN c l) names.length))) ((o6 (fN c l) names.length).zip l)
structure PO (D M X B:Nat) (c:Core) (l:List Core):Prop where
 q:cB (QL X) c
 dep:cw j3 0 c r0≤D
 bq:∀b∈l,cB (QL X) b
 bdep:∀b∈l,cw j3 0 b r0≤D
 ty:∃U:List Str,U.length+2*(tlC c+(l.map tlC).sum)≤M∧(∀x∈tyR c,x∈U)∧∀b∈l,∀x∈tyR b,x∈U
 one:1≤B
 bsz:∀b∈l,m30 b≤31*B
 sz:m30 c*B≤Big
 bsum:(l.map m30).sum≤Big
structure PR (X B:Nat) (c:Core) (l:List Core) (r:Core):Prop where
 q:cB (QL X) r
 cw:∀(A:Alg) (E:Nat) (ρ:Str→Nat) (K:Nat),cw A E c ρ≤K→(∀b∈l,cw A E b ρ≤K)→cw A E r ρ≤K
 ty:∀x∈tyR r,x∈tyR c∨∃b∈l,x∈tyR b
 tl:tlC r≤tlC c+(l.map tlC).sum
 sz:m30 r≤m30 c*B
theorem vF {l:List Core}{g:Core→Nat}{b:Core}(h:b∈l):g b≤(l.map g).sum:=by
 induction l with
 | nil=>cases h
 | cons x l I=>
  rw[Al,Cb];rcases Ao.1 h with e | h
  ·rw[e];omega
  ·have:=I h;omega
section
variable {D M X B:Nat}{c:Core}{l:List Core}
theorem PO.cg (h:PO D M X B c l):CG D M X c:=by
 obtain⟨U,h1,h2,_⟩:=h.ty;refine⟨h.q,h.dep,?_,le_trans (Bg _ h.one) h.sz⟩;have:=dO h2;omega
theorem PO.cgb (h:PO D M X B c l) {b:Core}(hb:b∈l):CG D M X b:=by
 obtain⟨U,h1,_,h3⟩:=h.ty;refine⟨h.bq b hb,h.bdep b hb,?_,le_trans (vF hb) h.bsum⟩;have:=dO (h3 b hb);have:=vF (g:=tlC) hb;omega
theorem vW (N:cK 540000000000) (I:M+D≤700000) (J:31≤X):∀(ps:List (Str×Str)) (c:Core),CG D M X c→(∀p∈ps,p.2.length≤30)→R0 c (fY c ps)∧CG D M X (fY c ps)
 | [],c,h,_=>⟨R0.refl c,h⟩
 | p::ps,c,h,hp=>by
  have hz:=hp p ζ;have h1:=uF N I J (m30 c) c (le_refl _) h p.1 (vC p.2) (CG.vC hz J);have h2:=h1.r0 hz;obtain⟨h3,h4⟩:=vW N I J ps (dA (m30 c) c p.1 (vC p.2)) (h2.cg h h1.rx.q) fun q O=>hp q (κ _ O)
  exact⟨h2.trans h3,h4⟩
structure P2 (X B:Nat) (c:Core) (l:List Core) (own:List Str) (i:Nat) (r:Core):Prop where
 q:cB (QL X) r
 cw:∀(A:Alg) (E:Nat) (ρ:Str→Nat) (K:Nat),cw A E c ρ≤K→(∀b∈l,cw A E b ρ≤K)→cw A E r ρ≤K
 ty:∀x∈tyR r,x∈tyR c∨∃b∈l,x∈tyR b
 tl:tlC r≤tlC c+((l.take i).map tlC).sum
 sz:mS (fun s=>if s∈own then(1+w30 s)*B else 1+w30 s) r≤m30 c*B
theorem aDe {g:Core→Nat}:∀{l:List Core}{i:Nat},((l.take i).map g).sum≤(l.map g).sum
 | [],i=>by simp
 | x::l,0=>by simp
 | x::l,i+1=>by
  rw[Az,Al,Al,Cb,Cb];have:=aDe (g:=g) (l:=l) (i:=i);omega
theorem P2.cg {own:List Str}{i:Nat}{r:Core}(I:PO D M X B c l) (h:P2 X B c l own i r):CG D M X r:=by
 obtain⟨U,h1,h2,h3⟩:=I.ty;refine⟨h.q,h.cw j3 0 r0 D I.dep I.bdep,?_,?_⟩
 ·have:=dO (c:=r) (a:=U) fun x hx=>by
   rcases h.ty x hx with h | ⟨b,hb,h⟩
   ·exact h2 x h
   ·exact h3 b hb x h
  have:=h.tl;have:=aDe (g:=tlC) (l:=l) (i:=i);omega
 ·refine le_trans (yT (fun s=>?_) r) (le_trans h.sz I.sz);split
  ·exact Bg _ I.one
  ·exact le_refl _
theorem P2.zero {own:List Str}{r:Core}(I:PO D M X B c l) (h:R0 c r) (J:cB (QL X) r):P2 X B c l own 0 r:=by
 refine⟨J,fun A E ρ K h1 _=>le_trans (h.cw A E ρ) h1,fun x hx=>.inl (h.ty x hx),by simpa using h.tl,?_⟩;refine le_trans (aYh I.one (fun s=>?_) r) (Ax _ h.sz);split
 ·exact le_refl _
 ·exact Bg _ I.one
theorem P2.step (Z:cK 540000000000) (N:M+D≤700000) (hX:31≤X) {tk:List Str}{k i:Nat}{r s b:_}(J:PO D M X B c l) (htk:∀b∈l,∀x∈pfR b,x∈tk) (h:P2 X B c l (o6 tk k) i r) (hs:s∈o6 tk k) (hs30:s.length≤30) (hb:l[i]?=some b):
  TB X r s b (dA (m30 r) r s b)∧P2 X B c l (o6 tk k) (i+1) (dA (m30 r) r s b):=by
 have I:=η hb;have O:=h.cg J;have W:=J.cgb I;have h1:=uF Z N hX (m30 r) r (le_refl _) O s b W;have h2:=aSh Z N hX (m30 r) r (le_refl _) O s b W;refine⟨h1,h1.rx.q,fun A E ρ K k1 k2=>?_,fun x hx=>?_,?_,?_⟩
 ·have:=h1.rx.cw A E ρ;have:=h.cw A E ρ K k1 k2;have:=k2 b I;omega
 ·rcases h1.rx.ty x hx with Y | Y
  ·exact h.ty x Y
  ·exact .inr ⟨b,I,Y⟩
 ·have e:(l.take (i+1))=l.take i++[b]:=by rw[Bh,hb];rfl
  rw[e,As,List.sum_append];have:=h1.rx.tl;have:=h.tl;simp only[Al,By,Cb,sum_nil];omega
 ·refine le_trans (h2.ms _ ⟨fun s=>?_,fun l hl=>?_⟩ ?_) h.sz
  ·split
   ·exact Bg _ J.one
   ·exact le_refl _
  ·rw[ψ fun hin=>(pW hin).2.1 (aEw l)];unfold w30;omega
  ·have e:=aOt (X:=X) (σ:=fun s=>if s∈o6 tk k then(1+w30 s)*B else 1+w30 s) (fun x hx=>by
    rw[ψ fun hin=>(pW hin).2.1 hx]) b (J.bq b I) (fun x hx=>by
    rw[ψ fun hin=>(pW hin).1 (htk b I x hx)])
   rw[e,θ hs];refine le_trans (J.bsz b I) (Ax _ ?_);unfold w30;omega
theorem P2.fin {own:List Str}{r:Core}(I:PO D M X B c l) (h:P2 X B c l own l.length r):PR X B c l r:=by
 refine⟨h.q,h.cw,h.ty,?_,?_⟩
 ·have:=h.tl;rwa [Au] at this
 ·refine le_trans (yT (fun s=>?_) r) h.sz;split
  ·exact Bg _ I.one
  ·exact le_refl _
end
theorem rW {α β γ:Type}(g:γ→α×β→γ) (z:γ) {a:List α}{b:List β}{i:Nat}{x:α}{y:β}(ha:a[i]?=some x) (hb:b[i]?=some y):((a.zip b).take (i+1)).foldl g z=g (((a.zip b).take i).foldl g z) (x,y):=by
 have h:(a.zip b)[i]?=some (x,y):=by rw[List.getElem?_zip_eq_some];exact⟨ha,hb⟩
 rw[Bh,h,B6];rfl
end Go.Proofs.YtockgoadliilhaaGreatDoor
