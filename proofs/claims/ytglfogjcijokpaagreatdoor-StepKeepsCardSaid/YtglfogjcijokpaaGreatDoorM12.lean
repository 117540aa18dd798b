/-
  Texts Li9 to Lw1 in one.
-/
import Derived.Test.YtglfogjcijokpaaGreatDoorM11
import Derived.RecoverIn
import Derived.WideLaws
open List (append_nil drop_eq_getElem_cons drop_left drop_length filter_cons foldl_cons length_cons length_eq_one_iff length_eq_zero_iff length_filter_le length_map length_set length_take map_append map_congr_left map_cons map_map map_nil mem_append mem_cons mem_cons_of_mem mem_cons_self mem_flatMap mem_map mem_singleton nil_append set_cons_succ sum_cons sum_nil take_add_one take_left take_left' take_length take_of_length_le)
open Nat (add_mul eq_of_beq_eq_true le_of_ble_eq_true le_refl le_trans lt_of_lt_of_le mul_add mul_comm mul_le_mul mul_le_mul_left mul_le_mul_right mul_left_comm mul_one zero_add zero_le)
namespace Go.AM
open Go
theorem Inv.grown {G:Ctx}{S:Sto}{μ:Mu}{H:c7}{w:World}(h:Inv G S μ H w) (k:Nat) (os:Array Obj):Inv G S μ H (Sort.grow (w.drewN k) os):=by
 have hold:∀b:Nat,b<w.heap.size→(Sort.grow (w.drewN k) os).heap[b]?=w.heap[b]?:=fun b hb=>by
  show(w.heap++os)[b]?=w.heap[b]?;exact Array.getElem?_append_left hb
 have q:w.heap.size≤(Sort.grow (w.drewN k) os).heap.size:=by
  show w.heap.size≤(w.heap++os).size;rw[Array.size_append];omega
 obtain⟨h1,h2,h3,h4,h5,I,h7,J,N⟩:=h;refine⟨⟨fun b o v e=>?_,fun b mk e=>?_⟩,fun id o e=>(h2 id o e).evolve (Evolve.refl _ _ _) rfl fun b c hm=>⟨hold b ((h2 id o e).lt hm),fun _=>rfl,rfl⟩,h3,h4,?_,I,h7,J,N⟩
 ·obtain⟨vs,t,fr,g1,g2⟩:=h1.1 b o v e;exact⟨vs,t,fr,by rw[hold b (bZ g1)];exact g1,g2⟩
 ·have g:=h1.2 b mk e;obtain⟨_,g2⟩:=MK.holds_some g;rw[hold b (bZ g2)];exact g
 ·obtain⟨f1,f2,f3,f4,f5,f6⟩:=h5;exact⟨f1,f2,f3,le_trans f4 q,fun b hb O=>by rw[hold b (Cv hb f4)];exact f5 b hb O,f6⟩
end Go.AM
namespace Go.Proofs.YtglfogjcijokpaaGreatDoor
open Go Go.AM
set_option maxRecDepth 20000
theorem aNl (k:Nat) (h:k<1000000000000000000):aQ Tryz.prog 144 [I .i64 (k:Int)] [] (Go.AM.T (Lib.decDigits k)) []:=by
 intro S μ w vals J hv;simp only [bG, aT, b6, Rep] at hv;obtain ⟨v1, N, rfl, rfl, rfl⟩ := hv;have q : Lib.TabIs Tryz.prog w "internal/strconv.uint64pow10" .u64 Lib.pow10Tab := by
  obtain ⟨h1, t, fr, h2⟩ := J.frame.tabAt 0 rfl;unfold Lib.TabIs World.var?;rw [show Tryz.prog.globalNamed "internal/strconv.uint64pow10" = some 0 by kernel_rfl];simp only [Cl, h2];rfl
 refine Calls.mono (Any.strconv_Itoa il (k:Int) (by omega) (by omega) w q) ?_;rintro e w' ⟨rfl,j,os,rfl⟩;refine⟨S,μ,_,rfl,J.grown j os,?_⟩;rw[Lib.itoa_nonneg];simp only[aT,b6,Rep]
end Go.Proofs.YtglfogjcijokpaaGreatDoor
namespace Go.Proofs.YtglfogjcijokpaaGreatDoor
open Go Go.AM
set_option maxRecDepth 20000
set_option maxHeartbeats 4000000
theorem aX0 (hI:dA 540000000000) {D M X:Nat}(ac:M+D≤700000):∀(k:Nat) (c:Core),m30 c≤k→CG D M X c→∀(name:Str) (u:Ty),UOk u→∀x∈tyR (sTR k c name u),(x∈tyR c∧¬x=name)∨x∈tfR u:=by
 intro k
 induction k with
 | zero=>intro c h;have:=eY c;omega
 | succ k Y=>
 intro c h hc name u hu x hx;obtain⟨f,n,nm,t,ks,bs,al⟩:=c;obtain⟨ht0,ht1,htb⟩:=hc.ty;have hq:=hc.q;obtain⟨q1,q2,q3,q4⟩:=aY.1 hq;have ad:tfR zTy=[]:=rfl;have Z:∀v,wfS v=true→∀x∈tfR (bP v [(name,u)]),(x∈tfR v∧¬x=name)∨x∈tfR u:=fun v h1 x hx=>by
  rcases aJe (tn v) v (le_refl _) h1 _ x hx with h | ⟨p,hp,_,h⟩
  ·exact .inl ⟨h.1,fun e=>h.2 (by rw[e];exact ζ.2 rfl)⟩
  ·rw[ζ.1 hp] at h;exact .inr h
 rw[sTR] at hx;by_cases h7:f=7
 ·subst h7;obtain⟨⟨kid,rfl⟩,rfl,rfl⟩:=fJ hq (.inr (.inr rfl));obtain⟨g1,g2,g3⟩:=hc.kid (x:=kid) η;rw[ξ rfl] at g2;obtain rfl:t=zTy:=(q1.2.1 rfl).1
  by_cases hs:nm=name∨¬name∈tyR (.mk 7 n nm zTy [kid] [] [])
  ·rw[ξ ⟨rfl,hs⟩] at hx;refine .inl ⟨hx,fun e=>?_⟩;rw[e] at hx;rcases hs with rfl | hs
   ·rcases bC.1 hx with h | ⟨x,_,_,h | h⟩ | ⟨b,hb,_⟩ | ⟨a,ha,_⟩
    ·rw[ad] at h;cases h
    ·exact h rfl
    ·exact h rfl
    ·cases hb
    ·cases ha
   ·exact hs hx
  rw[φ fun e=>hs e.2] at hx;have aa:∀(nm1:Str) (J:Core),m30 J≤k→CG D M X J→(∀y∈tyR J,¬y=nm1→y∈tyR kid∧(y=nm→y∈tfR u))→x∈tyR (fQ (fun t=>bP t [(name,u)]) (fun x=>sTR k x name u) (.mk 7 n nm1 zTy [J] [] []))→(x∈tyR (.mk 7 n nm zTy [kid] [] [])∧¬x=name)∨x∈tfR u:=fun nm1 J hk1 hc1 O hx=>by
   rw[fQ] at hx;rcases bC.1 hx with h | ⟨y,hym,h,W⟩ | ⟨b,hb,_⟩ | ⟨a,ha,_⟩
   ·rw[j5,ad] at h;cases h
   ·obtain⟨N,I,rfl⟩:=Af.1 hym;rw[ζ.1 I] at h;have W:¬x=nm1:=W.resolve_left (fun e=>e rfl);rcases Y J hk1 hc1 name u hu x h with⟨h,hn⟩ | h
    ·obtain⟨h1,h2⟩:=O x h W;by_cases e:x=nm
     ·exact .inr (h2 e)
     ·exact .inl ⟨bC.2 (.inr (.inl ⟨kid,η,h1,.inr e⟩)),hn⟩
    ·exact .inr h
   ·cases hb
   ·cases ha
  by_cases ae:nm∈tfR u
  ·rw[ξ ⟨rfl,ae⟩,Al,Bn] at hx;generalize b9 (tfR u++[kid].flatMap tyR)=z at hx;have hS1:=aDj hI ac k kid (by omega) g1 nm (vT z) (UOk.var z);refine aa z _ (le_trans hS1.sz (by omega)) (aOz hI ac g1 g2 k (by omega) nm z) (fun y O ab=>?_) hx;rcases Y kid (by omega) g1 nm (vT z) (UOk.var z) y O with⟨h1,h2⟩ | h1
   ·exact⟨h1,fun e=>absurd e h2⟩
   ·rw[tT] at h1;exact absurd (ζ.1 h1) ab
  ·rw[φ fun e=>ae e.2] at hx;exact aa nm kid (by omega) g1 (fun y O ab=>⟨O,fun e=>absurd e ab⟩) hx
 ·rw[φ fun e=>h7 e.1,φ fun e=>h7 e.1,fQ] at hx;rcases bC.1 hx with h | ⟨y,O,h,_⟩ | ⟨y,O,h⟩ | ⟨y,O,h⟩
  ·exact(Z t ht0 x h).imp (fun h=>⟨bC.2 (.inl h.1),h.2⟩) id
  ·obtain⟨N,I,rfl⟩:=Af.1 O;exact(Y N (by have:=(hc.kid I).2.2;omega) (hc.kid I).1 name u hu x h).imp (fun h=>⟨bC.2 (.inr (.inl ⟨N,I,h.1,.inl h7⟩)),h.2⟩) id
  ·obtain⟨N,I,rfl⟩:=Af.1 O;rcases h with h | h
   ·exact(Z N.ty (htb N I).1 x h).imp (fun h=>⟨bC.2 (.inr (.inr (.inl ⟨N,I,.inl h.1⟩))),h.2⟩) id
   ·exact(Y N.body (by have:=(hc.bind I).2;omega) (hc.bind I).1 name u hu x h).imp (fun h=>⟨bC.2 (.inr (.inr (.inl ⟨N,I,.inr h.1⟩))),h.2⟩) id
  ·obtain⟨N,I,rfl⟩:=Af.1 O;exact(Y N.body (by have:=(hc.alt I).2;omega) (hc.alt I).1 name u hu x h).imp (fun h=>⟨bC.2 (.inr (.inr (.inr ⟨N,I,h.1⟩))),h.2⟩) id
theorem fC {α:Type}{g:α→α}:∀{l:List α},(∀x∈l,g x=x)→l.map g=l
 | [],_=>rfl
 | x::l,h=>by rw[Al,h x η,fC fun y q=>h y (ω _ q)]
theorem aX2 {X:Nat}:∀(k:Nat) (c:Core),m30 c≤k→dD (QL X) c→¬([]:Str)∈tyR c→sTR k c [] zTy=c:=by
 intro k
 induction k with
 | zero=>intro c h;have:=eY c;omega
 | succ k q=>
 intro c h J hn;obtain⟨f,n,nm,t,ks,bs,al⟩:=c;obtain⟨⟨_,_,N,O,_⟩,W,Y,Z⟩:=aY.1 J;rw[m30] at h;rw[sTR];by_cases h7:f=7
 ·rw[ξ ⟨h7,.inr hn⟩]
 ·have ts:∀v,wfS v=true→¬([]:Str)∈tfR v→bP v [([],zTy)]=v:=fun v hv I=>wD (tn v) v (le_refl _) hv _ fun p hp h=>by rw[ζ.1 hp] at h;exact I h
  rw[φ (fun e=>h7 e.1),φ (fun e=>h7 e.1),fQ,ts t N (fun e=>hn (bC.2 (.inl e)))];rw[fC (l:=ks) fun x hx=>q x (by have:=fL hx;omega) (W x hx) fun e=>hn (bC.2 (.inr (.inl ⟨x,hx,e,.inl h7⟩)))]
  rw[fC (l:=bs) fun x hx=>by
   rw[ts x.ty (O (bhd x) (Af.2 ⟨x,hx,rfl⟩)) fun e=>hn (bC.2 (.inr (.inr (.inl ⟨x,hx,.inl e⟩)))),q x.body (by have:=k8 hx;omega) (Y x hx) fun e=>hn (bC.2 (.inr (.inr (.inl ⟨x,hx,.inr e⟩))))]
   cases x;rfl]
  rw[fC (l:=al) fun x hx=>by
   rw[q x.body (by have:=gU hx;omega) (Z x hx) fun e=>hn (bC.2 (.inr (.inr (.inr ⟨x,hx,e⟩))))]
   cases x;rfl]
theorem dK:jS.k=0:=by unfold Alg.k zTy;rw[tW,φ (by decide),φ (by decide),tWs];rfl
theorem dZ:tW jS zTy r0=0:=dK
structure ST (n:Nat) (U:List Str) (c:Core):Prop where
 q:dD (QL 403) c
 cw:∀E,n*3≤E→cw jS E c r0≤3+E
 ty:∀x∈tyR c,x∈U
 tl:tlC c≤6000
 sz:m30 c≤3500000
structure SR (n:Nat) (U:List Str) (s:Nat) (c:Core):Prop where
 q:dD (QL 403) c
 cw:∀E,n*3≤E→cw jS E c r0≤3+E
 ty:∀x∈tyR c,x∈U
 tl:tlC c≤84000
 sz:60*m30 c≤210000000+s*s+120*s
theorem ST.mono {n m:Nat}{U:List Str}{c:Core}(h:ST n U c) (hm:n≤m):ST m U c:=⟨h.q,fun E I=>h.cw E (by omega),h.ty,h.tl,h.sz⟩
theorem ST.cg {n:Nat}{U:List Str}{c:Core}(h:ST n U c) (hn:n≤300) (I:U.length≤480000):CG 1000 650000 403 c:=by
 refine⟨h.q,?_,?_,le_trans h.sz (by decide)⟩
 ·have:=h.cw (n*3) (le_refl _);have:=sT (A:=jS) (E:=0) (E':=n*3) (Aj _) (c:=c) (ρ:=r0) (ρ':=r0) (fun _=>le_refl _);omega
 ·have:=dP h.ty;have:=h.tl;omega
theorem ar0 {s:Nat}(h:s≤3500000):s*s≤12250000000000:=le_trans (mul_le_mul h h) (by decide)
theorem SR.big {n s:Nat}{U:List Str}{c:Core}(h:SR n U s c) (hs:s≤3500000):m30 c≤Big:=by
 have:=ar0 hs;have:=h.sz;have:Big=250000000000:=rfl;omega
theorem SR.cg {n s:Nat}{U:List Str}{c:Core}(h:SR n U s c) (hn:n≤300) (hs:s≤3500000) (I:U.length≤480000):CG 1000 650000 403 c:=by
 refine⟨h.q,?_,?_,h.big hs⟩
 ·have:=h.cw (n*3) (le_refl _);have:=sT (A:=jS) (E:=0) (E':=n*3) (Aj _) (c:=c) (ρ:=r0) (ρ':=r0) (fun _=>le_refl _);omega
 ·have:=dP h.ty;have:=h.tl;omega
section
variable {n:Nat}{U:List Str}{f i:Int}{s:Str}{t:Ty}{ks:List Core}{bs:List Bind}{al:List Alt}
theorem ST.kid (h:ST n U (.mk f i s t ks bs al)) (h7:¬f=7) {x:Core}(hx:x∈ks):ST n U x:=by
 refine⟨(aY.1 h.q).2.1 x hx,fun E I=>?_,fun y J=>h.ty y (bC.2 (.inr (.inl ⟨x,hx,J,.inl h7⟩))),?_,?_⟩
 ·have:=(fX.1 (h.cw E I)).2.2.1 x hx;rwa [φ h7] at this
 ·have:=(mT (f:=f) (n:=i) (s:=s) (t:=t) (ks:=ks) (bs:=bs) (al:=al)).1 x hx;have:=h.tl;omega
 ·have:=fL hx;have:=h.sz;rw[m30] at this;omega
theorem ST.tkid (h:ST n U (.mk 7 i s t ks bs al)) {x:Core}(hx:x∈ks):ST n (s::U) x∧tlC x+1≤tlC (.mk 7 i s t ks bs al)∧m30 x<m30 (.mk 7 i s t ks bs al):=by
 have h1:=(mT (f:=7) (n:=i) (s:=s) (t:=t) (ks:=ks) (bs:=bs) (al:=al)).1 x hx;rw[ξ rfl] at h1;have h2:=fL hx;have h3:=h.tl;have h4:=h.sz;refine⟨⟨(aY.1 h.q).2.1 x hx,fun E I=>?_,fun y J=>?_,by omega,?_⟩,h1,?_⟩
 ·have:=(fX.1 (h.cw E I)).2.2.1 x hx;rw[ξ rfl] at this;exact le_trans (sT (le_refl _) fun y=>Aj _) this
 ·by_cases e:y=s
  ·rw[e];exact η
  ·exact ω _ (h.ty y (bC.2 (.inr (.inl ⟨x,hx,J,.inr e⟩))))
 ·rw[m30] at h4;omega
 ·rw[m30];omega
theorem ST.bind (h:ST n U (.mk f i s t ks bs al)) {x:Bind}(hx:x∈bs):ST n U x.body:=by
 refine⟨(aY.1 h.q).2.2.1 x hx,fun E I=>((fX.1 (h.cw E I)).2.2.2.1 x hx).2,fun y J=>h.ty y (bC.2 (.inr (.inr (.inl ⟨x,hx,.inr J⟩)))),?_,?_⟩
 ·have:=(mT (f:=f) (n:=i) (s:=s) (t:=t) (ks:=ks) (bs:=bs) (al:=al)).2.1 x hx;have:=h.tl;omega
 ·have:=k8 hx;have:=h.sz;rw[m30] at this;omega
theorem ST.alt (h:ST n U (.mk f i s t ks bs al)) {x:Alt}(hx:x∈al):ST n U x.body:=by
 refine⟨(aY.1 h.q).2.2.2 x hx,fun E I=>(fX.1 (h.cw E I)).2.2.2.2 x hx,fun y J=>h.ty y (bC.2 (.inr (.inr (.inr ⟨x,hx,J⟩)))),?_,?_⟩
 ·have:=(mT (f:=f) (n:=i) (s:=s) (t:=t) (ks:=ks) (bs:=bs) (al:=al)).2.2 x hx;have:=h.tl;omega
 ·have:=gU hx;have:=h.sz;rw[m30] at this;omega
theorem aDy (hf:okF f 0 0 0=true) (h7:¬f=7) (h5:¬f=5) (hs:s.length≤30):dD (QL 403) (.mk f i s zTy [] [] []):=by
 have hw:w30 s=30:=by unfold w30;omega
 exact aY.2 ⟨⟨hf,fun h=>absurd h h7,rfl,by simp,by unfold lw;rw[hw];decide,fun h=>absurd h h5,by simp,by simp⟩,by simp,by simp,by simp⟩
theorem aDw {w:Nat}(hf:okF f 0 0 0=true) (h7:¬f=7) (h5:¬f=5) (hs:s.length≤30):SR n U w (.mk f i s zTy [] [] []):=by
 have hw:w30 s=30:=by unfold w30;omega
 refine⟨aDy hf h7 h5 hs,fun E I=>fX.2 ⟨by rw[dK];omega,by rw[dZ];omega,by simp,by simp,by simp⟩,fun y q=>?_,?_,?_⟩
 ·rcases bC.1 q with h | ⟨x,hx,_⟩ | ⟨x,hx,_⟩ | ⟨x,hx,_⟩
  ·cases h
  ·cases hx
  ·cases hx
  ·cases hx
 ·rw[tlC,jT,qY,qA,φ h7];omega
 ·rw[m30,dI,gM,j2,hw];omega
end
theorem ST.sr {n w:Nat}{U:List Str}{c:Core}(h:ST n U c):SR n U w c:=⟨h.q,h.cw,h.ty,by have:=h.tl;omega,by have:=h.sz;omega⟩
theorem a2j {n:Nat}{U:List Str}:∀(k:Nat) (c:Core),m30 c≤k→ST n U c→∀(s:Str) (l:List Core),gvC c=some (s,l)→(∀x∈l,ST n U x)∧(l.map m30).sum≤m30 c:=by
 intro k
 induction k with
 | zero=>intro c h;have:=eY c;omega
 | succ k O=>
 intro c h hc s l I;obtain⟨f,i,nm,t,ks,bs,al⟩:=c;rw[gvC] at I;by_cases h2:f=2
 ·rw[ξ h2] at I;cases I;exact⟨by simp,by simp⟩
 rw[φ h2] at I;by_cases h4:f=4
 ·rw[ξ h4] at I;obtain⟨⟨a,b,rfl⟩,rfl,rfl⟩:=w9 hc.q (.inl h4);have ha:=hc.kid (by omega) (x:=a) η;have hb:=hc.kid (by omega) (x:=b) (ω _ η);rw[m30,dI,dI,dI] at h ⊢;rw[gvH] at I;cases J:gvC a with
  | none=>rw[J] at I;cases I
  | some p=>
   rw[J] at I;obtain⟨s1,W⟩:=p;obtain⟨g1,g2⟩:=O a (by omega) ha s1 W J;have I:=Option.some.inj I;have e:l=W++[b]:=(congrArg Prod.snd I).symm;rw[e];refine⟨fun x hx=>?_,?_⟩
   ·rcases δ.1 hx with hx | hx
    ·exact g1 x hx
    ·rw[ζ.1 hx];exact hb
   ·rw[A4,List.sum_append];simp only[Al,Bn,Ce,sum_nil];omega
 rw[φ h4] at I;by_cases N:f=6
 ·rw[ξ N] at I;obtain⟨⟨a,rfl⟩,rfl,rfl⟩:=fJ hc.q (.inr (.inl N));have ha:=hc.kid (by omega) (x:=a) η;rw[m30,dI,dI] at h ⊢;rw[gvH] at I;obtain⟨g1,g2⟩:=O a (by omega) ha s l I;exact⟨g1,by omega⟩
 ·rw[φ N] at I;cases I
theorem aXy {a b s:Nat}(h:a+b≤s):a*a+2*(a*b)+b*b≤s*s:=by
 have h1:=mul_le_mul h h;have h2:(a+b)*(a+b)=a*a+2*(a*b)+b*b:=by rw[Ay,Cz,Cz,mul_comm b a];omega
 omega
theorem a3v (a b:Nat):2*(a*b)≤a*a+b*b:=by
 rcases Nat.le_total a b with h | h
 ·obtain⟨d,rfl⟩:=Nat.exists_eq_add_of_le h;have q:a*(a+d)=a*a+a*d:=Cz ..;have I:(a+d)*(a+d)=a*a+a*d+(a*d+d*d):=by rw[Ay,Cz,Cz,mul_comm d a]
  omega
 ·obtain⟨d,rfl⟩:=Nat.exists_eq_add_of_le h;have q:(b+d)*b=b*b+b*d:=by rw[Ay,mul_comm d b]
  have I:(b+d)*(b+d)=b*b+b*d+(b*d+d*d):=by rw[Ay,Cz,Cz,mul_comm d b]
  omega
theorem ar1 {a b s:Nat}(h:a+b≤s):60*(a*(b/31+1))≤s*s+120*s:=by
 have h1:=aXy h;have h2:a*(60*(b/31+1))≤a*(2*b+60):=C2 _ (by omega);have q:a*(60*(b/31+1))=60*(a*(b/31+1)):=by rw[mul_left_comm]
 have I:a*(2*b+60)=2*(a*b)+a*60:=by rw[Cz,mul_left_comm]
 omega
theorem ar2 {a b s:Nat}(h:a+b≤s):60*(a*(b/15+2))≤s*s+120*s:=by
 have h1:=aXy h;have h3:=a3v a b;have h2:a*(60*(b/15+2))≤a*(4*b+120):=C2 _ (by omega);have q:a*(60*(b/15+2))=60*(a*(b/15+2)):=by rw[mul_left_comm]
 have I:a*(4*b+120)=4*(a*b)+a*120:=by rw[Cz,mul_left_comm]
 omega
theorem ar3 {s v:Nat}(hs:s≤3500000) (h:60*v≤s*s+120*s):v≤Big:=by
 have:=ar0 hs;have:Big=250000000000:=rfl;omega
theorem ar4 {x m r C:Nat}(hx:x≤m) (h:60*r≤C+x*x+120*x):60*(m-x+r)≤C+m*m+120*m:=by
 have:=mul_le_mul hx hx;omega
theorem aEz {α:Type}{g:α→Nat}:∀{l:List α}{x:α},x∈l→g x≤(l.map g).sum
 | y::l,x,h=>by
  rw[Al,Ce];rcases Ai.1 h with e | h
  ·rw[e];omega
  ·have:=aEz (g:=g) h;omega
theorem rT {α:Type}{g:α→Nat}{K:Nat}:∀{l:List α},(∀x∈l,g x≤K)→(l.map g).sum≤l.length*K
 | [],_=>by simp
 | y::l,h=>by
  rw[Al,Ce,Ak,Nat.succ_mul];have:=h y η;have:=rT (l:=l) fun x hx=>h x (ω _ hx)
  omega
theorem aXw:∀q:List (Str×Ty),31*q.length≤(q.map fun p=>1+w30 p.1).sum
 | []=>le_refl _
 | p::l=>by simp only[Al,Ce,Ak];have:=aXw l;have:=kP p.1;omega
theorem a3q {s:Str}{q:List (Str×Ty)}{I:List (Str×List Str)}(h:lw s q I≤403):q.length≤12:=by
 unfold lw at h;have:=aXw q;have:=kP s;omega
theorem a3r {s:Str}{I:List (Str×Ty)}{q:List (Str×List Str)}(h:lw s I q≤403) {p:Str×List Str}(hp:p∈q):p.2.length≤12:=by
 unfold lw at h;have h1:=aEz (g:=fun p:Str×List Str=>1+w30 p.1+(p.2.map fun v=>1+w30 v).sum) hp;have h2:=wI p.2;have:=kP s;omega
section
variable {n:Nat}{U:List Str}
theorem aTz (N:dA 540000000000) (hn:n≤299) (J:U.length≤480000) {body a:Core}{nm:Str}{s:Nat}(h1:ST n U body) (h2:ST n U a) (hs:m30 body+m30 a≤s):
  TB 403 body nm a (eQ (m30 body) body nm a)∧SR (n+1) U s (eQ (m30 body) body nm a):=by
 have I:=aAt N (D:=1000) (M:=650000) (X:=403) (by decide) (by decide) (m30 body) body (le_refl _) (h1.cg (by omega) J) nm a (h2.cg (by omega) J);refine⟨I,I.rx.q,fun E O=>?_,fun x hx=>(I.rx.ty x hx).elim (h1.ty x) (h2.ty x),?_,?_⟩
 ·have:=I.rx.cw jS E r0;have:=h1.cw E (by omega);have:=h2.cw E (by omega);omega
 ·have:=I.rx.tl;have:=h1.tl;have:=h2.tl;omega
 ·have:=I.sz (m30 a/31+1) (by omega) (by omega);have:=ar1 hs;omega
theorem aOr (N:dA 540000000000) (hn:n≤299) (O:U.length≤480000) {i i':Int}{s nm:Str}{u t':Ty}{body:Core}{bs:List Bind}{al:List Alt}
  (h:ST n U (.mk 6 i s u [.mk 7 i' nm t' [body] [] []] bs al)) {w:Nat}:
  SB 403 body nm u (sTR (m30 body) body nm u)∧SR (n+1) U w (sTR (m30 body) body nm u):=by
 have hh:=h.kid (by decide) (x:=.mk 7 i' nm t' [body] [] []) η;obtain⟨hb,_,_⟩:=hh.tkid (x:=body) η;have W:=h.cg (by omega) O;have J:=((hh.cg (by omega) O).kid (x:=body) η).1
 obtain⟨Y,Z,_⟩:=W.ty;have hu:UOk u:=⟨Y,by omega⟩
 have I:=aDj N (by decide) (m30 body) body (le_refl _) J nm u hu;refine⟨I,I.q,fun E hE=>?_,fun x hx=>?_,?_,?_⟩
 ·have h1:=I.cw jS E r0;have h2:=(fX.1 (h.cw (n*3) (le_refl _))).2.1
  have h3:=(fX.1 (hh.cw E (by omega))).2.2.1 body η;rw[ξ rfl] at h3;refine le_trans h1 (le_trans (sT (le_refl _) fun x=>?_) h3);unfold fY;split
  ·omega
  ·exact le_refl _
 ·rcases aX0 N (by decide) (m30 body) body (le_refl _) J nm u hu x hx with⟨h1,h2⟩ | h1
  ·exact(Ai.1 (hb.ty x h1)).resolve_left h2
  ·exact h.ty x (bC.2 (.inl h1))
 ·have:=I.tl;have:=hb.tl;omega
 ·have:=I.sz;have:=hb.sz;omega
theorem aTx {B s:Nat}{c r:Core}{l:List Core}(hc:ST n U c) (hl:∀b∈l,(∀E,n*3≤E→cw jS E b r0≤3+E)∧(∀x∈tyR b,x∈U)∧tlC b≤6000) (I:l.length≤12) (J:60*(m30 c*B)≤s*s+120*s) (h:PR 403 B c l r):SR (n+1) U s r:=by
 refine⟨h.q,fun E N=>h.cw jS E r0 _ (hc.cw E (by omega)) fun b hb=>(hl b hb).1 E (by omega),fun x hx=>?_,?_,?_⟩
 ·rcases h.ty x hx with h | ⟨b,hb,h⟩
  ·exact hc.ty x h
  ·exact(hl b hb).2.1 x h
 ·have h1:=h.tl;have h2:=rT (g:=tlC) (K:=6000) (l:=l) fun b hb=>(hl b hb).2.2
  have h3:=hc.tl;have h4:l.length*6000≤12*6000:=Av _ I;omega
 ·have:=h.sz;omega
theorem a06 {B s:Nat}{c:Core}{l:List Core}(hn:n≤299) (W:U.length≤480000) (hc:ST n U c) (hl:∀b∈l,(∀E,n*3≤E→cw jS E b r0≤3+E)∧(∀x∈tyR b,x∈U)∧tlC b≤6000) (I:l.length≤12) (hs:s≤3500000) (J:1≤B) (Y:60*(m30 c*B)≤s*s+120*s)
  (Z:∀b∈l,dD (QL 403) b) (N:∀b∈l,m30 b≤31*B) (O:∀b∈l,m30 b≤10000000):PO 1000 650000 403 B c l:=by
 refine⟨hc.q,(hc.cg (by omega) W).dep,Z,fun b hb=>?_,⟨U,?_,hc.ty,fun b hb=>(hl b hb).2.1⟩,J,N,ar3 hs Y,?_⟩
 ·have:=(hl b hb).1 (n*3) (le_refl _)
  have:=sT (A:=jS) (E:=0) (E':=n*3) (Aj _) (c:=b) (ρ:=r0) (ρ':=r0) (fun _=>le_refl _);omega
 ·have h2:=rT (g:=tlC) (K:=6000) (l:=l) fun b hb=>(hl b hb).2.2
  have h3:=hc.tl;have h4:l.length*6000≤12*6000:=Av _ I;omega
 ·have h2:=rT (g:=m30) (K:=10000000) (l:=l) O;have h4:l.length*10000000≤12*10000000:=Av _ I;have:Big=250000000000:=rfl;omega
theorem aVb {i:Int}{s:Str}{t:Ty}{ks:List Core}{bs:List Bind}{al:List Alt}(h:ST n U (.mk 8 i s t ks bs al)) {b:Bind}(hb:b∈bs):
  dD (QL 403) (kN bs b)∧((∀E,n*3≤E→cw jS E (kN bs b) r0≤3+E)∧(∀x∈tyR (kN bs b),x∈U)∧tlC (kN bs b)≤6000)∧m30 (kN bs b)≤31*(gM bs/15+2)∧m30 (kN bs b)≤10000000:=by
 have I:=h.bind hb;obtain⟨⟨g1,g2,g3,g4,g5,g6,g7,g8⟩,_,W,_⟩:=aY.1 h.q;have hs:=h.sz;rw[m30] at hs;have hm:=k8 hb;have N:w30 ([]:Str)=30:=rfl;have em:m30 (kN bs b)=31+m30 b.body+gM bs:=by
  unfold kN;rw[m30,dI,dI,j2,N];omega
 have Y:m30 b.body+31≤gM bs:=by
  have h1:=xB bs;have h2:m30 b.body≤dI (bs.map Bind.body):=fL (Af.2 ⟨b,hb,rfl⟩);have h3:1≤bs.length:=List.length_pos_of_mem hb;omega
 refine⟨?_,⟨fun E O=>?_,fun x hx=>?_,?_⟩,by omega,by omega⟩
 ·unfold kN;refine aY.2 ⟨⟨by simp[okF],fun e=>absurd e (by decide),rfl,g4,?_,fun e=>absurd e (by decide),g7,by simp⟩,by simpa using I.q,W,by simp⟩;unfold lw at g5 ⊢;rw[N];have:=kP s;simp only[Bn,sum_nil];omega
 ·unfold kN;have g:=fX.1 (h.cw E O);refine fX.2 ⟨g.1,by rw[dZ];omega,fun x hx=>?_,g.2.2.2.1,by simp⟩;rw[ζ.1 hx,φ (by decide)];exact I.cw E O
 ·unfold kN at hx;rcases bC.1 hx with h1 | ⟨y,J,h1,_⟩ | ⟨y,J,h1⟩ | ⟨y,J,_⟩
  ·cases h1
  ·rw[ζ.1 J] at h1;exact I.ty x h1
  ·exact h.ty x (bC.2 (.inr (.inr (.inl ⟨y,J,h1⟩))))
  ·cases J
 ·unfold kN;have g:=mT (f:=8) (n:=i) (s:=s) (t:=t) (ks:=ks) (bs:=bs) (al:=al);have ht:=h.tl;have:=(yY (K:=6000) (f:=8) (n:=0) (s:=[]) (t:=zTy) (ks:=[b.body]) (bs:=bs) (al:=[])).2 ⟨fun x hx=>by rw[ζ.1 hx];exact I.tl,fun x hx=>le_trans (g.2.1 x hx) ht,by simp⟩
  rwa [φ (by decide),A6] at this
theorem aHb {i:Int}{s:Str}{t:Ty}{ks:List Core}{bs:List Bind}{al:List Alt}(h:dD (QL 403) (.mk 8 i s t ks bs al)):(∃a,ks=[a])∧al=[]∧bs.length≤12:=by
 obtain⟨⟨h1,_,_,_,h5,_⟩,_⟩:=aY.1 h;have q:=a3q h5;rw[θ] at q;unfold okF at h1;rw[φ (by decide),φ (by decide),ξ rfl] at h1;obtain⟨g1,g2⟩:=ψ h1;rw[θ] at g2;exact⟨Bt.1 g1,Bl.1 g2,q⟩
theorem aSg:∀l:List (Str×List Str),31*l.length≤(l.map fun p=>1+w30 p.1+(p.2.map fun v=>1+w30 v).sum).sum
 | []=>by simp
 | p::l=>by
  have h1:=aSg l;have h2:=kP p.1;rw[Al,Ce,Ak];omega
theorem aOw {i:Int}{s:Str}{t:Ty}{ks:List Core}{bs:List Bind}{al:List Alt}(h:dD (QL 403) (.mk 9 i s t ks bs al)):(∃a,ks=[a])∧bs=[]∧al.length≤12∧∀a∈al,a.vars.length≤12:=by
 obtain⟨⟨h1,_,_,_,h5,_⟩,_⟩:=aY.1 h;unfold okF at h1;rw[φ (by decide),φ (by decide),φ (by decide),ξ rfl] at h1;obtain⟨g1,g2⟩:=ψ h1;rw[θ] at g2;refine⟨Bt.1 g1,Bl.1 g2,?_,fun a ha=>a3r h5 (Af.2 ⟨a,ha,rfl⟩)⟩;unfold lw at h5;have q:=aSg (al.map ahd);rw[θ] at q;have:=kP s;omega
theorem aTy (hn:n≤299) (O:U.length≤480000) {i:Int}{s:Str}{t:Ty}{a:Core}{bs:List Bind}(h:ST n U (.mk 8 i s t [a] bs [])):
  PO 1000 650000 403 (gM bs/15+2) a (bs.map (kN bs))∧∀r,PR 403 (gM bs/15+2) a (bs.map (kN bs)) r→SR (n+1) U (m30 (.mk 8 i s t [a] bs [])) r:=by
 have ha:=h.kid (by decide) (x:=a) η;have I:(bs.map (kN bs)).length≤12:=by rw[θ];exact(aHb h.q).2.2
 have hl:∀b∈bs.map (kN bs),dD (QL 403) b∧((∀E,n*3≤E→cw jS E b r0≤3+E)∧(∀x∈tyR b,x∈U)∧tlC b≤6000)∧m30 b≤31*(gM bs/15+2)∧m30 b≤10000000:=fun b hb=>by
  obtain⟨W,J,rfl⟩:=Af.1 hb;exact aVb h J
 have N:=ar2 (a:=m30 a) (b:=gM bs) (s:=m30 (.mk 8 i s t [a] bs [])) (by rw[m30,dI,dI];omega);exact⟨a06 hn O ha (fun b hb=>(hl b hb).2.1) I h.sz (by omega) N (fun b hb=>(hl b hb).1) (fun b hb=>(hl b hb).2.2.1) (fun b hb=>(hl b hb).2.2.2),fun _=>aTx ha (fun b hb=>(hl b hb).2.1) I N⟩
theorem aR4 (hn:n≤299) (O:U.length≤480000) {a:Alt}{c:Core}{s:Nat}(hs:m30 a.body+m30 c≤s) (J:s≤3500000) (ha:ST n U a.body) (hv:a.vars.length≤12) {l:List Core}(g1:∀x∈l,ST n U x) (g2:(l.map m30).sum≤m30 c) (hl:l.length=a.vars.length):
  PO 1000 650000 403 (m30 c/31+1) a.body l∧∀r,PR 403 (m30 c/31+1) a.body l r→SR (n+1) U s r:=by
 have hm:∀b∈l,m30 b≤m30 c:=fun b hb=>le_trans (aCc hb) g2
 have I:∀b∈l,(∀E,n*3≤E→cw jS E b r0≤3+E)∧(∀x∈tyR b,x∈U)∧tlC b≤6000:=fun b hb=>⟨(g1 b hb).cw,(g1 b hb).ty,(g1 b hb).tl⟩
 have N:=ar1 hs;exact⟨a06 hn O ha I (by omega) J (by omega) N (fun b hb=>(g1 b hb).q) (fun b hb=>by have:=hm b hb;omega) (fun b hb=>by have:=hm b hb;omega),fun _=>aTx ha I (by omega) N⟩
theorem aOs (hn:n≤299) (I:U.length≤480000) {a:Alt}{c:Core}{s:Nat}(hs:m30 a.body+m30 c≤s) (q:s≤3500000) (ha:ST n U a.body) (hc:ST n U c) (hv:a.vars.length≤12) {nm:Str}{l:List Core}(J:gvC c=some (nm,l)) (hl:l.length=a.vars.length):
  PO 1000 650000 403 (m30 c/31+1) a.body l∧∀r,PR 403 (m30 c/31+1) a.body l r→SR (n+1) U s r:=by
 obtain⟨g1,g2⟩:=a2j _ c (le_refl _) hc nm l J;exact aR4 hn I hs q ha hv g1 g2 hl
theorem aFz {x r:Core}:∀{ks:List Core}{j:Nat},ks[j]?=some x→dI (ks.set j r)+m30 x=dI ks+m30 r
 | y::ks,0,h=>by
  have e:y=x:=by simpa using h
  subst e;rw[List.set_cons_zero,dI,dI];omega
 | y::ks,j+1,h=>by
  rw[C3,dI,dI];have:=aFz (r:=r) (ks:=ks) (j:=j) (by simpa using h);omega
theorem a05 {f i:Int}{s:Str}{t:Ty}{ks:List Core}{bs:List Bind}{al:List Alt}(h7:¬f=7) (h:ST n U (.mk f i s t ks bs al)) {j:Nat}{x r:Core}(hx:ks[j]?=some x) (J:SR (n+1) U (m30 x) r):
  SR (n+1) U (m30 (.mk f i s t ks bs al)) (aE4 (.mk f i s t ks bs al) j r):=by
 have O:=Ab hx;have hin:∀y∈ks.set j r,y=r∨y∈ks:=fun y I=>(List.mem_or_eq_of_mem_set I).symm
 obtain⟨g1,g2,g3,g4⟩:=aY.1 h.q;unfold aE4;refine⟨aY.2 ⟨by rw[Cn];exact g1,fun y I=>?_,g3,g4⟩,fun E W=>?_,fun y I=>?_,?_,?_⟩
 ·rcases hin y I with rfl | I
  ·exact J.q
  ·exact g2 y I
 ·obtain⟨c1,c2,Y,Z,c5⟩:=fX.1 (h.cw E (by omega));refine fX.2 ⟨c1,c2,fun y I=>?_,Z,c5⟩;rcases hin y I with rfl | I
  ·rw[φ h7];exact J.cw E W
  ·exact Y y I
 ·rcases bC.1 I with h1 | ⟨z,N,h1,_⟩ | h1
  ·exact h.ty y (bC.2 (.inl h1))
  ·rcases hin z N with rfl | N
   ·exact J.ty y h1
   ·exact h.ty y (bC.2 (.inr (.inl ⟨z,N,h1,.inl h7⟩)))
  ·exact h.ty y (bC.2 (.inr (.inr h1)))
 ·have g:=mT (f:=f) (n:=i) (s:=s) (t:=t) (ks:=ks) (bs:=bs) (al:=al);have ht:=h.tl;have:=(yY (K:=84000) (f:=f) (n:=i) (s:=s) (t:=t) (ks:=ks.set j r) (bs:=bs) (al:=al)).2 ⟨fun y I=>?_,fun y I=>by have:=g.2.1 y I;omega,fun y I=>by have:=g.2.2 y I;omega⟩
  ·rwa [φ h7,A6] at this
  ·rcases hin y I with rfl | I
   ·exact J.tl
   ·have:=g.1 y I;omega
 ·have g1:=aFz (r:=r) hx;have g2:=fL O;have e:m30 (.mk f i s t (ks.set j r) bs al)=m30 (.mk f i s t ks bs al)-m30 x+m30 r:=by
   rw[m30,m30];omega
  rw[e];exact ar4 (by rw[m30];omega) J.sz
end
theorem gT {bd:List Bind}{k:Nat}{f i:Int}{s:Str}{t:Ty}{ks:List Core}{bs:List Bind}{al:List Alt}:dR bd (k+1) (.mk f i s t ks bs al)=
  if f=1 then(match bd.find? fun b=>decide (b.name=s) with | some b=>(b.body,0) | none=>(zC,51))
  else if f=4∨f=6 then
   (if f=4∧(ks.headD zC).form=5 then(eQ (m30 ((ks.headD zC).kids.headD zC)) ((ks.headD zC).kids.headD zC) (ks.headD zC).name (ks.getD 1 zC),0)
   else if f=6∧(ks.headD zC).form=7 then(sTR (m30 ((ks.headD zC).kids.headD zC)) ((ks.headD zC).kids.headD zC) (ks.headD zC).name t,0)
   else yL (dR bd k) (.mk f i s t ks bs al) 0)
  else if f=8 then(wX (ks.headD zC) (bs.map Bind.name) (bs.map (kN bs)),0)
  else if f=9 then(if shC (ks.headD zC)=true then(match al.findSome? fun a=>j6 a (ks.headD zC) with | some r=>(r,0) | none=>(zC,52)) else yL (dR bd k) (.mk f i s t ks bs al) 0)
  else if f=10 then
   (if ¬shC (ks.headD zC)=true then yL (dR bd k) (.mk f i s t ks bs al) 0
   else if ¬shC (ks.getD 1 zC)=true then yL (dR bd k) (.mk f i s t ks bs al) 1
   else if(ks.headD zC).form=3∧(ks.getD 1 zC).form=3 then iS s (ks.headD zC).n (ks.getD 1 zC).n
   else(zC,51))
  else if f=11 then(zC,52)
  else(zC,51):=by rw[dR];rfl
structure BI (U:List Str) (bd:List Bind):Prop where
 len:bd.length≤1000
 all:∀b∈bd,ST 0 U b.body
theorem aWz {n w:Nat}{U:List Str}{s:Str}{a b:Int}(h:(iS s a b).2=0):SR n U w (iS s a b).1:=by
 have hi:∀m,SR n U w (gN m):=fun m=>aDw (by decide) (by decide) (by decide) (by decide)
 have ht:∀c,SR n U w (aB1 c):=fun c=>by cases c<;>exact aDw (by decide) (by decide) (by decide) (by decide)
 unfold iS at h ⊢;by_cases h1:s=aBo
 ·rw[ξ h1];exact hi _
 rw[φ h1] at h ⊢;by_cases h1:s=aW5
 ·rw[ξ h1];exact hi _
 rw[φ h1] at h ⊢;by_cases h1:s=aUz
 ·rw[ξ h1];exact hi _
 rw[φ h1] at h ⊢;by_cases h1:s=aO0
 ·rw[ξ h1] at h ⊢;by_cases h0:b=0
  ·rw[ξ h0] at h;cases h
  ·rw[φ h0];exact hi _
 rw[φ h1] at h ⊢;by_cases h1:s=nEq
 ·rw[ξ h1];exact ht _
 rw[φ h1] at h ⊢;by_cases h1:s=nLt
 ·rw[ξ h1];exact ht _
 ·rw[φ h1] at h;cases h
theorem aQs {sh:Bool}{p:CE}{g:Core→Core}(h:(aL7 sh p g).2=0):sh=false∧p.2=0∧(aL7 sh p g).1=g p.1:=by
 unfold aL7 at h ⊢;cases sh with
 | true=>cases h
 | false=>
  rw[φ A5] at h ⊢;by_cases h0:p.2=0
  ·rw[ξ h0];exact⟨rfl,h0,rfl⟩
  ·rw[φ h0] at h;exact absurd h h0
theorem wJ (Y:dA 540000000000) {n:Nat}{U:List Str}(hn:n≤299) (Z:U.length≤480000) {bd:List Bind}(hB:BI U bd):∀(k:Nat) (c:Core),m30 c≤k→ST n U c→(dR bd k c).2=0→SR (n+1) U (m30 c) (dR bd k c).1:=by
 intro k
 induction k with
 | zero=>intro c h;have:=eY c;omega
 | succ k ih=>
 intro c h hc he;obtain⟨f,i,s,t,ks,bs,al⟩:=c;have J:∀j,¬f=7→(yL (dR bd k) (.mk f i s t ks bs al) j).2=0→SR (n+1) U (m30 (.mk f i s t ks bs al)) (yL (dR bd k) (.mk f i s t ks bs al) j).1:=fun j h7 he=>by
  unfold yL at he ⊢;cases hx:ks[j]? with
  | none=>
   have W:(Core.mk f i s t ks bs al).kids[j]?=none:=hx;rw[W] at he;cases he
  | some x=>
   have W:(Core.mk f i s t ks bs al).kids[j]?=some x:=hx;rw[W] at he ⊢;dsimp only at he ⊢;obtain⟨_,e2,N⟩:=aQs he;rw[N];have hxm:=Ab hx;exact a05 h7 hc hx (ih x (by have:=fL hxm;rw[m30] at h;omega) (hc.kid h7 hxm) e2)
 rw[gT] at he ⊢;by_cases h1:f=1
 ·rw[ξ h1] at he ⊢;cases hf:bd.find? fun b=>decide (b.name=s) with
  | none=>rw[hf] at he;cases he
  | some b=>exact((hB.all b (List.mem_of_find?_eq_some hf)).mono (Aj _)).sr
 rw[φ h1] at he ⊢;by_cases h46:f=4∨f=6
 ·rw[ξ h46] at he ⊢;by_cases ha:f=4∧(ks.headD zC).form=5
  ·rw[ξ ha];obtain⟨rfl,ha⟩:=ha;obtain⟨⟨a,b,rfl⟩,rfl,rfl⟩:=w9 hc.q (.inl rfl);have O:=hc.kid (by decide) (x:=a) η;have kb:=hc.kid (by decide) (x:=b) (ω _ η);obtain⟨f',i',s',t',ks',bs',al'⟩:=a;have ha:f'=5:=ha;subst ha;obtain⟨⟨body,rfl⟩,rfl,rfl⟩:=fJ O.q (.inl rfl);exact(aTz Y hn Z (O.kid (by decide) (x:=body) η) kb (by rw[m30,dI,dI,dI,m30,dI,dI];omega)).2
  rw[φ ha] at he ⊢;by_cases hb:f=6∧(ks.headD zC).form=7
  ·rw[ξ hb];obtain⟨rfl,hb⟩:=hb;obtain⟨⟨a,rfl⟩,rfl,rfl⟩:=fJ hc.q (.inr (.inl rfl));have O:=hc.kid (by decide) (x:=a) η;obtain⟨f',i',s',t',ks',bs',al'⟩:=a;have hb:f'=7:=hb;subst hb;obtain⟨⟨body,rfl⟩,rfl,rfl⟩:=fJ O.q (.inr (.inr rfl));exact(aOr Y hn Z hc).2
  rw[φ hb] at he ⊢;exact J 0 (by omega) he
 rw[φ h46] at he ⊢;by_cases h8:f=8
 ·rw[ξ h8];subst h8;obtain⟨⟨a,rfl⟩,rfl,h12⟩:=aHb hc.q;obtain⟨g1,g2⟩:=aTy hn Z hc;exact g2 _ (aRh Y (by decide) (by decide) a _ _ (by rw[θ,θ]) (by rw[θ];omega) g1).2
 rw[φ h8] at he ⊢;by_cases h9:f=9
 ·rw[ξ h9] at he ⊢;subst h9;obtain⟨⟨a,rfl⟩,rfl,h12,hv⟩:=aOw hc.q;cases hsh:shC a with
  | true=>
   have e:shC ([a].headD zC)=true:=hsh;rw[ξ e] at he ⊢;have O:=hc.kid (by decide) (x:=a) η;cases hfs:al.findSome? fun x=>j6 x ([a].headD zC) with
   | none=>rw[hfs] at he;cases he
   | some r=>
    obtain⟨x,hx,I⟩:=List.exists_of_findSome?_eq_some hfs;have kx:=hc.alt hx;have I:j6 x a=some r:=I;have hm:=gU hx;have hsz:=hc.sz;show SR (n+1) U _ r;unfold j6 at I;by_cases e1:x.form=3
    ·rw[ξ e1] at I;cases I;exact(kx.mono (Nat.le_succ _)).sr
    rw[φ e1] at I;by_cases e2:x.form=2
    ·rw[ξ e2] at I;by_cases N:a.form=3∧a.n=x.n
     ·rw[ξ N] at I;cases I;exact(kx.mono (Nat.le_succ _)).sr
     ·rw[φ N] at I;cases I
    rw[φ e2] at I;cases hg:gvC a with
    | none=>rw[hg] at I;cases I
    | some p=>
     obtain⟨nm,l⟩:=p;rw[hg] at I;dsimp only at I;by_cases N:nm=x.name∧l.length=x.vars.length
     ·rw[ξ N] at I;cases I;obtain⟨g1,g2⟩:=aOs hn Z (s:=m30 (.mk 9 i s t [a] [] al)) (by rw[m30,dI,dI];omega) hsz kx O (hv x hx) hg N.2;exact g2 _ (aRh Y (by decide) (by decide) x.body _ _ N.2.symm (by have:=hv x hx;omega) g1).2
     ·rw[φ N] at I;cases I
  | false=>
   have e:¬shC ([a].headD zC)=true:=by rw[show shC ([a].headD zC)=shC a from rfl,hsh];decide
   rw[φ e] at he ⊢;exact J 0 (by decide) he
 rw[φ h9] at he ⊢;by_cases h10:f=10
 ·rw[ξ h10] at he ⊢;by_cases g1:¬shC (ks.headD zC)=true
  ·rw[ξ g1] at he ⊢;exact J 0 (by omega) he
  rw[φ g1] at he ⊢;by_cases g2:¬shC (ks.getD 1 zC)=true
  ·rw[ξ g2] at he ⊢;exact J 1 (by omega) he
  rw[φ g2] at he ⊢;by_cases g3:(ks.headD zC).form=3∧(ks.getD 1 zC).form=3
  ·rw[ξ g3] at he ⊢;exact aWz he
  ·rw[φ g3] at he;cases he
 rw[φ h10] at he;by_cases h11:f=11
 ·rw[ξ h11] at he;cases he
 ·rw[φ h11] at he;cases he
mutual
theorem l9 {X:Nat}:∀c:Core,dD (QL X) c→m30 c≤X*dJ c
 | .mk f n s t ks bs al,h=>by
  obtain⟨⟨_,_,_,_,h5,_⟩,h2,h3,h4⟩:=aY.1 h;have q:=v8 ks h2;have I:=vA bs h3;have J:=vB al h4;unfold lw at h5;rw[m30,dJ,Cz,Cz,Cz,mul_one];omega
theorem v8 {X:Nat}:∀l:List Core,(∀x∈l,dD (QL X) x)→dI l≤X*bF l
 | [],_=>by rw[dI];exact Aj _
 | c::l,h=>by
  rw[dI,bF,Cz];have:=l9 c (h c η);have:=v8 l fun x hx=>h x (ω _ hx)
  omega
theorem vA {X:Nat}:∀l:List Bind,(∀x∈l,dD (QL X) x.body)→gM l≤X*bW l+((l.map bhd).map fun p=>1+w30 p.1).sum
 | [],_=>by rw[gM];exact Aj _
 | .mk s t c::l,h=>by
  rw[gM,bW,Cz,Al,Al,Ce];have:=l9 c (h _ η);have:=vA l fun x hx=>h x (ω _ hx)
  show _≤_+(1+w30 s+_);omega
theorem vB {X:Nat}:∀l:List Alt,(∀x∈l,dD (QL X) x.body)→j2 l≤X*cB l+((l.map ahd).map fun p=>1+w30 p.1+(p.2.map fun v=>1+w30 v).sum).sum
 | [],_=>by rw[j2];exact Aj _
 | .mk f n s v c::l,h=>by
  rw[j2,cB,Cz,Al,Al,Ce];have:=l9 c (h _ η);have:=vB l fun x hx=>h x (ω _ hx)
  show _≤_+(1+w30 s+(v.map fun v=>1+w30 v).sum+_);omega
end
mutual
theorem qX:∀c:Core,tlC c≤dJ c
 | .mk f n s t ks bs al=>by
  have q:=yV ks;have I:=yW bs;have J:=yX al;rw[tlC,dJ];split<;>omega
theorem yV:∀l:List Core,jT l≤bF l
 | []=>by rw[jT];exact Aj _
 | c::l=>by rw[jT,bF];have:=qX c;have:=yV l;omega
theorem yW:∀l:List Bind,qY l≤bW l
 | []=>by rw[qY];exact Aj _
 | .mk s t c::l=>by rw[qY,bW];have:=qX c;have:=yW l;omega
theorem yX:∀l:List Alt,qA l≤cB l
 | []=>by rw[qA];exact Aj _
 | .mk f n s v c::l=>by rw[qA,cB];have:=qX c;have:=yX l;omega
end
theorem SR.st {n s:Nat}{U:List Str}{c:Core}(h:SR n U s c) (hs:dJ c≤6000):ST n U c:=
 ⟨h.q,h.cw,h.ty,le_trans (qX c) hs,by have:=l9 c h.q;have:403*dJ c≤403*6000:=C2 _ hs;omega⟩
theorem vY {p q:Prop} [Decidable p] [Decidable q] (h:(bif decide p then decide q else false)=true):p∧q:=by
 by_cases hp:p
 ·rw[Ah hp] at h;exact⟨hp,ψ h⟩
 ·rw[Am hp] at h;cases h
theorem RowsLe.snoc {r r':List C}(h:CsLe r r'):∀l:List (List C),RowsLe (l++[r]) (l++[r'])
 | []=>.cons h .nil
 | x::l=>.cons (CsLe.refl x) (RowsLe.snoc h l)
def aBr {α:Type}(p:α→Bool):List α→Nat→Int
 | [],_=> -1
 | x::l,i=>if p x=true then(i:Int) else aBr p l (i+1)
theorem aAf {α:Type}(p:α→Bool):∀(l:List α) (i:Nat),(∃(k:Nat) (x:α),aBr p l i=((i+k:Nat):Int)∧l[k]?=some x∧l.find? p=some x)∨(aBr p l i= -1∧l.find? p=none)
 | [],i=>.inr ⟨rfl,rfl⟩
 | x::l,i=>by
  rw[aBr,Cp];cases h:p x with
  | true=>rw[ξ rfl];exact .inl ⟨0,x,rfl,rfl,rfl⟩
  | false=>
   rw[φ A5];rcases aAf p l (i+1) with⟨k,y,h1,h2,h3⟩ | h
   ·exact .inl ⟨k+1,y,by rw[h1];congr 1;omega,h2,h3⟩
   ·exact .inr h
theorem aWb (b:Bind) (f n:Int) (s:Str) (t:Ty) (ks:List Core) (bs:List Bind) (al:List Alt):aQ Tryz.prog 123 ([.pa (bJ b)]++[R.vp 3 0].map V.one) [(3,.var 34 (b8 (.mk f n s t ks bs al)))] (B (decide (b.name=s))) [(3,.var 34 (b8 (.mk f n s t ks bs al)))]:=by
 refine bM (n:=9) tok Tryz.func123 rfl rfl rfl ?_;exact sgh [(0,.id 12)] rfl (sg rfl (aF rtT))
theorem aNm (l:List Bind) (hl:l.length≤1000000000) (f n:Int) (s:Str) (t:Ty) (ks:List Core) (bs:List Bind) (al:List Alt):aQ Tryz.prog 97 [.one (.c (.sl 15 (l.map bJ))),.one (.clo 123 [.vp 3 0])] [(3,.var 34 (b8 (.mk f n s t ks bs al)))] (I .i64 (aBr (fun b:Bind=>decide (b.name=s)) l 0)) [(3,.var 34 (b8 (.mk f n s t ks bs al)))]:=by
 have J:(l.map bJ).length=l.length:=θ _;refine bM (n:=19) tok Tryz.func97 rfl rfl rfl ?_;refine sg rfl (a8 (sg rfl (aB (aK (fun i:Nat=>mk [(0,.one (.c (.sl 15 (l.map bJ)))),(1,.one (.clo 123 [.vp 3 0])),(7,I .i64 ((l.map bJ).length:Int)),(8,I .i64 i)] [(3,.var 34 (b8 (.mk f n s t ks bs al)))]) (fun i=>i≤l.length∧aBr (fun b:Bind=>decide (b.name=s)) l 0=aBr (fun b:Bind=>decide (b.name=s)) (l.drop i) i) (fun i=>l.length-i) 0 ⟨Aj _,rfl⟩ sl ?_))));intro i ⟨hi,hid⟩;refine sg rfl (a8 (aA rfl (fun hb=>?_) (fun hb=>?_)))
 ·have q:=ltD hb J;obtain⟨b,N⟩:=aJ q;have Y:=bO bJ N;have hc:=aWb b f n s t ks bs al;have O:l.drop i=b::l.drop (i+1):=by rw[Bp q,(Aa.1 N).2]
  rw[O,aBr] at hid;refine aD (a8 (aB (sg rfl (skh 5 [(3,.row i (bJ b))] rfl (kv (args:=[.pa (bJ b)]) hc ?_)))));refine az (aA rfl (fun hb=>?_) (fun hb=>?_))
  ·rw[ξ hb] at hid;rw[hid];exact sg rfl (aF rtT)
  ·rw[φ (by rw[show decide (b.name=s)=false from hb];exact A5)] at hid;exact aD (ag [] rfl ⟨i+1,⟨q,hid⟩,by dsimp only;omega,sl⟩)
 have W:=geD hb J hi;subst W;rw[Cy,aBr] at hid;rw[hid];exact aL (sg rfl (aF rtT))
theorem aV2 (m:Mod) (hm:m.binds.length≤1000000000) (f n:Int) (s:Str) (t:Ty) (ks:List Core) (bs:List Bind) (al:List Alt):
  aQ Tryz.prog 69 [.pa (lJ m),.pa (aC (.mk f n s t ks bs al))] [] (fD (match m.binds.find? fun b=>decide (b.name=s) with | some b=>(b.body,0) | none=>(zC,51))) []:=by
 have q:=aNm m.binds hm f n s t ks bs al;rcases aAf (fun b:Bind=>decide (b.name=s)) m.binds 0 with⟨k,b,h1,h2,h3⟩ | ⟨h1,h3⟩
 ·rw[h1,A6] at q;rw[h3];have I:=bO bJ h2;have J:=(Aa.1 h2).1
  refine bM (n:=22) tok Tryz.func69 rfl rfl rfl ?_;refine sg rfl (sk 4 rfl (kc q ?_));exact kz 1 rfl (a8 (sg rfl (aA rfl (fun hb=>absurd (ψ hb) (by omega)) (fun _=>aD (sgh [(4,.row k (bJ b))] rfl (aF (jX trw)))))))
 ·rw[h1] at q;rw[h3];refine bM (n:=22) tok Tryz.func69 rfl rfl rfl ?_;refine sg rfl (sk 4 rfl (kc q ?_));exact kz 1 rfl (a8 (sg rfl (aA rfl (fun _=>sg rfl (aF (jX trw))) (fun hb=>absurd hb (by decide)))))
section
variable {n:Nat}{U:List Str}
theorem aWj (m:Mod) (i:Int) (s:Str) (t:Ty) (body b r:Core) (i':Int) (s':Str) (t':Ty) (q:aQ Tryz.prog 99 [.pa (aC body),Go.AM.T s',.pa (aC b)] [] (.pa (aC r)) []):
  aQ Tryz.prog 70 [.pa (lJ m),.pa (aC (.mk 4 i s t [.mk 5 i' s' t' [body] [] [],b] [] []))] [] (fD (r,0)) []:=by
 refine bM (n:=54) tok Tryz.func70 rfl rfl rfl ?_;refine sg rfl (sgh [(2,.row 0 (aC (.mk 5 i' s' t' [body] [] [])))] rfl (a8 (aB (a8 (agF 4 [] rfl rfl rfl (aA rfl (fun _=>skh 10 [(2,.row 0 (aC body)),(8,.row 1 (aC b))] rfl (kc q ?_)) (fun hb=>absurd hb (by simp[Core.form]))))))));exact kz 2 rfl (aF (jX trw))
theorem a0p (I:dA 540000000000) (hn:n≤299) (J:U.length≤480000) (m:Mod) (i:Int) (s:Str) (t:Ty) (body b:Core) (i':Int) (s':Str) (t':Ty) (h:ST n U (.mk 4 i s t [.mk 5 i' s' t' [body] [] [],b] [] [])):
  aQ Tryz.prog 70 [.pa (lJ m),.pa (aC (.mk 4 i s t [.mk 5 i' s' t' [body] [] [],b] [] []))] [] (fD (eQ (m30 body) body s' b,0)) []:=by
 have N:=h.kid (by decide) (x:=.mk 5 i' s' t' [body] [] []) η;have O:=h.kid (by decide) (x:=b) (ω _ η);have q:=N.kid (by decide) (x:=body) η;exact aWj m i s t body b _ i' s' t' (aTz I hn J q O (nm:=s') (s:=m30 body+m30 b) (le_refl _)).1.imp
theorem a0o (q:dA 540000000000) (hn:n≤299) (I:U.length≤480000) (m:Mod) (i:Int) (s:Str) (t:Ty) (body:Core) (i':Int) (s':Str) (t':Ty) (h:ST n U (.mk 6 i s t [.mk 7 i' s' t' [body] [] []] [] [])):
  aQ Tryz.prog 70 [.pa (lJ m),.pa (aC (.mk 6 i s t [.mk 7 i' s' t' [body] [] []] [] []))] [] (fD (sTR (m30 body) body s' t,0)) []:=by
 have J:=(aOr q hn I h (w:=0)).1.imp;refine bM (n:=54) tok Tryz.func70 rfl rfl rfl ?_;refine sg rfl (sgh [(2,.row 0 (aC (.mk 7 i' s' t' [body] [] [])))] rfl (a8 (aB (a8 (agF 4 [] rfl rfl rfl (aA rfl (fun hb=>absurd hb (by simp[Core.form])) (fun _=>a8 (agF 4 [] rfl rfl rfl (aA rfl (fun _=>skh 8 [(2,.row 0 (aC body))] rfl (kc J ?_)) (fun hb=>absurd hb (by simp[Core.form])))))))))));exact kz 2 rfl (aF (jX trw))
theorem a0n (m:Mod) (f i:Int) (s:Str) (t:Ty) (a:Core) (ks:List Core) (bs:List Bind) (al:List Alt) (p:CE) (h1:¬(f=4∧a.form=5)) (h2:¬(f=6∧a.form=7))
  (hk:aQ Tryz.prog 124 [.pa (lJ m),.pa (aC (.mk f i s t (a::ks) bs al)),I .i64 (0:Nat)] [] (fD p) []):
  aQ Tryz.prog 70 [.pa (lJ m),.pa (aC (.mk f i s t (a::ks) bs al))] [] (fD p) []:=by
 refine bM (n:=54) tok Tryz.func70 rfl rfl rfl ?_;refine sg rfl (sgh [(2,.row 0 (aC a))] rfl (a8 (AWp.cut (mk [(2,.one (.vp 2 0)),(3,.one (.vp 3 0)),(4,.one (.vp 4 0))] [(2,.var 81 ((lJ m).map .c)),(3,.var 34 (b8 (.mk f i s t (a::ks) bs al))),(4,.var 34 bR)]) ?_ ?_)))
 ·exact aB (a8 (agF 4 [] rfl rfl rfl (aA rfl (fun hb=>(h1 (vY hb)).elim) (fun _=>a8 (agF 4 [] rfl rfl rfl (aA rfl (fun hb=>(h2 (vY hb)).elim) (fun _=>aD sl)))))))
 refine sk 2 rfl (kc hk ?_);exact kz 4 rfl (aF (jX trw))
theorem a2w (hI:dA 540000000000) (hn:n≤299) (hU:U.length≤480000) (m:Mod) (i:Int) (s:Str) (t:Ty) (a:Core) (bs:List Bind) (h:ST n U (.mk 8 i s t [a] bs [])):
  aQ Tryz.prog 71 [.pa (lJ m),.pa (aC (.mk 8 i s t [a] bs []))] [] (fD (wX a (bs.map Bind.name) (bs.map (kN bs)),0)) []:=by
 have h12:=(aHb h.q).2.2
 have Y:=(aRh hI (by decide) (by decide) a (bs.map Bind.name) (bs.map (kN bs)) (by rw[θ,θ]) (by rw[θ];omega) (aTy hn hU h).1).1
 have O:(aU bs).length=bs.length:=by rw[bX,θ]
 refine bM (n:=39) tok Tryz.func71 rfl rfl rfl ?_;refine sg rfl (sg rfl (sg rfl (AWp.sub (Sub.own (t:=6) (id:=720) 9 1 rfl rfl) ?_)));refine AWp.sub (Sub.own (t:=7) (id:=721) 34 10 rfl rfl) ?_;refine a8 (sg rfl (aB (aK (fun k:Nat=>mk [(3,.one (.vp 3 0)),(4,.one (.vp 4 0)),(6,.one (.hs 720 0 ((bs.take k).map Bind.name).length ((bs.take k).map Bind.name).length)),(7,.one (.hs 721 0 ((bs.take k).map (kN bs)).length ((bs.take k).map (kN bs)).length)),(11,.one (.c (.sl 15 (aU bs)))),(12,I .i64 ((aU bs).length:Int)),(13,I .i64 k)] [(3,.var 34 (b8 (.mk 8 i s t [a] bs []))),(4,.var 34 bR),(720,.arr 9 1 (((bs.take k).map Bind.name).map bL) 0),(721,.arr 34 10 (((bs.take k).map (kN bs)).map aC) 0)]) (fun k=>k≤bs.length) (fun k=>bs.length-k) 0 (Aj _) sl ?_)));intro k hk;refine sg rfl (a8 (aA rfl (fun hb=>?_) (fun hb=>?_)))
 ·have W:=ltD hb O;obtain⟨b,J⟩:=aJ W;have hbi':=dC J;have e1:(bs.take (k+1)).map Bind.name=(bs.take k).map Bind.name++[b.name]:=by rw[Bi,J,A4];rfl
  have e2:(bs.take (k+1)).map (kN bs)=(bs.take k).map (kN bs)++[kN bs b]:=by rw[Bi,J,A4];rfl
  have hl1:((bs.take k).map Bind.name).length≤12:=by rw[θ,Aq];omega
  have hl2:((bs.take k).map (kN bs)).length≤12:=by rw[θ,Aq];omega
  have hx1:(((bs.take k).map Bind.name).map bL).length=((bs.take k).map Bind.name).length:=θ _;have hx2:(((bs.take k).map (kN bs)).map aC).length=((bs.take k).map (kN bs)).length:=θ _;generalize (bs.take k).map Bind.name=N at *;generalize (bs.take k).map (kN bs)=L at *;refine aD (a8 (aB (sgh [(0,.row k (bJ b))] rfl (sgh [(3,.all)] rfl (ag [(5,.all),(7,.all)] rfl (AWp.sub (Sub.arrWeak (x:=721) rfl (RowsLe.snoc (r':=aC (kN bs b)) ?_ (L.map aC))) ?_))))))
  ·repeat (first | exact .nil | apply Go.AM.CsLe.cons .refl | apply Go.AM.CsLe.cons .nl)
  refine ag [] rfl ⟨k+1,W,by dsimp only;omega,?_⟩;dsimp only;rw[e1,e2];exact sl
 have Z:=geD hb O hk;subst Z;rw[As];refine aL (AWp.sub (Sub.freeze (id:=720) rfl) ?_);refine AWp.sub (Sub.freeze (id:=721) rfl) ?_;refine skh 6 [(2,.row 0 (aC a))] rfl (kc Y ?_);exact kz 2 rfl (aF (jX trw))
end
noncomputable def tkP (a:Alt) (c:Core):Core×Bool:=
 if a.form=3 then(a.body,true)
 else if a.form=2 then(a.body,decide (c.form=3)&&decide (c.n=a.n))
 else match gvC c with
  | some (s,l)=>if s=a.name∧l.length=a.vars.length then(wX a.body a.vars l,true) else(zC,false)
  | none=>(zC,false)
theorem aJr (a:Alt) (c:Core):j6 a c=if(tkP a c).2=true then some (tkP a c).1 else none:=by
 unfold j6 tkP;by_cases h3:a.form=3
 ·rw[ξ h3,ξ h3];rfl
 rw[φ h3,φ h3];by_cases h2:a.form=2
 ·rw[ξ h2,ξ h2];by_cases h:c.form=3∧c.n=a.n
  ·rw[ξ h,ξ (by simp[h.1,h.2])]
  ·rw[φ h,φ (by simpa using h)]
 rw[φ h2,φ h2];cases gvC c with
 | none=>rfl
 | some p=>
  obtain⟨s,l⟩:=p;dsimp only;by_cases h:s=a.name∧l.length=a.vars.length
  ·simp[ξ h]
  ·simp[φ h]
theorem aXp {f i:Int}{s:Str}{vs:List Str}{body:Core}{q cn:Int}{cs:Str}{I:Ty}{ks:List Core}{bs:List Bind}{al:List Alt}:tkP (.mk f i s vs body) (.mk q cn cs I ks bs al)=
  if f=3 then(body,true)
  else if f=2 then(body,decide (q=3)&&decide (cn=i))
  else match gvC (.mk q cn cs I ks bs al) with
   | some (s1,l)=>if s1=s∧l.length=vs.length then(wX body vs l,true) else(zC,false)
   | none=>(zC,false):=rfl
theorem aV5 (a:Alt) (c:Core) (hl:bE c≤570000000000) (N:aQ Tryz.prog 68 [.pa (aC c)] [] (aH8 (gvC c)) [])
  (hp:∀s l,gvC c=some (s,l)→l.length=a.vars.length→aQ Tryz.prog 125 [.pa (aC a.body),bI a.vars,.one (.c (.sl 10 (l.map aC)))] [] (.pa (aC (wX a.body a.vars l))) []):
  aQ Tryz.prog 126 [.pa (c6 a),.pa (aC c)] [] (.tup [.pa (aC (tkP a c).1),B (tkP a c).2]) []:=by
 obtain⟨f,i,s,vs,body⟩:=a;obtain⟨q,cn,cs,O,ks,bs,al⟩:=c;rw[aXp];refine bM (n:=58) tok Tryz.func126 rfl rfl rfl ?_;refine sg rfl (a8 (sg rfl ?_));by_cases h3:f=3
 ·subst h3;rw[ξ rfl];exact aB (sg rfl (aA rfl (fun _=>sg rfl (aF (jX trw))) (fun hb=>by simp[Alt.form] at hb)))
 rw[φ h3];by_cases h2:f=2
 ·subst h2;rw[ξ rfl];refine aB (sg rfl (aA rfl (fun hb=>by simp[Alt.form] at hb) (fun _=>sg rfl (aA rfl (fun _=>?_) (fun hb=>by simp[Alt.form] at hb)))));by_cases hc:q=3
  ·have hd:decide (q=3)=true:=Ah hc;have e:(decide (q=3)&&decide (cn=i))=decide (cn=i):=by rw[hd];rfl
   rw[e];exact sgh [(5,.bv true),(11,.bv true)] rfl (aF (jX trw))
  ·have hd:decide (q=3)=false:=Am hc;have e:(decide (q=3)&&decide (cn=i))=false:=by rw[hd];rfl
   rw[e];exact sgh [(5,.bv false),(11,.bv false)] rfl (aF (jX trw))
 rw[φ h2];refine AWp.cut (mk [(2,.one (.vp 2 0)),(3,.one (.vp 3 0)),(4,.one (.vp 4 0))] [(2,.var 71 ((c6 (.mk f i s vs body)).map .c)),(3,.var 34 (b8 (.mk q cn cs O ks bs al))),(4,.var 34 bR)]) ?_ ?_
 ·exact aB (sg rfl (aA rfl (fun hb=>absurd (ψ hb) h3) (fun _=>sg rfl (aA rfl (fun hb=>absurd (ψ hb) h2) (fun _=>aD sl)))))
 cases J:gvC (.mk q cn cs O ks bs al) with
 | none=>
  rw[J] at N;exact sgh [(1,.pc (aH8 none))] rfl (a8 (a8 (agF 3 [] rfl rfl rfl (aA rfl (fun _=>sg rfl (aF (jX trw))) (fun hb=>by simp at hb)))))
 | some p=>
  obtain⟨s1,I⟩:=p;rw[J] at N;have Z:(I.map aC).length=I.length:=θ _;have aa:(vs.map bL).length=vs.length:=θ _;dsimp only;refine sgh [(1,.pc (aH8 (some (s1,I))))] rfl (a8 (a8 (agF 3 [] rfl rfl rfl (aA rfl (fun hb=>?_) (fun hb=>?_)))))
  ·have hn:¬(s1=s∧I.length=vs.length):=by
    rintro⟨rfl,h⟩;simp[h,Alt.name,Alt.vars] at hb
   rw[φ hn];exact sg rfl (aF (jX trw))
  ·have W:s1=s∧I.length=vs.length:=by
    simp at hb;have h2:(I.length:Int)=(vs.length:Int):=hb.2;exact⟨hb.1,by omega⟩
   rw[ξ W];have Y:=hp s1 I J W.2;refine aD (sk 5 rfl (kc Y ?_));exact kz 2 rfl (aF (jX trw))
theorem aWh (m:Mod) (i:Int) (s:Str) (t:Ty) (a:Core) (al:List Alt) (p:CE) (hl:al.length≤12) (O:aQ Tryz.prog 30 [.pa (aC a)] [] (B (shC a)) [])
  (hk:shC a=false→aQ Tryz.prog 124 [.pa (lJ m),.pa (aC (.mk 9 i s t [a] [] al)),I .i64 (0:Nat)] [] (fD p) [])
  (W:∀x∈al,aQ Tryz.prog 126 [.pa (c6 x),.pa (aC a)] [] (.tup [.pa (aC (tkP x a).1),B (tkP x a).2]) []):
  aQ Tryz.prog 72 [.pa (lJ m),.pa (aC (.mk 9 i s t [a] [] al))] [] (fD (if shC a=true then(match al.findSome? fun x=>j6 x a with | some r=>(r,0) | none=>(zC,52)) else p)) []:=by
 have N:(c9 al).length=al.length:=by rw[c8,θ]
 refine bM (n:=41) tok Tryz.func72 rfl rfl rfl ?_;refine sg rfl (a8 (skh 4 [(2,.row 0 (aC a))] rfl (kc O ?_)));refine kz 1 rfl ?_;cases hs:shC a with
 | false=>
  have hk:=hk hs;rw[φ A5];refine aA rfl (fun _=>sk 2 rfl (kc hk ?_)) nofun;exact kz 4 rfl (aF (jX trw))
 | true=>
  rw[ξ rfl];refine aA rfl nofun (fun _=>aD (a8 (sg rfl (aB (aK (fun k:Nat=>mk [(3,.one (.vp 3 0)),(4,.one (.vp 4 0)),(22,.one (.c (.sl 14 (c9 al)))),(23,I .i64 ((c9 al).length:Int)),(24,I .i64 k)] [(3,.var 34 (b8 (.mk 9 i s t [a] [] al))),(4,.var 34 bR)]) (fun k=>k≤al.length∧(al.findSome? fun x=>j6 x a)=(al.drop k).findSome? fun x=>j6 x a) (fun k=>al.length-k) 0 ⟨Aj _,rfl⟩ sl ?_)))));intro k ⟨hi,hid⟩;refine sg rfl (a8 (aA rfl (fun hb=>?_) (fun hb=>?_)))
  ·have J:=ltD hb N;obtain⟨x,hx⟩:=aJ J;have hx':(c9 al)[k]?=some (c6 x):=by rw[c8];exact bO c6 hx
   have ht:=W x (Ab hx);have Y:al.drop k=x::al.drop (k+1):=by rw[Bp J,(Aa.1 hx).2]
   rw[Y,Bm,aJr] at hid;generalize tkP x a=q at *;obtain⟨qc,qb⟩:=q;refine aD (a8 (aB (sgh [(0,.row k (c6 x))] rfl (skh 5 [(3,.row 0 (aC a))] rfl (kc ht ?_)))));refine kz 6 rfl (sg rfl ?_);cases qb with
   | true=>
    rw[ξ rfl] at hid;dsimp only at hid;rw[hid];exact aA rfl (fun _=>sg rfl (aF (jX trw))) nofun
   | false=>
    rw[φ A5] at hid;dsimp only at hid;exact aA rfl nofun (fun _=>aD (ag [] rfl ⟨k+1,⟨J,hid⟩,by dsimp only;omega,sl⟩))
  have Z:=geD hb N hi;subst Z;rw[Cy,List.findSome?_nil] at hid;rw[hid];exact aL (sg rfl (aF (jX trw)))
theorem aM5 (w:Wd) (c:Core):aQ Tryz.prog 111 [.pa (eM w),.pa (aC c)] [] (tyV fM) []:=by
 have h:=pP [73,110,116];refine bM (n:=6) tok Tryz.func111 rfl rfl rfl ?_;exact sg rfl (sgh [(0,.pc (tyV fM))] rfl (aF (rtC trw)))
theorem gE (I:dA 540000000000) (w:Wd) (q:PsOk w.ps) (t:Ty) (hw:wfS t=true) (hf:fvm t≤700000):aQ Tryz.prog 141 [.pa (eM w),tyV t] [] (tyV (bP t w.ps)) []:=by
 have h:=(jG I (tn t) t (le_refl _) hw hf w.ps q).2
 refine bM (n:=11) tok Tryz.func141 rfl rfl rfl ?_;refine sg rfl (sk 5 rfl (kc h ?_));exact kz 1 rfl (aF (rtC trw))
theorem aV3 (w:Wd) (f n:Int) (s:Str) (t:Ty) (ks:List Core) (bs:List Bind) (al:List Alt) {r:Ty}(h:aQ Tryz.prog 141 [.pa (eM w),tyV t] [] (tyV r) []):aQ Tryz.prog 119 [.pa (eM w),.pa (aC (.mk f n s t ks bs al))] [] (tyV r) []:=by
 refine bM (n:=9) tok Tryz.func119 rfl rfl rfl ?_;refine sg rfl (sk 3 rfl (kc h ?_));exact kz 1 rfl (aF (rtC trw))
theorem aRn (x:Fld) (s:Str):aQ Tryz.prog 165 ([.pa (cR x)]++[R.vp 3 0].map V.one) [(3,.var 9 [.c (.str s)])] (B (decide (x.name=s))) [(3,.var 9 [.c (.str s)])]:=by
 refine bM (n:=8) tok Tryz.func165 rfl rfl rfl ?_;exact sgh [(0,.id 12)] rfl (sg rfl (aF rtT))
theorem aRl (l:List Fld) (hl:l.length≤1000000000) (s:Str):aQ Tryz.prog 164 [.one (.c (.sl 8 (l.map cR))),.one (.clo 165 [.vp 3 0])] [(3,.var 9 [.c (.str s)])] (I .i64 (aBr (fun x:Fld=>decide (x.name=s)) l 0)) [(3,.var 9 [.c (.str s)])]:=by
 have J:(l.map cR).length=l.length:=θ _;refine bM (n:=19) tok Tryz.func164 rfl rfl rfl ?_;refine sg rfl (a8 (sg rfl (aB (aK (fun i:Nat=>mk [(0,.one (.c (.sl 8 (l.map cR)))),(1,.one (.clo 165 [.vp 3 0])),(7,I .i64 ((l.map cR).length:Int)),(8,I .i64 i)] [(3,.var 9 [.c (.str s)])]) (fun i=>i≤l.length∧aBr (fun x:Fld=>decide (x.name=s)) l 0=aBr (fun x:Fld=>decide (x.name=s)) (l.drop i) i) (fun i=>l.length-i) 0 ⟨Aj _,rfl⟩ sl ?_))));intro i ⟨hi,hid⟩;refine sg rfl (a8 (aA rfl (fun hb=>?_) (fun hb=>?_)))
 ·have q:=ltD hb J;obtain⟨b,N⟩:=aJ q;have Y:=bO cR N;have hc:=aRn b s;have O:l.drop i=b::l.drop (i+1):=by rw[Bp q,(Aa.1 N).2]
  rw[O,aBr] at hid;refine aD (a8 (aB (sg rfl (skh 5 [(3,.row i (cR b))] rfl (kv (args:=[.pa (cR b)]) hc ?_)))));refine az (aA rfl (fun hb=>?_) (fun hb=>?_))
  ·rw[ξ hb] at hid;rw[hid];exact sg rfl (aF rtT)
  ·rw[φ (by rw[show decide (b.name=s)=false from hb];exact A5)] at hid;exact aD (ag [] rfl ⟨i+1,⟨q,hid⟩,by dsimp only;omega,sl⟩)
 have W:=geD hb J hi;subst W;rw[Cy,aBr] at hid;rw[hid];exact aL (sg rfl (aF rtT))
theorem aQ9 (w:Wd) (hl:w.fields.length≤1000000000) (s:Str) {i:Nat}{x:Fld}(hx:w.fields[i]?=some x) (hi:aBr (fun x:Fld=>decide (x.name=s)) w.fields 0=(i:Int)):aQ Tryz.prog 139 [.pa (eM w),Go.AM.T s] [] (.pa (cR x)) []:=by
 have q:=aRl w.fields hl s;rw[hi] at q;have J:=bO cR hx;have I:decide ((0:Int)≤(i:Int))=true:=Ah (by omega);refine bM (n:=18) tok Tryz.func139 rfl rfl rfl ?_;refine sg rfl (sk 3 rfl (kc q ?_));refine kz 1 rfl (sk 2 rfl (kc (sW I) ?_));exact az (sgh [(3,.row i (cR x))] rfl (aF (rtC trw)))
theorem aZ6 (w:Wd) (f n:Int) (s:Str) (t:Ty) (ks:List Core) (bs:List Bind) (al:List Alt) {x:Fld}(h:aQ Tryz.prog 139 [.pa (eM w),Go.AM.T s] [] (.pa (cR x)) []):aQ Tryz.prog 110 [.pa (eM w),.pa (aC (.mk f n s t ks bs al))] [] (tyV x.ty) []:=by
 refine bM (n:=10) tok Tryz.func110 rfl rfl rfl ?_;refine sg rfl (sk 3 rfl (kc h ?_));exact kz 2 rfl (aF (rtC trw))
end Go.Proofs.YtglfogjcijokpaaGreatDoor
namespace Go.AM
open Go
def qT (a:Act) (D:List Deferred):Act:=⟨a.tmps,a.defers++D⟩
theorem aDc (a:Act) (D:List Deferred) (d:Option Nat) (v:Value):(qT a D).put d v=qT (a.put d v) D:=by cases d<;>rfl
theorem aGj (a:Act) (D:List Deferred):(qT a D).eval=a.eval:=by funext x;cases x<;>rfl
section
variable {F:Fence}{m:Nat}{P:Program}{o:Oper}{a:Act}{w:World}{K K':Act→World→Prop}{Q Q':Exit→Act→World→Prop}{D:List Deferred}
theorem aO8 (hk:∀a w,K a w→K' (qT a D) w) (q:∀e a w,Q e a w→Q' e (qT a D) w) {r:Result Next}(h:o.uponIn F m P a K Q r):o.uponIn F m P (qT a D) K' Q' r:=by
 have hl:LetsOut Q→LetsOut Q':=fun⟨a,w,h⟩=>⟨_,w,q _ a w h⟩
 have hp:∀d v w,K (a.put d v) w→K' ((qT a D).put d v) w:=fun d v w h=>by rw[aDc];exact hk _ _ h
 cases r with
 | ok x w'=>
  cases x<;>simp only[Oper.uponIn] at h ⊢<;>
   first
    | exact hp _ _ _ h
    | exact⟨h.1,CallsIn.mono h.2 (fun e I he=>by cases e<;>first | exact hp _ _ _ he | exact q _ _ _ he | exact hl he)⟩
    | exact⟨h.1,RowsIn.mono h.2 (fun _ _ he=>hp _ _ _ he)⟩
    | exact⟨h.1,RoundIn.mono h.2 (fun e I he=>by cases e<;>first | exact hp _ _ _ he | exact q _ _ _ he | exact hl he)⟩
    | (have:=hk _ _ h;rw[←aDc] at this;exact this)
    | exact h
 | halt x w'=>cases x<;>simp only[Oper.uponIn] at h ⊢<;>first | exact q _ _ _ h | exact h
theorem aO6 (hk:∀a w,K a w→K' (qT a D) w) (q:∀e a w,Q e a w→Q' e (qT a D) w) (h:o.wpIn F m P a w K Q):o.wpIn F m P (qT a D) w K' Q':=by
 unfold Oper.wpIn at h ⊢;rw[aGj];exact⟨h.1,aO8 hk q h.2⟩
theorem aO5 {ops:Array Oper}{i:Nat}(hk:∀a w,K a w→K' (qT a D) w) (q:∀e a w,Q e a w→Q' e (qT a D) w) (h:wpOpIn F m P ops Q i K a w):wpOpIn F m P ops Q' i K' (qT a D) w:=by
 unfold wpOpIn at h ⊢;cases ho:ops[i]? with
 | none=>rw[ho] at h;exact hk _ _ h
 | some o=>
  rw[ho] at h;dsimp only at h ⊢;rw[show(qT a D).tmps=a.tmps from rfl,aGj];split
  ·rename_i hw;rw[ξ hw] at h;exact aO6 hk q h
  ·rename_i hw;rw[φ hw] at h;exact⟨h.1,by rw[aDc];exact hk _ _ h.2⟩
end
section
variable {P:Program}{n:Nat}{ops:Array Oper}{D:List Deferred}{Q':Exit→Act→World→Prop}
theorem aKa {id:Nat}{G:Ctx}{S:Sto}{μ:Mu}{st:St}{a:Act}{w:World}(hs:Sim G n S μ st a w) (h:kE P n ops false 0 st [] (fun st'=>∀S' μ' I w',Sim G n S' μ' st' I w'→Q' .normal (qT I D) w')):(Code.region id ops false).wpIn (Wd none) 0 P Q' (qT a D) w:=by
 obtain⟨xs,st',N,hlen,_,J⟩:=h;have q:=ε hlen;rw[A6] at q;refine wpIn_region ?_;have key:∀(k:Nat) (st st':St) (xs:REs),Run P n ops k st xs st'→k+xs.length=ops.size→(∀S' μ' I w',Sim G n S' μ' st' I w'→Q' .normal (qT I D) w')→∀S μ a w,Sim G n S μ st a w→wpOpsIn (Wd none) 0 P ops Q' (List.range' k xs.length) (qT a D) w:=by
  intro k st st' xs N
  induction N with
  | nil=>intro _ J S μ a w hs;exact J S μ a w hs
  | @cons k st rd f xs st' O _ W=>
   intro hl J S μ a w hs;simp only[Ak,List.range'_succ,wpOpsIn_cons];exact aO5 (K:=fun a w=>wpOpsIn (Wd none) 0 P ops Q' (List.range' (k+1) xs.length) (qT a D) w) (Q:=fun e a w=>Q' e (qT a D) w) (fun _ _ h=>h) (fun _ _ _ h=>h)
    (O st (mN.refl _ _) G S μ a w _ _ hs (fun S1 Y Z w1 s1=>W (by simp at hl;omega) J S1 Y Z w1 s1) none)
 have:=key 0 st st' xs N (by omega) J S μ a w hs;rwa [List.range_eq_range',←q]
end
theorem aXz {n:Nat}{args:List V}{hin:List (Nat×AObj)}{S:Sto}{μ:Mu}{w:World}{vals:List Value}{k:Nat}(hk:k=n) (hle:Nat.ble args.length n=true) (O:Inv ⟨w,S,mL μ (look hin),μ,look hin⟩ S μ (look hin) w) (hv:bG S μ (look hin) args vals):
  Sim ⟨w,S,mL μ (look hin),μ,look hin⟩ n S μ (mk (aOf 0 args) hin) ⟨(⟨vals⟩:Array Value)++Array.replicate (k-(⟨vals⟩:Array Value).size) undef,[]⟩ w:=by
 have N:=bG.length hv;have W:=Ap hle;refine⟨O,by simp;omega,rfl,fun t v ht=>?_⟩;have key:∀(l:List V) (us:List Value) (k:Nat),bG S μ (look hin) l us→look (aOf k l) t=some v→∃j,t=k+j∧∃u,us[j]?=some u∧aT S μ (look hin) v u:=by
  intro l
  induction l with
  | nil=>intro us k _ h;simp[aOf,look] at h
  | cons x l Y=>
   intro us k q hl;simp only[bG] at q;obtain⟨u,I,rfl,h1,h2⟩:=q;simp only[aOf,look] at hl;split at hl
   ·rename_i J;cases hl;exact⟨0,by rw[ε J];rfl,u,rfl,h1⟩
   ·obtain⟨j,h3,Z,h4,h5⟩:=Y I (k+1) h2 hl;exact⟨j+1,by omega,Z,by simpa using h4,h5⟩
 obtain⟨j,h1,u,h2,h3⟩:=key args vals 0 hv ht;rw[A6] at h1;subst h1;have hj:t<vals.length:=(Aa.1 h2).1
 have:((⟨vals⟩:Array Value)++Array.replicate (k-(⟨vals⟩:Array Value).size) undef).getD t undef=u:=by
  rw[Ax,Array.getElem?_append_left (by simpa using hj)];simp[h2]
 show aT S μ (look hin) v (((⟨vals⟩:Array Value)++Array.replicate (k-(⟨vals⟩:Array Value).size) undef).getD t undef);rw[this];exact h3
theorem aVq {P:Program}{T:TT}{fn:Func}{n:Nat}{S S':Sto}{μ μ':Mu}{w w':World}{hin hout:List (Nat×AObj)}{res:V}{st:St}{a:Act}(W:Tok P T) (hs:Sim ⟨w,S,mL μ (look hin),μ,look hin⟩ n S' μ' st a w') (hf:Fin T fn st hin res hout):
  ∃v,(results fn a.tmps).run P w'=.ok v w'∧Inv ⟨w,S,mL μ (look hin),μ,look hin⟩ S' μ' (look hout) w'∧aT S' μ' (look hout) res v:=by
 obtain⟨⟨vs,vs',Y,hc,J⟩,hout',hok⟩:=hf;simp only[Ac] at hok;obtain⟨⟨⟨⟨⟨Z,k2⟩,k3⟩,k4⟩,k5⟩,k6⟩:=hok;obtain⟨us,h1,h2⟩:=rY W hs Y;refine⟨_,h1,?_⟩;have h3:=hc.rel hs.inv.obj h2;have q:∀i∈keys hout,Good st.h (look hout) (fun i=>i) i:=by
  intro i hi;obtain⟨o',I⟩:=cQ hi;obtain⟨o,g1,g2⟩:=hout'.mem _ (bH I);exact⟨o,o',g1,I,g2⟩
 have N:aT S' μ' st.h res (aJc us):=by
  rw[←J]
  match vs',us,h3 with
  | [],us,h3=>simp only[bG] at h3;subst h3;simp[aIq,aJc,aT,bG]
  | [v],us,h3=>
   simp only[bG] at h3;obtain⟨u,O,rfl,h5,rfl⟩:=h3;exact h5
  | v::v'::l,us,h3=>
   have h3':=h3;simp only[bG] at h3';obtain⟨u,O,rfl,_,u',us'',rfl,_,_⟩:=h3';simp only[aIq,aJc,aT];exact⟨_,rfl,h3⟩
 refine⟨hs.inv.keep hout' k2 fun id o ho=>bB k4 id (Af.2 ⟨_,bH (show look hin id=some o from ho),rfl⟩),?_⟩;have:=aT.ren (H:=st.h) (H':=look hout) (σ:=fun i=>i) res _ (fun i hi=>q i (bB Z i hi)) (by rw[V.ren_id];exact N);exact this
end Go.AM
namespace Go.Proofs.YtglfogjcijokpaaGreatDoor
open Go Go.AM
set_option maxRecDepth 20000
section
variable {m:Nat}{P:Program}{ops:Array Oper}{Q:Exit→Act→List Frame→World→Prop}{i:Nat}{rest:List Nat}{a:Act}{cs:List Frame}{w w':World}{o:Oper}
theorem aCk (ho:ops[i]?=some o) (q:o.guard=none) (I:(execOp a.eval o).run P w=.ok .recover w) (hc:recoverD cs=none) (h:wpOpsSIn (Go.AM.Wd none) m P ops Q rest (a.put o.dst .nilIface) cs w):wpOpsSIn (Go.AM.Wd none) m P ops Q (i::rest) a cs w:=by
 unfold wpOpsSIn;simp only[ho];refine⟨fun _ _=>trivial,?_⟩;rw[ξ (by simp[Region.wanted,q]),I];dsimp only;rw[hc];exact h
theorem rX {v:Value}(ho:ops[i]?=some o) (q:o.guard=none) (I:(execOp a.eval o).run P w=.ok (.value v) w') (h:wpOpsSIn (Go.AM.Wd none) m P ops Q rest (a.put o.dst v) cs w'):wpOpsSIn (Go.AM.Wd none) m P ops Q (i::rest) a cs w:=by
 unfold wpOpsSIn;simp only[ho];refine⟨fun _ _=>trivial,?_⟩;rw[ξ (by simp[Region.wanted,q]),I];exact h
theorem r5 {d:Nat}{v:Value}(h:d<a.tmps.size):(a.put (some d) v).eval (.tmp d)=v:=by
 show((a.put (some d) v).tmps).getD d undef=v;show(a.tmps.setIfInBounds d v).getD d undef=v;rw[xH _ _ _ _ h,ξ rfl]
theorem lZ {d:Option Nat}{v:Value}:(a.put d v).tmps.size=a.tmps.size:=by
 cases d with
 | none=>rfl
 | some d=>show(a.tmps.setIfInBounds d v).size=_;simp
theorem aCl {x:Operand}{t k:TypeId}(ho:o.op=.binOp .neq t x (.const .nilIface) k) (hx:a.eval x=.nilIface) (ht:P.underlying t=some (.interface (P.methodsAt t))):(execOp a.eval o).run P w=.ok (.value (.bool false)) w:=by
 have hc:a.eval (.const .nilIface)=.nilIface:=rfl;simp only[execOp,ho,hx,hc,Ad];simp[eqGuard,run_neq_nil_nil w t ht]
theorem aPp {fn:Func}{tmps:Array Value}(h:fn.results= #[]):∃v,(results fn tmps).run P w=.ok v w:=⟨.tuple #[],by simp[results,h]⟩
end
theorem aM9 (m:Nat) (u:Value) (w:World):CallsDIn (Go.AM.Wd none) m Tryz.prog 60 #[u] .returning w (fun e N w'=>(∃v,e=.returned v)∧N=.returning∧w'=w):=by
 refine callsDIn_of_wpSIn Tryz.func60 rfl trivial (fun q cs hc=>?_);have I:recoverD (q::cs)=none:=by simp only[recoverD,hc]
 have J:q={ q with mode:=.returning }:=by rw[←hc]
 generalize ha:(⟨#[u]++Array.replicate _ undef,[]⟩:Act)=a;have hs:a.tmps.size=15:=by rw[←ha];rfl
 have hd:a.defers=[]:=by rw[←ha]
 clear ha;refine wpSIn_seq (wpSIn_region ?_);show wpOpsSIn _ _ _ _ _ [0,1] _ _ _;refine aCk rfl rfl rfl I ?_;refine rX rfl rfl (v:=.nilIface) (congrArg (fun x=>Result.ok (Next.value x) w) (r5 (by rw[hs];decide))) ?_;refine wpSIn_seq (wpSIn_region ?_);show wpOpsSIn _ _ _ _ _ [0,1] _ _ _;refine rX rfl rfl (v:=.nilIface) (congrArg (fun x=>Result.ok (Next.value x) w) (r5 (by rw[lZ,hs];decide))) ?_;refine rX rfl rfl (w':=w) (v:=.bool false) (aCl rfl (r5 (by rw[lZ,lZ,hs];decide)) (by kernel_rfl)) ?_;refine wpSIn_cond (t:=false) (r5 (by rw[lZ,lZ,lZ,hs];decide)) ?_;refine wpSIn_of_wpIn rfl (wpIn_skip ?_);obtain⟨v,hv⟩:=aPp (P:=Tryz.prog) (fn:=Tryz.f60) (tmps:=_) (w:=w) rfl;exact⟨hd,.returning,by rw[←J],v,hv,⟨_,rfl⟩,rfl,rfl⟩
section
variable {m:Nat}{P:Program}{ops:Array Oper}{Q:Exit→Act→World→Prop}{i:Nat}{a:Act}{w:World}{o:Oper}{K:Act→World→Prop}
theorem aQd {x:Operand}{ts:Array TypeId}{f:FuncId}{caps:Array Value}(ho:ops[i]?=some o) (I:o.guard=none) (q:o.op=.defer { callee:=.value x,args:= #[],argTypes:=ts }) (hd:o.dst=none) (hx:a.eval x=.func (.func f) #[] caps)
  (J:K ⟨a.tmps,{ target:=.fn (.func f) caps,args:= #[] }::a.defers⟩ w):wpOpIn (Go.AM.Wd none) m P ops Q i K a w:=by
 unfold wpOpIn;simp only[ho];rw[ξ (by simp[Region.wanted,I])];refine⟨fun _ _=>trivial,?_⟩;have N:(o.semAt none a.eval).run P w=.ok (.defer { target:=.fn (.func f) caps,args:= #[] }) w:=by
  rw[Oper.semAt_none];simp[execOp,q,resolve,hx,Deferred.ofValue]
 show o.uponIn (Go.AM.Wd none) m P a K Q ((o.semAt none a.eval).run P w);rw[N,Oper.uponIn_defer,hd];exact J
theorem a00 {n:Nat}{kf:List Nat}{c:Code}{st:St}{R:Exit→St→Prop}{G:Ctx}{S:Sto}{μ:Mu}(h:AWp none P n kf c st R) (hk:G.keeps kf) (hs:Sim G n S μ st a w) (I:∀ex st' S' μ' q w',R ex st'→Sim G n S' μ' st' q w'→Q ex q w'):c.wpIn (Go.AM.Wd none) 0 P Q a w:=h G S μ a w Q ⟨hk,trivial⟩ hs I
end
theorem aV4 (l:List (List C)) (e:C) (c:Core) (T:Ty) (hf:aQ Tryz.prog 26 ([R.vp 3 0,R.vp 4 0,R.vp 5 0,R.vp 6 0].map V.one) [(3,.var 23 [.c (.sl 8 l)]),(4,.var 72 [.c e]),(5,.var 34 (b8 c)),(6,.var 30 [.c (.int .i64 0),.c (.int .i64 0),.c (.str []),.c .nl])] (.tup []) [(3,.var 23 [.c (.sl 8 l)]),(4,.var 72 [.c e]),(5,.var 34 (b8 c)),(6,.var 30 ((aO T).map R.c))]):
  aQ Tryz.prog 25 [.one (.clo 26 [R.vp 3 0,R.vp 4 0,R.vp 5 0,R.vp 6 0])] [(3,.var 23 [.c (.sl 8 l)]),(4,.var 72 [.c e]),(5,.var 34 (b8 c)),(6,.var 30 [.c (.int .i64 0),.c (.int .i64 0),.c (.str []),.c .nl])] (I .i64 0) [(3,.var 23 [.c (.sl 8 l)]),(4,.var 72 [.c e]),(5,.var 34 (b8 c)),(6,.var 30 ((aO T).map R.c))]:=by
 intro S μ w vals hI hv;refine(Go.AM.Wd.calls (ro:=none) (n:=0)).1 (callsIn_of_wp_defers Tryz.func25 rfl trivial ?_);have W:=aXz (n:=6) (k:=(Tryz.f25).ntmps) rfl rfl hI hv;refine wpIn_seq (a00 (R:=fun ex st=>ex=.normal∧st=_) (ag [(0,.id 990)] rfl ⟨rfl,rfl⟩) o9 W ?_);rintro ex st1 S1 μ1 a1 w1 ⟨rfl,rfl⟩ Y;refine wpIn_seq (wpIn_region ?_);show wpOpsIn _ _ _ _ _ [0,1] _ _;rw[wpOpsIn_cons];refine(g_ rfl rfl (uQ (l:=[.vp 990 0]) rfl rfl (iE rfl) rfl)) _ (mN.refl _ _) _ S1 μ1 a1 w1 _ _ Y (fun S2 μ2 a2 w2 q=>?_) none;rw[wpOpsIn_cons];have Z:a2.defers=[]:=q.defers;have N:=q.env 3 _ rfl;simp only[aT,b6] at N;obtain⟨vs,aa,u,vs',rfl,hv4,rfl⟩:=N;refine aQd rfl rfl rfl rfl aa ?_;generalize hD:({ target:=.fn (.func 60) ⟨[u]⟩,args:= #[] }:Deferred)=D;have he:(⟨a2.tmps,D::a2.defers⟩:Act)=qT a2 [D]:=by unfold qT;rw[Z];rfl
 rw[he];refine wpIn_seq (aKa q ?_);refine ak 1 [] rfl (kv (f:=26) (args:=[]) (caps:=[R.vp 3 0,R.vp 4 0,R.vp 5 0,R.vp 6 0]) hf ?_);refine az ?_;intro S3 μ3 a3 w3 ab;refine wpIn_seq (aKa ab ?_);refine kz 1 rfl ?_;intro S4 μ4 a4 J O;refine wpIn_ret ?_;have ac:a4.defers=[]:=O.defers;have ad:(qT a4 [D]).defers=[D]:=by unfold qT;rw[ac];rfl
 show LeavesIn _ _ _ _ a4.tmps _ (qT a4 [D]).defers .returning J;rw[ad,←hD];have ae:eG Tryz.prog 60:=rH (by kernel_rfl);have hi:(invoke (.fn (.func 60) ⟨[u]⟩) #[]).run Tryz.prog J=.ok (.enter 60 #[u]) J:=by
  simp only[invoke];rw[j7 ae];simp
 refine leavesIn_cons (by simp) (fun h=>by simp[Go.AM.Wd] at h) hi (fun _ _=>trivial) (CallsDIn.mono (aM9 _ u J) ?_);rintro e u' w' ⟨⟨v,rfl⟩,rfl,rfl⟩;obtain⟨v2,g1,g2,g3⟩:=aVq (fn:=Tryz.f25) (res:=I .i64 0) (hout:=[(3,.var 23 [.c (.sl 8 l)]),(4,.var 72 [.c e]),(5,.var 34 (b8 c)),(6,.var 30 ((aO T).map R.c))]) tok O (by exact And.right (a:=Exit.ret=.normal∨Exit.ret=.ret) (rtC trw (ho:=⟨⟨_,rfl,.var rfl⟩,⟨_,rfl,.var rfl⟩,⟨_,rfl,.var rfl⟩,⟨_,rfl,.var rfl⟩,trivial⟩)));exact⟨v2,g1,_,_,_,rfl,g2,g3⟩
end Go.Proofs.YtglfogjcijokpaaGreatDoor
namespace Go.Proofs.YtglfogjcijokpaaGreatDoor
open Go Go.AM Go.Shelf
set_option maxRecDepth 20000
def gr9:Ren:=⟨fun f=>if f=4 then 172 else f,fun t=>if t=22 then 72 else if t=25 then 176 else t,fun g=>g⟩
theorem gl9:Lays8.n4 Tryz.prog gr9 where
 mixed:=mixed
 f4:=⟨Tryz.f172.name,by kernel_rfl,by kernel_rfl⟩
 t0:=by kernel_rfl
 a0:=fun w=>by kernel_rfl
 z0:=fun w=>by kernel_rfl
 v0:=fun w=>by kernel_rfl
 t3:=by kernel_rfl
 a3:=fun w=>by kernel_rfl
 z3:=fun w=>by kernel_rfl
 v3:=fun w=>by kernel_rfl
 t4:=by kernel_rfl
 a4:=fun w=>by kernel_rfl
 z4:=fun w=>by kernel_rfl
 v4:=fun w=>by kernel_rfl
 t9:=by kernel_rfl
 a9:=fun w=>by kernel_rfl
 z9:=fun w=>by kernel_rfl
 v9:=fun w=>by kernel_rfl
 t20:=by kernel_rfl
 a20:=fun w=>by kernel_rfl
 z20:=fun w=>by kernel_rfl
 v20:=fun w=>by kernel_rfl
 t22:=by kernel_rfl
 a22:=fun w=>by kernel_rfl
 z22:=fun w=>by kernel_rfl
 v22:=fun w=>by kernel_rfl
theorem aWd (k:Nat) (h:k≤4000000):aQ Tryz.prog 172 [.one (.c .nl),I .i64 (k:Int)] [] (.one (.hs 720 0 0 0)) [(720,.arr 176 5 [] 0)]:=
 aQu (ρ:=gr9) (ei:=⟨.st [(0,9),(1,30)],5,72,[.str [],.int .i64 0,.int .i64 0,.str [],.nl]⟩) gl9 tok (tg rfl) rfl k (by show k*72≤_;omega) (by omega)
theorem aNp (a b:List (Str×Ty)) (h:a.length+b.length≤4000000):aQ Tryz.prog 167 [.one (.c (.sl 1 [[.sl 5 (a.map fI)],[.sl 5 (b.map fI)]]))] [] (.one (.c (.sl 5 ((a++b).map fI)))) []:=by
 have Y:=aWd (a.length+b.length) h;have N:(a.map fI).length=a.length:=θ _;have O:(b.map fI).length=b.length:=θ _;refine bM (n:=36) tok Tryz.func167 rfl rfl rfl ?_;refine sg rfl (sg rfl (a8 (sg rfl (aB (aK (fun i:Nat=>mk [(0,.one (.c (.sl 1 [[.sl 5 (a.map fI)],[.sl 5 (b.map fI)]]))),(3,I .i64 ((if i=0 then 0 else if i=1 then a.length else a.length+b.length:Nat):Int)),(9,.one (.c (.sl 1 [[.sl 5 (a.map fI)],[.sl 5 (b.map fI)]]))),(10,I .i64 2),(11,I .i64 i)] []) (fun i=>i≤2) (fun i=>2-i) 0 (Aj _) sl ?_)))));intro i hi;refine sg rfl (a8 (aA rfl (fun hb=>?_) (fun hb=>?_)))
 ·have W:i<2:=by
   have:(i:Int)<2:=ψ hb;omega
  refine aD (a8 (aB ?_));have q:i=0∨i=1:=by omega
  rcases q with rfl | rfl
  ·refine sg rfl (a8 (agN [] rfl (sg rfl (aA rfl (fun hb=>?_) (fun _=>?_)))))
   ·exfalso;have:((0+(a.map fI).length:Nat):Int)<0:=ψ hb;omega
   refine aD (ag [] rfl ⟨1,by omega,by dsimp only;omega,sl (he:=⟨rfl,?_,rfl,rfl,rfl,trivial⟩)⟩);show some (I .i64 ((0+(a.map fI).length:Nat):Int))=some (I .i64 ((a.length:Nat):Int));rw[N,A6]
  ·refine sg rfl (a8 (agN [] rfl (sg rfl (aA rfl (fun hb=>?_) (fun _=>?_)))))
   ·exfalso;have:((a.length+(b.map fI).length:Nat):Int)<0:=ψ hb;omega
   refine aD (ag [] rfl ⟨2,by omega,by dsimp only;omega,sl (he:=⟨rfl,?_,rfl,rfl,rfl,trivial⟩)⟩);show some (I .i64 ((a.length+(b.map fI).length:Nat):Int))=some (I .i64 ((a.length+b.length:Nat):Int));rw[O]
 have J:i=2:=by
  have:¬(i:Int)<2:=χ hb;omega
 subst J;refine aL (sk 1 rfl (kc Y ?_));refine kz 1 rfl (a8 (sg rfl (aB (aK (fun i:Nat=>mk [(6,.one (.hs 720 0 (if i=0 then 0 else if i=1 then a.length else a.length+b.length) (if i=0 then 0 else if i=1 then a.length else a.length+b.length))),(25,.one (.c (.sl 1 [[.sl 5 (a.map fI)],[.sl 5 (b.map fI)]]))),(26,I .i64 2),(27,I .i64 i)] [(720,.arr 176 5 (if i=0 then [] else if i=1 then a.map fI else a.map fI++b.map fI) 0)]) (fun i=>i≤2) (fun i=>2-i) 0 (Aj _) sl ?_))));intro i hi;refine sg rfl (a8 (aA rfl (fun hb=>?_) (fun hb=>?_)))
 ·have W:i<2:=by
   have:(i:Int)<2:=ψ hb;omega
  refine aD (a8 (aB ?_));have q:i=0∨i=1:=by omega
  rcases q with rfl | rfl
  ·exact sg rfl (ag [] rfl (ag [] rfl ⟨1,by omega,by dsimp only;omega,sl⟩))
  ·exact sg rfl (ag [] rfl (ag [] rfl ⟨2,by omega,by dsimp only;omega,sl⟩))
 have J:i=2:=by
  have:¬(i:Int)<2:=χ hb;omega
 subst J;refine aL (sg rfl (AWp.sub (Sub.freeze (id:=720) rfl) ?_));exact aF (rtT (hc:=hs_all rfl rfl (by simp) (by simp)))
def Wd.with_ (w:Wd) (l:List (Str×Ty)):Wd:=⟨w.fields,w.env++l,w.ps,w.deep⟩
theorem aDg (w:Wd) (l:List (Str×Ty)) (h:w.env.length+l.length≤4000000):aQ Tryz.prog 143 [.pa (eM w),.one (.c (.sl 5 (l.map fI)))] [] (.pa (eM (w.with_ l))) []:=by
 have hc:=aNp w.env l h;refine bM (n:=12) tok Tryz.func143 rfl rfl rfl ?_;refine sg rfl (skh 4 [(3,.fz)] rfl (kc hc ?_));exact kz 2 rfl (sg rfl (aF (rtC trw)))
end Go.Proofs.YtglfogjcijokpaaGreatDoor
namespace Go.Proofs.YtglfogjcijokpaaGreatDoor
open Go Go.AM
set_option maxRecDepth 20000
mutual
def nA:Ty→Bool
 | .mk f _ _ a=>decide (¬f=5)&&nAs a
def nAs:List Ty→Bool
 | []=>true
 | t::l=>nA t&&nAs l
end
theorem aLj:∀{l:List Ty},nAs l=true→∀x∈l,nA x=true
 | c::l,h,x,hx=>by
  rw[nAs,Ac] at h;rcases Ai.1 hx with rfl | hx
  ·exact h.1
  ·exact aLj h.2 x hx
theorem aNa (s:Str):aQ Tryz.prog 161 [bI [],Go.AM.T s] [] (I .i64 (-1)) []:=by
 refine bM (n:=25) tok Tryz.func161 rfl rfl rfl ?_;refine sg rfl (a8 (sg rfl (aB (aK (fun _:Unit=>mk [(8,I .i64 0),(9,I .i64 0)] []) (fun _=>True) (fun _=>0) () trivial sl ?_))));intro _ _;exact sg rfl (a8 (aA rfl nofun (fun _=>aL (sg rfl (aF rtT)))))
theorem aRc (t:Ty) (hn:nA t=true) (hl:t.args.length≤1000000) (O:∀u∈t.args,aQ Tryz.prog 136 [tyV u,tyV u,bI [],bI []] [] (B true) []):aQ Tryz.prog 136 [tyV t,tyV t,bI [],bI []] [] (B true) []:=by
 obtain⟨f,n,s,a⟩:=t;rw[nA,Ac] at hn;have h5:¬f=5:=ψ hn.1;have hl:a.length≤1000000:=hl;have q:(dQ a).length=a.length:=by rw[gQ,θ]
 have e1:(!decide (f=f))=false:=by simp
 have e2:(!decide (n=n))=false:=by simp
 have e3:(!decide ((((dQ a).length:Nat):Int)=(((dQ a).length:Nat):Int)))=false:=by simp
 have W:decide (s=s)=true:=by simp
 have e5:(!decide (s=s))=false:=by simp
 refine bM (n:=116) tok Tryz.func136 rfl rfl rfl ?_;refine sg rfl (a8 (sgh [(5,.bv false),(11,.bv false),(12,.bv false),(20,.bv false)] rfl (aA rfl (fun hb=>by simp at hb) (fun _=>aD (a8 (sg rfl (aB (sg rfl (aA rfl (fun hb=>absurd (ψ hb) h5) (fun _=>sg rfl (aA rfl (fun hb=>?_) (fun _=>?_))))))))))))
 ·have hp:=aNa s;refine sk 3 rfl (kc hp ?_);refine ak 3 [] rfl (kc hp ?_);refine kz 2 rfl ?_;have Y:(B true:V)=B (decide (s=s)):=by rw[W]
  refine sgh [(3,.bv true),(6,.bv false),(12,.bv false),(13,.bv true)] rfl ?_;rw[Y];exact aF rtT
 refine aD (a8 (sg rfl (aA rfl (fun hb=>by simp at hb) (fun _=>aD (a8 (sg rfl (aB (aK (fun i:Nat=>mk [(2,bI []),(3,bI []),(4,.one (.vp 4 0)),(5,.one (.vp 5 0)),(97,I .i64 ((dQ a).length:Int)),(98,I .i64 i)] [(4,.var 30 ((aO (.mk f n s a)).map R.c)),(5,.var 30 ((aO (.mk f n s a)).map R.c))]) (fun i=>i≤a.length) (fun i=>a.length-i) 0 (Aj _) sl ?_))))))));intro i hi;refine sg rfl (a8 (aA rfl (fun hb=>?_) (fun hb=>?_)))
 ·have J:=ltD hb q;obtain⟨u,hu⟩:=aJ J;have Z:(dQ a)[i]?=some (aO u):=by rw[gQ];exact bO aO hu
  have hc:=O u (Ab hu);refine aD (a8 (aB (sg rfl (skh 12 [(3,.row i (aO u)),(8,.row i (aO u))] rfl (kc hc ?_)))));exact kz 1 rfl (aA rfl nofun (fun _=>aD (ag [] rfl ⟨i+1,J,by dsimp only;omega,sl⟩)))
 have N:=geD hb q hi;subst N;exact aL (sg rfl (aF rtT))
theorem aGq:∀(k:Nat) (t:Ty),tn t≤k→wfS t=true→nA t=true→aQ Tryz.prog 136 [tyV t,tyV t,bI [],bI []] [] (B true) []
 | 0,t,h,_,_=>by have:=kF t;omega
 | k+1,.mk f n s a,h,hw,hn=>by
  obtain⟨h1,h2,_⟩:=nH hw;have q:=hn;rw[nA,Ac] at q;exact aRc (.mk f n s a) hn (show a.length≤_ by omega) fun u hu=>aGq k u (by have hu:u∈a:=hu;have:=kQ hu;rw[tn] at h;omega) (h2 u hu) (aLj q.2 u hu)
theorem oO (t:Ty) (hw:wfS t=true) (hn:nA t=true):aQ Tryz.prog 104 [tyV t,tyV t] [] (B true) []:=by
 have h:=aGq _ t (le_refl _) hw hn;refine bM (n:=8) tok Tryz.func104 rfl rfl rfl ?_;refine sg rfl (sk 2 rfl (kc h ?_));exact kz 1 rfl (aF rtT)
theorem aZ9 (a b:Ty) (ha:aQ Tryz.prog 64 [tyV a] [] (tyV a) []) (hb:aQ Tryz.prog 64 [tyV b] [] (tyV b) []):aQ Tryz.prog 142 [tyV b,.one (.c (.sl 4 [aO a]))] [] (tyV (bT a b)) []:=by
 have h1:=pP arrow;have h2:=y1 (.mk 3 0 arrow []) a;have h3:=y1 (tapp (.mk 3 0 arrow []) a) b;refine bM (n:=29) tok Tryz.func142 rfl rfl rfl ?_;refine sg rfl (sgh [(1,.pc (tyV b))] rfl (a8 (sg rfl (aB (aK (fun i:Nat=>mk [(1,.one (.c (.sl 4 [aO a]))),(4,.one (.vp 4 0)),(5,.one (.vp 5 0)),(10,I .i64 1),(11,I .i64 i)] [(4,.var 30 [.c (.int .i64 0),.c (.int .i64 0),.c (.str []),.c .nl]),(5,.var 30 ((aO (if i=0 then b else bT a b)).map R.c))]) (fun i=>i≤1) (fun i=>1-i) 0 (Aj _) sl ?_)))));intro i hi;refine sg rfl (a8 (aA rfl (fun q=>?_) (fun q=>?_)))
 ·have J:i=0:=by
   have:(i:Int)<1:=ψ q;omega
  subst J;rw[ξ rfl];refine aD (a8 (aB (sg rfl (aE mixed (kc h1 ?_)))));refine ak 8 [(7,.row 0 (aO a))] rfl (kc ha ?_);refine kc h2 ?_;refine ak 1 [] rfl (kc h3 ?_);exact kz 1 rfl (ag [] rfl ⟨1,le_refl _,by dsimp only;omega,sl⟩)
 have N:i=1:=by
  have:¬(i:Int)<1:=χ q;omega
 subst N;rw[φ (by omega)];exact aL (sg rfl (aF (rtC trw)))
theorem aRd (a b:Ty):aQ Tryz.prog 166 [tyV (bT a b)] [] (.tup [tyV a,tyV b,B true]) []:=by
 refine bM (n:=47) tok Tryz.func166 rfl rfl rfl ?_;exact sg rfl (a8 (sgh [(3,.bv false),(6,.row 0 (aO (tapp (.mk 3 0 arrow []) a))),(10,.bv false)] rfl (aA rfl nofun (fun _=>aD (sgh [(2,.row 0 (aO (tapp (.mk 3 0 arrow []) a))),(5,.row 0 (aO (.mk 3 0 arrow [])))] rfl (a8 (sgh [(3,.bv false),(7,.bv false)] rfl (aA rfl (fun hb=>absurd hb (by decide)) (fun _=>aD (sgh [(2,.row 0 (aO (tapp (.mk 3 0 arrow []) a))),(5,.row 1 (aO a)),(9,.row 1 (aO b))] rfl (aF ⟨.inr rfl,⟨_,_,.cell rfl (tg rfl) rfl rfl rfl (.cell rfl (tg rfl) rfl rfl rfl (.tmp rfl .nil)),.cons .refl (.cons .refl (.cons .refl .nil)),rfl⟩,trivial,rfl⟩)))))))))))
theorem aGt (a b:Ty) (ha:aQ Tryz.prog 64 [tyV a] [] (tyV a) []) (hb:aQ Tryz.prog 64 [tyV b] [] (tyV b) []):aQ Tryz.prog 140 [tyV (bT a b)] [] (.tup [tyV a,tyV b,B true]) []:=by
 have h:=aRd a b;refine bM (n:=19) tok Tryz.func140 rfl rfl rfl ?_;refine sg rfl (sk 1 rfl (kc h ?_));refine kz 9 rfl (sk 1 rfl (kc ha ?_));refine ak 1 [] rfl (kc hb ?_);exact kz 4 rfl (aF ⟨.inr rfl,⟨_,_,.cell rfl (tg rfl) rfl rfl rfl (.cell rfl (tg rfl) rfl rfl rfl (.tmp rfl .nil)),.cons .refl (.cons .refl (.cons .refl .nil)),rfl⟩,trivial,rfl⟩)
def ofV (w:Wd) (c:Core) (t:Ty):Prop:=aQ Tryz.prog 27 [.pa (eM w),.pa (aC c)] [] (tyV t) []
structure NT (t:Ty):Prop where
 w:wfS t=true
 a:nA t=true
theorem NT.own {t:Ty}(h:NT t):aQ Tryz.prog 64 [tyV t] [] (tyV t) []:=kC _ t (le_refl _) h.w
theorem aZ7 (w:Wd) (n:Int) (s:Str) (t:Ty) (f a:Core) {A R:Ty}(q:NT A) (I:NT R) (hf:ofV w f (bT A R)) (ha:ofV w a A):aQ Tryz.prog 112 [.pa (eM w),.pa (aC (.mk 4 n s t [f,a] [] []))] [] (tyV R) []:=by
 have hf:aQ Tryz.prog 27 [.pa (eM w),.pa (aC f)] [] (tyV (bT A R)) []:=hf;have ha:aQ Tryz.prog 27 [.pa (eM w),.pa (aC a)] [] (tyV A) []:=ha;have hs:=aGt A R q.own I.own;have hm:=oO A q.w q.a;refine bM (n:=36) tok Tryz.func112 rfl rfl rfl ?_;refine sg rfl (skh 5 [(3,.row 0 (aC f))] rfl (kc hf ?_));refine ak 5 [(9,.row 1 (aC a))] rfl (kc ha ?_);refine kz 4 rfl (sk 1 rfl (kc hs ?_));refine kz 9 rfl (skh 4 [(1,.bv true)] rfl (kcG hm ?_));refine ak 1 [(1,.bv true),(5,.bv true)] rfl (kc lQ ?_);exact az (sg rfl (aF (rtC trw)))
theorem aTh (w:Wd) (n:Int) (s:Str) (t:Ty) (b:Core) {A R:Ty}(q:NT A) (I:NT R) (hl:w.env.length+1≤4000000) (hm:aQ Tryz.prog 141 [.pa (eM w),tyV t] [] (tyV A) []) (hb:ofV (w.with_ [(s,A)]) b R):
  aQ Tryz.prog 113 [.pa (eM w),.pa (aC (.mk 5 n s t [b] [] []))] [] (tyV (bT A R)) []:=by
 have hb:aQ Tryz.prog 27 [.pa (eM (w.with_ [(s,A)])),.pa (aC b)] [] (tyV R) []:=hb;have hw:=aDg w [(s,A)] hl;have hf:=aZ9 A R q.own I.own;refine bM (n:=25) tok Tryz.func113 rfl rfl rfl ?_;refine sg rfl (sk 3 rfl (kc hm ?_));refine kz 2 rfl (skh 6 [(4,.all),(5,.all)] rfl (kc hw ?_));refine ak 4 [(9,.row 0 (aC b))] rfl (kc hb ?_);refine ak 2 [(13,.all)] rfl (kc hf ?_);exact kz 1 rfl (aF (rtC trw))
theorem sV (w:Wd) (n:Int) (s:Str) (u:Ty) (f:Core) {nm:Str}{body U R:Ty}(hm:aQ Tryz.prog 141 [.pa (eM w),tyV u] [] (tyV U) []) (hf:ofV w f (.mk 5 0 nm [body])) (hs:aQ Tryz.prog 28 [tyV body,bI [nm],aR9 [U]] [] (tyV R) []):
  aQ Tryz.prog 114 [.pa (eM w),.pa (aC (.mk 6 n s u [f] [] []))] [] (tyV R) []:=by
 have hf:aQ Tryz.prog 27 [.pa (eM w),.pa (aC f)] [] (tyV (.mk 5 0 nm [body])) []:=hf;refine bM (n:=29) tok Tryz.func114 rfl rfl rfl ?_;refine sg rfl (skh 5 [(3,.row 0 (aC f))] rfl (kc hf ?_));refine kz 2 rfl (sk 3 rfl (kc lQ ?_));refine az (skh 10 [(2,.row 0 (aO body)),(6,.all)] rfl (kc hm ?_));refine ak 1 [(11,.all)] rfl (kc hs ?_);exact kz 1 rfl (aF (rtC trw))
def xP (name:Str) (ps:List (Str×Ty)):List (Str×Ty):=ps.filter fun p=>decide (¬p.1=name)
def Wd.all_ (w:Wd) (name own:Str):Wd:=⟨w.fields,w.env,xP name w.ps++[(name,vT own)],w.deep+1⟩
theorem aQz {name:Str}{ps:List (Str×Ty)}{i:Nat}{p:Str×Ty}(h:ps[i]?=some p):xP name (ps.take (i+1))=if p.1=name then xP name (ps.take i) else xP name (ps.take i)++[p]:=by
 unfold xP;rw[dY h,List.filter_append,Ck,List.filter_nil];by_cases e:p.1=name
 ·rw[ξ e,φ (by simp[e]),A8]
 ·rw[φ e,ξ (by simp[e])]
theorem aC7 {name:Str}(ps:List (Str×Ty)):(xP name ps).length≤ps.length:=length_filter_le _ _
theorem aZ8 (w:Wd) (name own:Str) (hl:w.ps.length≤1000000) (hd:w.deep≤1000000):aQ Tryz.prog 145 [.pa (eM w),Go.AM.T name,Go.AM.T own] [] (.pa (eM (w.all_ name own))) []:=by
 have hv:=aM7 own;have N:((w.ps.map (·.1)).map bL).length=w.ps.length:=by rw[θ,θ]
 refine bM (n:=51) tok Tryz.func145 rfl rfl rfl ?_;refine sg rfl (sg rfl (sg rfl (AWp.sub (Sub.own (t:=7) (id:=710) 9 1 rfl rfl) ?_)));refine AWp.sub (Sub.own (t:=8) (id:=711) 30 4 rfl rfl) ?_;refine a8 (sg rfl (aB ?_))
 refine aK (fun i:Nat=>mk [(1,Go.AM.T name),(2,Go.AM.T own),(3,.one (.vp 3 0)),(6,.one (.vp 6 0)),(7,.one (.hs 710 0 (xP name (w.ps.take i)).length (xP name (w.ps.take i)).length)),(8,.one (.hs 711 0 (xP name (w.ps.take i)).length (xP name (w.ps.take i)).length)),(12,bI (w.ps.map (·.1))),(13,I .i64 (((w.ps.map (·.1)).map bL).length:Int)),(14,I .i64 i)]
  [(3,.var 75 ((eM w).map R.c)),(6,.var 75 [.c .nl,.c .nl,.c .nl,.c .nl,.c (.int .i64 0)]),(710,.arr 9 1 (((xP name (w.ps.take i)).map (·.1)).map bL) 0),(711,.arr 30 4 (((xP name (w.ps.take i)).map (·.2)).map aO) 0)]) (fun i=>i≤w.ps.length) (fun i=>w.ps.length-i) 0 (Aj _) sl ?_
 intro i hi;refine sg rfl (a8 (aA rfl (fun hb=>?_) (fun hb=>?_)))
 ·have J:i<w.ps.length:=ltD hb N;obtain⟨p,hp⟩:=aJ J;have q:=aQz (name:=name) hp;have ad:((w.ps.map (·.1)).map bL)[i]?=some (bL p.1):=by rw[Bj,Bg,hp];rfl
  have ae:((w.ps.map (·.2)).map aO)[i]?=some (aO p.2):=by rw[Bj,Bg,hp];rfl
  have O:=aC7 (name:=name) (w.ps.take i);rw[Aq] at O;generalize xP name (w.ps.take i)=L at *;have Y:((L.map (·.1)).map bL).length=L.length:=by rw[θ,θ]
  have Z:((L.map (·.2)).map aO).length=L.length:=by rw[θ,θ]
  refine aD (a8 (aB (sgh [(1,.row i (bL p.1))] rfl (sg rfl (aA rfl (fun hb=>?_) (fun hb=>?_))))))
  ·have aa:¬p.1=name:=by simpa using hb
   rw[φ aa] at q;refine ag [(2,.all),(8,.row i (aO p.2)),(10,.all)] rfl (ag [] rfl ⟨i+1,J,by dsimp only;omega,?_⟩);dsimp only;rw[q];exact sl (he:=⟨rfl,rfl,rfl,rfl,Go.AM.hs_ren (by simp) (by simp),Go.AM.hs_ren (by simp) (by simp),rfl,rfl,rfl,trivial⟩) (hh:=⟨⟨_,rfl,.varS rfl⟩,⟨_,rfl,.varS rfl⟩,⟨_,rfl,.arrS (by simp;rfl)⟩,⟨_,rfl,.arrS (by simp;rfl)⟩,trivial⟩)
  ·have he:p.1=name:=by simpa using hb
   rw[ξ he] at q;refine aD (ag [] rfl ⟨i+1,J,by dsimp only;omega,?_⟩);dsimp only;rw[q];exact sl
 have ab:i=w.ps.length:=geD hb N hi;subst ab;rw[As];have O:=aC7 (name:=name) w.ps;generalize ac:xP name w.ps=L at *;have Y:((L.map (·.1)).map bL).length=L.length:=by rw[θ,θ]
 have Z:((L.map (·.2)).map aO).length=L.length:=by rw[θ,θ]
 have W:w.all_ name own=⟨w.fields,w.env,L++[(name,vT own)],w.deep+1⟩:=by unfold Wd.all_;rw[ac]
 rw[W];refine aL (skh 6 [(2,.all)] rfl (kc hv ?_));refine ak 6 [(7,.all)] rfl (az (sg rfl (AWp.sub (Sub.freeze (id:=710) rfl) ?_)));refine AWp.sub (Sub.freeze (id:=711) rfl) ?_;refine AWp.sub (Sub.varPure (x:=3) (cs:=eM ⟨w.fields,w.env,L++[(name,vT own)],w.deep+1⟩) rfl (.c .refl (.c .refl (.hs rfl (by simp) (by simp;rw[A3 (by simp)];rfl) (.hs rfl (by simp) (by simp;rw[A3 (by simp)];rfl) (.c .refl .nil)))))) ?_;exact sg rfl (aF (rtC trw))
def tvO (k:Nat):Str:=64::Lib.decDigits k
theorem aM4 (q:dA 540000000000) (w:Wd) (n:Int) (s:Str) (t:Ty) (b:Core) {R:Ty}(hl:w.ps.length≤1000000) (hd:w.deep≤1000000) (I:aQ Tryz.prog 64 [tyV R] [] (tyV R) []) (hb:ofV (w.all_ s (tvO w.deep)) b R):
  aQ Tryz.prog 115 [.pa (eM w),.pa (aC (.mk 7 n s t [b] [] []))] [] (tyV (.mk 5 0 (tvO w.deep) [R])) []:=by
 have hb:aQ Tryz.prog 27 [.pa (eM (w.all_ s (tvO w.deep))),.pa (aC b)] [] (tyV R) []:=hb;have hi:=q w.deep (by omega);have N:=xY w.deep (by omega);have ha:=aZ8 w s (tvO w.deep) hl hd;have J:=aNb (tvO w.deep) R I;have O:600000000000≤maxLen:=by decide
 refine bM (n:=22) tok Tryz.func115 rfl rfl rfl ?_;refine sg rfl (sk 2 rfl (kc hi ?_));refine ak 2 [] rfl ?_ (hc:=by repeat (first | exact trivial | refine⟨by first | rfl | omega | (simp;omega),?_⟩));refine az (sk 5 rfl (kc ha ?_));refine ak 4 [(8,.row 0 (aC b))] rfl (kc hb ?_);refine kc J ?_;exact kz 1 rfl (aF (rtC trw))
def wIf (w w':Wd) (i:Nat):Wd:=if i=0 then w else w'
theorem aRa (w:Wd) (z:Str) (u:Ty) (b:Core) {U:Ty}(N:NT U) (hl:w.env.length+1≤4000000) (hm:aQ Tryz.prog 141 [.pa (eM w),tyV u] [] (tyV U) []) (hb:ofV (w.with_ [(z,U)]) b U):
  aQ Tryz.prog 146 [.pa (eM w),.one (.c (.sl 15 [bJ (.mk z u b)]))] [] (.pa (eM (w.with_ [(z,U)]))) []:=by
 have hb:aQ Tryz.prog 27 [.pa (eM (w.with_ [(z,U)])),.pa (aC b)] [] (tyV U) []:=hb;have hw:=aDg w [(z,U)] hl;have hs:=oO U N.w N.a;refine bM (n:=64) tok Tryz.func146 rfl rfl rfl ?_;refine sg rfl (sgh [(0,.id 610)] rfl (sg rfl (a8 (sg rfl (aB (aK (fun i:Nat=>mk [(1,.one (.c (.sl 15 [bJ (.mk z u b)]))),(2,.one (.vp 2 0)),(4,.one (.vp 4 0)),(5,.one (.mr 610)),(6,.one (.vp 6 0)),(15,.one (.c (.sl 15 [bJ (.mk z u b)]))),(16,I .i64 1),(17,I .i64 i)] [(2,.var 75 ((eM w).map R.c)),(4,.var 75 [.c .nl,.c .nl,.c .nl,.c .nl,.c (.int .i64 0)]),(6,.var 75 ((eM (wIf w (w.with_ [(z,U)]) i)).map R.c)),(610,.map true (if i=0 then [] else [[.str z]]))]) (fun i=>i≤1) (fun i=>1-i) 0 (Aj _) sl ?_))))));intro i hi;refine sg rfl (a8 (aA rfl (fun q=>?_) (fun q=>?_)))
 ·have J:i=0:=by
   have:(i:Int)<1:=ψ q;omega
  subst J;refine aD (a8 (aB (sg rfl (sg rfl (sk 2 rfl (kc lQ ?_)) (hc:=⟨(by rw[ξ rfl];trivial),trivial⟩)))));refine az (sg rfl (aE mixed (ak 6 [] rfl (kc hm ?_))) (hc:=⟨(by rw[ξ rfl];trivial),trivial⟩));refine ak 2 [(7,.all),(8,.all)] rfl (kc hw ?_);exact kz 1 rfl (ag [] rfl ⟨1,le_refl _,by dsimp only;omega,sl⟩)
 have O:i=1:=by
  have:¬(i:Int)<1:=χ q;omega
 subst O;refine aL (a8 (sg rfl (aB (aK (fun i:Nat=>mk [(2,.one (.vp 2 0)),(4,.one (.vp 4 0)),(6,.one (.vp 6 0)),(46,.one (.c (.sl 15 [bJ (.mk z u b)]))),(47,I .i64 1),(48,I .i64 i)] [(2,.var 75 ((eM w).map R.c)),(4,.var 75 [.c .nl,.c .nl,.c .nl,.c .nl,.c (.int .i64 0)]),(6,.var 75 ((eM (w.with_ [(z,U)])).map R.c))]) (fun i=>i≤1) (fun i=>1-i) 0 (Aj _) sl ?_))));intro i hi;refine sg rfl (a8 (aA rfl (fun q=>?_) (fun q=>?_)))
 ·have J:i=0:=by
   have:(i:Int)<1:=ψ q;omega
  subst J;refine aD (a8 (aB (sg rfl (aE mixed (ak 3 [] rfl (kc hb ?_))))));refine ak 3 [] rfl (kc hm ?_);refine kc hs ?_;refine kc lQ ?_;exact az (ag [] rfl ⟨1,le_refl _,by dsimp only;omega,sl⟩)
 exact aL (sg rfl (aF (rtC trw)))
theorem aZ5 (w:Wd) (n:Int) (s:Str) (t:Ty) (c:Core) (bs:List Bind) {w':Wd}{R:Ty}(q:aQ Tryz.prog 146 [.pa (eM w),.one (.c (.sl 15 (aU bs)))] [] (.pa (eM w')) []) (hc:ofV w' c R):
  aQ Tryz.prog 116 [.pa (eM w),.pa (aC (.mk 8 n s t [c] bs []))] [] (tyV R) []:=by
 have hc:aQ Tryz.prog 27 [.pa (eM w'),.pa (aC c)] [] (tyV R) []:=hc;refine bM (n:=14) tok Tryz.func116 rfl rfl rfl ?_;refine sg rfl (sk 3 rfl (kc q ?_));refine ak 4 [(6,.row 0 (aC c))] rfl (kc hc ?_);exact kz 1 rfl (aF (rtC trw))
set_option maxHeartbeats 4000000
mutual
def nS:Core→Str→Core→Core
 | .mk f n nm t ks bs al,x,b=>if f=1 then(if nm=x then b else .mk f n nm t ks bs al)
  else .mk f n nm t (if x∈gvN f nm bs then ks else nSs ks x b) (if x∈gvN f nm bs then bs else nSb bs x b) (nSa al x b)
def nSs:List Core→Str→Core→List Core
 | [],_,_=>[]
 | c::l,x,b=>nS c x b::nSs l x b
def nSb:List Bind→Str→Core→List Bind
 | [],_,_=>[]
 | .mk s t c::l,x,b=>.mk s t (nS c x b)::nSb l x b
def nSa:List Alt→Str→Core→List Alt
 | [],_,_=>[]
 | .mk f n s v c::l,x,b=>.mk f n s v (if x∈v then c else nS c x b)::nSa l x b
end
def nSA (x:Str) (b:Core) (a:Alt):Alt:=.mk a.form a.n a.name a.vars (if x∈a.vars then a.body else nS a.body x b)
def nSB (x:Str) (b:Core) (a:Bind):Bind:=.mk a.name a.ty (nS a.body x b)
section
variable {x:Str}{b:Core}
theorem aLf:∀l:List Core,nSs l x b=l.map fun c=>nS c x b
 | []=>by rw[nSs];rfl
 | c::l=>by rw[nSs,aLf l];rfl
theorem aLg:∀l:List Bind,nSb l x b=l.map (nSB x b)
 | []=>by rw[nSb];rfl
 | .mk s t c::l=>by rw[nSb,aLg l];rfl
theorem aLh:∀l:List Alt,nSa l x b=l.map (nSA x b)
 | []=>by rw[nSa];rfl
 | .mk f n s v c::l=>by rw[nSa,aLh l];rfl
theorem k7 {f n:Int}{nm:Str}{t:Ty}{ks:List Core}{bs:List Bind}{al:List Alt}(hf:¬f=1):nS (.mk f n nm t ks bs al) x b=
  .mk f n nm t (if x∈gvN f nm bs then ks else ks.map fun c=>nS c x b) (if x∈gvN f nm bs then bs else bs.map (nSB x b)) (al.map (nSA x b)):=by
 rw[nS,φ hf,aLf,aLg,aLh]
theorem zX:∀(k:Nat) (c:Core),bE c≤k→¬x∈pfR c→nS c x b=c
 | 0,c,h,_=>by have:=cD c;omega
 | k+1,.mk f n nm t ks bs al,h,hx=>by
  obtain⟨J,N,O,_⟩:= @fN f n nm t ks bs al;by_cases h1:f=1
  ·rw[nS,ξ h1,φ];intro e;rw[pfR,ξ h1] at hx;exact hx (by rw[e];exact ζ.2 rfl)
  ·have hx:=fun h=>hx ((dU h1).2 h)
   rw[k7 h1];have W:(if x∈gvN f nm bs then ks else ks.map fun c=>nS c x b)=ks:=by
    split
    ·rfl
    ·rename_i I;exact fC fun c hc=>zX k c (by have:=J c hc;omega) fun q=>hx (.inl ⟨c,δ.2 (.inl hc),q,I⟩)
   have Y:(if x∈gvN f nm bs then bs else bs.map (nSB x b))=bs:=by
    split
    ·rfl
    ·rename_i I;exact fC fun c hc=>by
      unfold nSB;rw[zX k c.body (by have:=N c hc;omega) fun q=>hx (.inl ⟨c.body,δ.2 (.inr (Af.2 ⟨c,hc,rfl⟩)),q,I⟩)];cases c;rfl
   have Z:al.map (nSA x b)=al:=fC fun a ha=>by
    unfold nSA;by_cases hv:x∈a.vars
    ·rw[ξ hv];cases a;rfl
    ·rw[φ hv,zX k a.body (by have:=O a ha;omega) fun q=>hx (.inr ⟨a,ha,q,hv⟩)];cases a;rfl
   rw[W,Y,Z]
end
section
variable {sb:Core→Str→Core→Core}
theorem aGd {far:List Str}:∀{ns:List Str}{st:List Str×List Core×List Str},(∀n∈ns,¬n∈far)→mF sb far ns st=(st.1++ns,st.2.1,st.2.2)
 | [],st,_=>by unfold mF;simp
 | n::ns,st,h=>by
  have e:eZ sb far st n=(st.1++[n],st.2.1,st.2.2):=by unfold eZ;rw[φ (h n η)]
  have:=aGd (far:=far) (ns:=ns) (st:=eZ sb far st n) fun m hm=>h m (ω _ hm)
  unfold mF at this ⊢;rw[Cr,this,e];simp
theorem aFf {s:Str}{b:Core}{ns:List Str}{ps:List Core}(hf:∀n∈ns,¬n∈pfR b) (hs:∀p∈ps,sb p s b=nS p s b):dN sb s b ns ps=(ns,if s∈ns then ps else ps.map fun p=>nS p s b):=by
 unfold dN;split
 ·rename_i h;rw[aGd hf,φ h.2];simp only[Bd];rw[Bk hs]
 ·rename_i h;by_cases hn:s∈ns
  ·rw[ξ hn]
  ·rw[φ hn];have e:(ps.map fun p=>nS p s b)=ps:=fC fun p hp=>zX _ p (le_refl _) fun hx=>h ⟨mem_flatMap.2 ⟨p,hp,hx⟩,hn⟩
   rw[e]
end
theorem aSz {x:Str}{b:Core}:∀bs:List Bind,mkB (bs.map Bind.ty) (bs.map Bind.name) (bs.map fun a=>nS a.body x b)=bs.map (nSB x b)
 | []=>rfl
 | .mk s t c::l=>by
  rw[Al,Al,Al,Al,mkB,aSz l];rfl
theorem aCd {X:Nat}{s:Str}{b:Core}(hb:∀z∈pfR b,¬nh z) (ht:tyR b=[]):∀(k:Nat) (c:Core),m30 c≤k→dD (QL X) c→eQ k c s b=nS c s b:=by
 intro k
 induction k with
 | zero=>intro c h;have:=eY c;omega
 | succ k O=>
 intro c h J;obtain⟨f,n,nm,t,ks,bs,al⟩:=c;rw[eQ];by_cases h1:f=1
 ·obtain⟨rfl,rfl,rfl⟩:=aBm J h1;rw[nS,ξ h1];by_cases hs:nm=s
  ·rw[ξ ⟨h1,hs⟩,ξ hs]
  ·rw[φ fun e=>hs e.2,φ hs,φ (fun e=>by have:f=7:=e.1;omega),tS];unfold zNm zKs zBs;rw[φ (by omega)];simp[mkB]
 ·have Y:(if Core.form (.mk f n nm t ks bs al)=7∧s∈pfR (.mk f n nm t ks bs al) then aZ4 (.mk f n nm t ks bs al) (tyR b) else .mk f n nm t ks bs al)=.mk f n nm t ks bs al:=by
   split
   ·rw[ht,aZ4,φ (by simp)]
   ·rfl
  rw[φ (fun e=>h1 e.1),Y,k7 h1,tS];obtain⟨⟨q1,q2,q3,q4,q5,q6,q7,q8⟩,k1,k2,k3⟩:=aY.1 J;rw[m30] at h
  have hg:∀y∈gvN f nm bs,¬y∈pfR b:=fun y q I=>hb y I (by
   unfold gvN at q;rcases δ.1 q with q | q
   ·by_cases h5:f=5
    ·rw[ξ h5] at q;rw[ζ.1 q];exact q6 h5
    ·rw[φ h5] at q;cases q
   ·obtain⟨z,N,rfl⟩:=Af.1 q
    exact q7 (bhd z) (Af.2 ⟨z,N,rfl⟩))
  have hP:=aFf (sb:=eQ k) (s:=s) (b:=b) (ns:=gvN f nm bs) (ps:=ks++bs.map Bind.body) hg fun p hp=>by
   rcases δ.1 hp with hp | hp
   ·exact O p (by have:=fL hp;omega) (k1 p hp)
   ·obtain⟨z,N,rfl⟩:=Af.1 hp;exact O z.body (by have:=k8 N;omega) (k2 z N)
  have hA:al.map (n1 (eQ k) s b)=al.map (nSA s b):=Bk fun a ha=>by
   have hv:∀y∈a.vars,¬y∈pfR b:=fun y q I=>hb y I (q8 (ahd a) (Af.2 ⟨a,ha,rfl⟩) y q)
   have Z:=aFf (sb:=eQ k) (s:=s) (b:=b) (ns:=a.vars) (ps:=[a.body]) hv fun p hp=>by
    rw[ζ.1 hp];exact O a.body (by have:=gU ha;omega) (k3 a ha)
   unfold n1 nSA;rw[Z];by_cases hx:s∈a.vars
   ·rw[ξ hx,ξ hx];rfl
   ·rw[φ hx,φ hx];rfl
  rw[hA];unfold zNm zKs zBs;rw[hP];have e1:(if f=5 then(gvN f nm bs).headD nm else nm)=nm:=by
   split
   ·rename_i h5;unfold gvN;rw[ξ h5];rfl
   ·rfl
  dsimp only;rw[e1];by_cases hx:s∈gvN f nm bs
  ·rw[ξ hx,ξ hx,ξ hx,take_left,drop_left];by_cases h5:f=5
   ·obtain⟨_,rfl,rfl⟩:=fJ J (.inl h5);rfl
   ·have W:gvN f nm bs=bs.map Bind.name:=by unfold gvN;rw[φ h5];rfl
    rw[W,aLn]
  ·rw[φ hx,φ hx,φ hx,A4,take_left' (by rw[θ]),List.drop_left' (by rw[θ])];by_cases h5:f=5
   ·obtain⟨_,rfl,rfl⟩:=fJ J (.inl h5);rfl
   ·have W:gvN f nm bs=bs.map Bind.name:=by unfold gvN;rw[φ h5];rfl
    rw[W,Bj];have e3:=aSz (x:=s) (b:=b) bs;rw[show((fun p=>nS p s b)∘Bind.body)=fun a:Bind=>nS a.body s b from rfl,e3]
end Go.Proofs.YtglfogjcijokpaaGreatDoor
