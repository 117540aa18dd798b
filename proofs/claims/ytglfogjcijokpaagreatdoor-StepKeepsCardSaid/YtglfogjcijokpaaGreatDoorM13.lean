/-
  Texts Lw2 to Ly17 in one.
-/
import Derived.Test.YtglfogjcijokpaaGreatDoorM12
open List (drop_eq_getElem_cons drop_length foldl_append foldl_cons length_append length_cons length_eq_zero_iff length_map length_range length_set length_take length_zip map_append map_congr_left map_cons map_map map_set mem_append mem_cons mem_cons_of_mem mem_cons_self mem_flatMap mem_map mem_range mem_singleton nil_append nodup_append nodup_cons nodup_range not_mem_nil take_add_one take_append_drop take_length take_of_length_le take_zero)
open Nat (le_refl zero_le)
namespace Go.Proofs.YtglfogjcijokpaaGreatDoor
open Go Go.AM
set_option maxRecDepth 20000
set_option maxHeartbeats 4000000
mutual
noncomputable def nT:Core→Str→Ty→Core
 | .mk f n nm t ks bs al,a,u=>if f=7∧nm=a then .mk f n nm t ks bs al else .mk f n nm (bP t [(a,u)]) (nTs ks a u) (nTb bs a u) (nTa al a u)
noncomputable def nTs:List Core→Str→Ty→List Core
 | [],_,_=>[]
 | c::l,a,u=>nT c a u::nTs l a u
noncomputable def nTb:List Bind→Str→Ty→List Bind
 | [],_,_=>[]
 | .mk s t c::l,a,u=>.mk s (bP t [(a,u)]) (nT c a u)::nTb l a u
noncomputable def nTa:List Alt→Str→Ty→List Alt
 | [],_,_=>[]
 | .mk f n s v c::l,a,u=>.mk f n s v (nT c a u)::nTa l a u
end
section
variable {a:Str}{u:Ty}
theorem aLb:∀l:List Core,nTs l a u=l.map fun c=>nT c a u
 | []=>by rw[nTs];rfl
 | c::l=>by rw[nTs,aLb l];rfl
theorem aLc:∀l:List Bind,nTb l a u=l.map fun b=>.mk b.name (bP b.ty [(a,u)]) (nT b.body a u)
 | []=>by rw[nTb];rfl
 | .mk s t c::l=>by rw[nTb,aLc l];rfl
theorem aLd:∀l:List Alt,nTa l a u=l.map fun b=>.mk b.form b.n b.name b.vars (nT b.body a u)
 | []=>by rw[nTa];rfl
 | .mk f n s v c::l=>by rw[nTa,aLd l];rfl
theorem aLe {f n:Int}{nm:Str}{t:Ty}{ks:List Core}{bs:List Bind}{al:List Alt}(hf:¬(f=7∧nm=a)):nT (.mk f n nm t ks bs al) a u=
  fQ (fun t=>bP t [(a,u)]) (fun x=>nT x a u) (.mk f n nm t ks bs al):=by
 rw[nT,φ hf,aLb,aLc,aLd,fQ]
theorem aQf {X:Nat}:∀(k:Nat) (c:Core),bE c≤k→dD (QL X) c→¬a∈tyR c→nT c a u=c
 | 0,c,h,_,_=>by have:=cD c;omega
 | k+1,.mk f n nm t ks bs al,h,W,hx=>by
  obtain⟨I,J,N,_⟩:= @fN f n nm t ks bs al;obtain⟨⟨_,_,Y,Z,_⟩,q2,q3,q4⟩:=aY.1 W;by_cases h7:f=7∧nm=a
  ·rw[nT,ξ h7]
  ·have hx:=fun h=>hx (bC.2 h)
   have ts:∀v,wfS v=true→¬a∈tfR v→bP v [(a,u)]=v:=fun v hv O=>wD (tn v) v (le_refl _) hv _ fun p hp=>by rw[ζ.1 hp];exact O
   rw[aLe h7,fQ,ts t Y fun e=>hx (.inl e)];rw[fC (l:=ks) fun y q=>aQf k y (by have:=I y q;omega) (q2 y q) fun e=>hx (.inr (.inl ⟨y,q,e,by by_cases h:f=7;exact .inr fun e'=>h7 ⟨h,e'.symm⟩;exact .inl h⟩))]
   rw[fC (l:=bs) fun y q=>by
    rw[ts y.ty (Z (bhd y) (Af.2 ⟨y,q,rfl⟩)) fun e=>hx (.inr (.inr (.inl ⟨y,q,.inl e⟩))),aQf k y.body (by have:=J y q;omega) (q3 y q) fun e=>hx (.inr (.inr (.inl ⟨y,q,.inr e⟩)))]
    cases y;rfl]
   rw[fC (l:=al) fun y q=>by
    rw[aQf k y.body (by have:=N y q;omega) (q4 y q) fun e=>hx (.inr (.inr (.inr ⟨y,q,e⟩)))]
    cases y;rfl]
theorem aX1 {X:Nat}(hu:tfR u=[]):∀(k:Nat) (c:Core),m30 c≤k→dD (QL X) c→sTR k c a u=nT c a u:=by
 intro k
 induction k with
 | zero=>intro c h;have:=eY c;omega
 | succ k I=>
 intro c h J;obtain⟨f,n,nm,t,ks,bs,al⟩:=c;obtain⟨_,N,O,W⟩:=aY.1 J;rw[sTR];by_cases h7:f=7∧(nm=a∨¬a∈tyR (.mk f n nm t ks bs al))
 ·rw[ξ h7];rcases h7.2 with e | e
  ·rw[nT,ξ ⟨h7.1,e⟩]
  ·rw[aQf _ _ (le_refl _) J e]
 ·rw[φ h7,φ (fun e=>by rw[hu] at e;exact absurd e.2 (by simp)),aLe fun e=>h7 ⟨e.1,.inl e.2⟩,fQ,fQ];rw[m30] at h;rw[Bk (l:=ks) fun y q=>I y (by have:=fL q;omega) (N y q)];rw[Bk (l:=bs) (g:=fun b=>Bind.mk b.name (bP b.ty [(a,u)]) (nT b.body a u)) fun y q=>by rw[I y.body (by have:=k8 q;omega) (O y q)]];rw[Bk (l:=al) (g:=fun b=>Alt.mk b.form b.n b.name b.vars (nT b.body a u)) fun y q=>by rw[I y.body (by have:=gU q;omega) (W y q)]]
end
theorem aYv (z:Str):pfR (vC z)=[z]:=by unfold vC;rw[pfR,ξ rfl]
section
variable {X:Nat}
theorem aIo {f n:Int}{nm:Str}{t:Ty}{ks:List Core}{bs:List Bind}{al:List Alt}(I:dD (QL X) (.mk f n nm t ks bs al)):(∀y∈gvN f nm bs,nh y)∧∀a∈al,∀y∈a.vars,nh y:=by
 obtain⟨⟨_,_,_,_,_,J,N,O⟩,_⟩:=aY.1 I;refine⟨fun y q=>?_,fun a ha y q=>O (ahd a) (Af.2 ⟨a,ha,rfl⟩) y q⟩;unfold gvN at q;rcases δ.1 q with q | q
 ·by_cases h5:f=5
  ·rw[ξ h5] at q;rw[ζ.1 q];exact J h5
  ·rw[φ h5] at q;cases q
 ·obtain⟨z,W,rfl⟩:=Af.1 q;exact N (bhd z) (Af.2 ⟨z,W,rfl⟩)
theorem aFr {f:Int}{nm x:Str}{b:Core}{bs:List Bind}{p:Prop} [Decidable p]:gvN f nm (if p then bs else bs.map (nSB x b))=gvN f nm bs:=by
 split
 ·rfl
 ·unfold gvN;rw[Bj];rfl
theorem x7 {x z:Str}{b:Core}(J:¬nh z):∀(k:Nat) (c:Core),bE c≤k→dD (QL X) c→¬z∈pfR c→nS (nS c x (vC z)) z b=nS c x b
 | 0,c,h,_,_=>by have:=cD c;omega
 | k+1,.mk f n nm t ks bs al,h,W,hx=>by
  obtain⟨Y,Z,aa,_⟩:= @fN f n nm t ks bs al;obtain⟨_,q2,q3,q4⟩:=aY.1 W;obtain⟨hg,hv⟩:=aIo W;by_cases h1:f=1
  ·rw[pfR,ξ h1] at hx;rw[nS,ξ h1,nS,ξ h1];by_cases e:nm=x
   ·rw[ξ e,ξ e];unfold vC;rw[nS,ξ rfl,ξ rfl]
   ·rw[φ e,φ e,nS,ξ h1,φ fun e'=>hx (by rw[e'];exact ζ.2 rfl)]
  ·have hx:=fun h=>hx ((dU h1).2 h)
   have I:¬z∈gvN f nm bs:=fun e=>J (hg z e)
   rw[k7 h1,k7 h1,k7 h1,aFr,φ I,φ I];congr 1
   ·by_cases e:x∈gvN f nm bs
    ·rw[ξ e,ξ e];exact fC fun c hc=>zX _ c (le_refl _) fun q=>hx (.inl ⟨c,δ.2 (.inl hc),q,I⟩)
    ·rw[φ e,φ e,Bj];exact Bk fun c hc=>x7 J k c (by have:=Y c hc;omega) (q2 c hc) fun q=>hx (.inl ⟨c,δ.2 (.inl hc),q,I⟩)
   ·have hp:∀c∈bs,¬z∈pfR c.body:=fun c hc q=>hx (.inl ⟨c.body,δ.2 (.inr (Af.2 ⟨c,hc,rfl⟩)),q,I⟩)
    by_cases e:x∈gvN f nm bs
    ·rw[ξ e,ξ e];exact fC fun c hc=>by unfold nSB;rw[zX _ c.body (le_refl _) (hp c hc)];cases c;rfl
    ·rw[φ e,φ e,Bj];refine Bk fun c hc=>?_
     show nSB z b (nSB x (vC z) c)=nSB x b c;unfold nSB;show Bind.mk c.name c.ty (nS (nS c.body x (vC z)) z b)=_;rw[x7 J k c.body (by have:=Z c hc;omega) (q3 c hc) (hp c hc)]
   ·rw[Bj];refine Bk fun a ha=>?_
    have N:¬z∈a.vars:=fun e=>J (hv a ha z e)
    have O:¬z∈pfR a.body:=fun q=>hx (.inr ⟨a,ha,q,N⟩)
    show nSA z b (nSA x (vC z) a)=nSA x b a;unfold nSA;show Alt.mk a.form a.n a.name a.vars (if z∈a.vars then(if x∈a.vars then a.body else nS a.body x (vC z)) else nS (if x∈a.vars then a.body else nS a.body x (vC z)) z b)=_;rw[φ N];by_cases e:x∈a.vars
    ·rw[ξ e,ξ e,zX _ a.body (le_refl _) O]
    ·rw[φ e,φ e,x7 J k a.body (by have:=aa a ha;omega) (q4 a ha) O]
theorem x5 {y w z:Str}{b:Core}(I:¬nh z) (J:¬y=z) (hw:¬w=z) (hb:pfR b=[]):∀(k:Nat) (c:Core),bE c≤k→dD (QL X) c→nS (nS c y (vC w)) z b=nS (nS c z b) y (vC w)
 | 0,c,h,_=>by have:=cD c;omega
 | k+1,.mk f n nm t ks bs al,h,W=>by
  obtain⟨Y,Z,aa,_⟩:= @fN f n nm t ks bs al;obtain⟨_,q2,q3,q4⟩:=aY.1 W;obtain⟨hg,hv⟩:=aIo W;by_cases h1:f=1
  ·rw[nS,ξ h1,nS,ξ h1];by_cases e:nm=y
   ·have N:¬nm=z:=fun e'=>J (e.symm.trans e')
    rw[ξ e,φ N,nS,ξ h1,ξ e];unfold vC;rw[nS,ξ rfl,φ hw]
   ·rw[φ e,nS,ξ h1];by_cases N:nm=z
    ·rw[ξ N,zX _ b (le_refl _) (by rw[hb];simp)]
    ·rw[φ N,nS,ξ h1,φ e]
  ·have q:¬z∈gvN f nm bs:=fun e=>I (hg z e)
   rw[k7 h1,k7 h1,k7 h1,k7 h1,aFr,aFr,φ q,φ q,φ q,φ q];congr 1
   ·by_cases e:y∈gvN f nm bs
    ·rw[ξ e,ξ e]
    ·rw[φ e,φ e,Bj,Bj];exact Bk fun c hc=>x5 I J hw hb k c (by have:=Y c hc;omega) (q2 c hc)
   ·by_cases e:y∈gvN f nm bs
    ·rw[ξ e,ξ e]
    ·rw[φ e,φ e,Bj,Bj];refine Bk fun c hc=>?_
     show Bind.mk c.name c.ty (nS (nS c.body y (vC w)) z b)=Bind.mk c.name c.ty (nS (nS c.body z b) y (vC w));rw[x5 I J hw hb k c.body (by have:=Z c hc;omega) (q3 c hc)]
   ·rw[Bj,Bj];refine Bk fun a ha=>?_
    have O:¬z∈a.vars:=fun e=>I (hv a ha z e)
    show Alt.mk a.form a.n a.name a.vars (if z∈a.vars then(if y∈a.vars then a.body else nS a.body y (vC w)) else nS (if y∈a.vars then a.body else nS a.body y (vC w)) z b)=
     Alt.mk a.form a.n a.name a.vars (if y∈a.vars then(if z∈a.vars then a.body else nS a.body z b) else nS (if z∈a.vars then a.body else nS a.body z b) y (vC w))
    rw[φ O,φ O];by_cases e:y∈a.vars
    ·rw[ξ e,ξ e]
    ·rw[φ e,φ e,x5 I J hw hb k a.body (by have:=aa a ha;omega) (q4 a ha)]
end
theorem aUw {tk:List Str}(h:∀x∈tk,nh x) (k:Nat):nW tk k=(List.range k).map pcN:=by
 have key:∀n,mB tk n=(List.range n).map pcN:=fun n=>by
  unfold mB;rw[List.filter_eq_self];intro x hx;obtain⟨i,_,rfl⟩:=Af.1 hx;exact Ah fun hin=>mA i (h _ hin)
 have hl:=nV tk k;unfold nW at hl ⊢;rw[key,θ,length_range] at hl;rw[key,hl]
section
variable {π:Str→Str}
end
theorem aU8 {x:Str}{b:Core}(bs:List Bind):(bs.map (nSB x b)).map bhd=bs.map bhd:=by rw[Bj];rfl
theorem aU9 {x:Str}{b:Core}(al:List Alt):(al.map (nSA x b)).map ahd=al.map ahd:=by rw[Bj];rfl
theorem lT {q:Loc}{x:Str}{b:Core}(hb:dD q b):∀(k:Nat) (c:Core),bE c≤k→dD q c→dD q (nS c x b)
 | 0,c,h,_=>by have:=cD c;omega
 | k+1,.mk f n nm t ks bs al,h,N=>by
  obtain⟨O,W,Y,_⟩:= @fN f n nm t ks bs al;obtain⟨q1,Z,q3,q4⟩:=aY.1 N;by_cases h1:f=1
  ·rw[nS,ξ h1];split
   ·exact hb
   ·exact N
  ·rw[k7 h1];refine aY.2 ⟨?_,fun y I=>?_,fun y I=>?_,fun y I=>?_⟩
   ·have e1:(if x∈gvN f nm bs then ks else ks.map fun c=>nS c x b).length=ks.length:=by split<;>simp
    have e2:(if x∈gvN f nm bs then bs else bs.map (nSB x b)).map bhd=bs.map bhd:=by
     split
     ·rfl
     ·exact aU8 bs
    rw[e1,e2,aU9];exact q1
   ·split at I
    ·exact Z y I
    ·obtain⟨z,J,rfl⟩:=Af.1 I;exact lT hb k z (by have:=O z J;omega) (Z z J)
   ·split at I
    ·exact q3 y I
    ·obtain⟨z,J,rfl⟩:=Af.1 I;exact lT hb k z.body (by have:=W z J;omega) (q3 z J)
   ·obtain⟨z,J,rfl⟩:=Af.1 I;show dD q (if x∈z.vars then z.body else nS z.body x b);split
    ·exact q4 z J
    ·exact lT hb k z.body (by have:=Y z J;omega) (q4 z J)
theorem aP7 {x y:Str}{b:Core}:∀(k:Nat) (c:Core),bE c≤k→y∈pfR (nS c x b)→(y∈pfR c∧¬y=x)∨y∈pfR b
 | 0,c,h,_=>by have:=cD c;omega
 | k+1,.mk f n nm t ks bs al,h,J=>by
  obtain⟨O,W,Y,_⟩:= @fN f n nm t ks bs al;by_cases h1:f=1
  ·rw[nS,ξ h1] at J;split at J
   ·exact .inr J
   ·rename_i e;refine .inl ⟨J,?_⟩;rw[pfR,ξ h1] at J;rw[ζ.1 J];exact e
  ·rw[k7 h1] at J;rcases(dU h1).1 J with⟨p,hp,hyp,N⟩ | ⟨a,ha,q,hv⟩
   ·rw[aFr] at N;by_cases hx:x∈gvN f nm bs
    ·rw[ξ hx,ξ hx] at hp;exact .inl ⟨(dU h1).2 (.inl ⟨p,hp,hyp,N⟩),fun e=>N (by rw[e];exact hx)⟩
    ·rw[φ hx,φ hx] at hp;rcases δ.1 hp with hp | hp
     ·obtain⟨z,I,rfl⟩:=Af.1 hp;rcases aP7 k z (by have:=O z I;omega) hyp with⟨g1,g2⟩ | g
      ·exact .inl ⟨(dU h1).2 (.inl ⟨z,δ.2 (.inl I),g1,N⟩),g2⟩
      ·exact .inr g
     ·obtain⟨z',Z,rfl⟩:=Af.1 hp;obtain⟨z,I,rfl⟩:=Af.1 Z;rcases aP7 k z.body (by have:=W z I;omega) hyp with⟨g1,g2⟩ | g
      ·exact .inl ⟨(dU h1).2 (.inl ⟨z.body,δ.2 (.inr (Af.2 ⟨z,I,rfl⟩)),g1,N⟩),g2⟩
      ·exact .inr g
   ·obtain⟨z,I,rfl⟩:=Af.1 ha;have hv:¬y∈z.vars:=hv;have q:y∈pfR (if x∈z.vars then z.body else nS z.body x b):=q;by_cases hx:x∈z.vars
    ·rw[ξ hx] at q;exact .inl ⟨(dU h1).2 (.inr ⟨z,I,q,hv⟩),fun e=>hv (by rw[e];exact hx)⟩
    ·rw[φ hx] at q;rcases aP7 k z.body (by have:=Y z I;omega) q with⟨g1,g2⟩ | g
     ·exact .inl ⟨(dU h1).2 (.inr ⟨z,I,g1,hv⟩),g2⟩
     ·exact .inr g
def fS (c:Core) (l:List (Str×Core)):Core:=l.foldl (fun c p=>nS c p.1 p.2) c
theorem aOm {q:Loc}:∀{l:List (Str×Core)}{c:Core},dD q c→(∀p∈l,dD q p.2)→dD q (fS c l)
 | [],_,h,_=>h
 | p::l,c,h,hl=>aOm (l:=l) (lT (hl p η) _ c (le_refl _) h) fun q I=>hl q (ω _ I)
section
variable {X:Nat}
theorem aR5 (q:31≤X) {z:Str}(I:z.length≤30):dD (QL X) (vC z):=by
 have hw:w30 z=30:=by unfold w30;omega
 exact aY.2 ⟨⟨rfl,fun h=>(by cases h),rfl,by simp,by unfold lw;rw[hw];simpa using q,fun h=>(by cases h),by simp,by simp⟩,by simp,by simp,by simp⟩
theorem wW (I:31≤X):∀(ps:List (Str×Str)) (c:Core),dD (QL X) c→(∀p∈ps,¬nh p.2∧p.2.length≤30)→iR c ps=fS c (ps.map fun p=>(p.1,vC p.2))
 | [],c,_,_=>rfl
 | p::ps,c,hc,hp=>by
  obtain⟨h1,h2⟩:=hp p η;have e:=aCd (X:=X) (s:=p.1) (b:=vC p.2) (fun z J=>by rw[aYv,ζ] at J;rw[J];exact h1) aT2 (m30 c) c (le_refl _) hc;have:=wW I ps (nS c p.1 (vC p.2)) (lT (aR5 I h2) _ c (le_refl _) hc) fun q N=>hp q (ω _ N)
  unfold iR fS at this ⊢;rw[Cr,e,this,Al,Cr]
theorem aMt {z:Str}{b:Core}(J:31≤X) (I:¬nh z) (hb:pfR b=[]) (N:dD (QL X) b):∀(ps:List (Str×Str)) (c:Core),dD (QL X) c→(∀p∈ps,nh p.1∧¬p.2=z∧p.2.length≤30)→
  nS (fS c (ps.map fun p=>(p.1,vC p.2))) z b=fS (nS c z b) (ps.map fun p=>(p.1,vC p.2))
 | [],c,_,_=>rfl
 | p::ps,c,hc,hp=>by
  obtain⟨h1,h2,h3⟩:=hp p η;have e:=x5 (X:=X) (y:=p.1) (w:=p.2) (z:=z) (b:=b) I (fun e=>I (by rw[←e];exact h1)) h2 hb _ c (le_refl _) hc;have:=aMt J I hb N ps (nS c p.1 (vC p.2)) (lT (aR5 J h3) _ c (le_refl _) hc) fun q O=>hp q (ω _ O)
  rw[e] at this;exact this
theorem aSw (J:31≤X):∀(names own:List Str) (l:List Core) (c:Core),names.length=l.length→own.length=l.length→own.Nodup→(∀z∈own,¬nh z∧z.length≤30∧¬z∈pfR c)→(∀x∈names,nh x)→dD (QL X) c→
  (∀b∈l,dD (QL X) b∧pfR b=[]∧tyR b=[])→nP (iR c (names.zip own)) (own.zip l)=fS c (names.zip l)
 | [],own,l,c,h1,h2,_,_,_,_,_=>by
  have hl:l=[]:=Bl.1 h1.symm;subst hl;have ho:own=[]:=Bl.1 h2;subst ho;rfl
 | x::ns,[],l,c,h1,h2,_,_,_,_,_=>by rw[←h1] at h2;cases h2
 | x::ns,z::os,[],c,h1,_,_,_,_,_,_=>by cases h1
 | x::ns,z::os,b::bs,c,h1,h2,hnd,ho,hn,hc,hl=>by
  obtain⟨W,z2,z3⟩:=ho z η;obtain⟨b1,Y,b3⟩:=hl b η;have hx:=hn x η;obtain⟨hzo,Z⟩:=Bv.1 hnd;have I:∀p∈ns.zip os,nh p.1∧¬p.2=z∧p.2.length≤30∧¬nh p.2:=fun p hp=>by
   obtain⟨g1,g2⟩:=List.of_mem_zip (a:=p.1) (b:=p.2) hp;obtain⟨k1,k2,_⟩:=ho p.2 (ω _ g2);exact⟨hn p.1 (ω _ g1),fun e=>hzo (by rw[←e];exact g2),k2,k1⟩
  have N:dD (QL X) (nS c x (vC z)):=lT (aR5 J z2) _ c (le_refl _) hc;have e1:iR c ((x::ns).zip (z::os))=fS (nS c x (vC z)) ((ns.zip os).map fun p=>(p.1,vC p.2)):=by
   rw[wW J _ c hc (fun p hp=>by
    rcases Ai.1 hp with rfl | hp
    ·exact⟨W,z2⟩
    ·exact⟨(I p hp).2.2.2,(I p hp).2.2.1⟩)]
   rfl
  have hqF:dD (QL X) (fS (nS c x (vC z)) ((ns.zip os).map fun p=>(p.1,vC p.2))):=aOm N fun p hp=>by
   obtain⟨q,hq,rfl⟩:=Af.1 hp;exact aR5 J (I q hq).2.2.1
  rw[e1];have e2:nP (fS (nS c x (vC z)) ((ns.zip os).map fun p=>(p.1,vC p.2))) ((z::os).zip (b::bs))=nP (fS (nS c x b) ((ns.zip os).map fun p=>(p.1,vC p.2))) (os.zip bs):=by
   have e:=aCd (X:=X) (s:=z) (b:=b) (by rw[Y];simp) b3 (m30 (fS (nS c x (vC z)) ((ns.zip os).map fun p=>(p.1,vC p.2)))) _ (le_refl _) hqF;rw[aMt J W Y b1 (ns.zip os) _ N fun p hp=>⟨(I p hp).1,(I p hp).2.1,(I p hp).2.2.1⟩,x7 (X:=X) W _ c (le_refl _) hc z3] at e;unfold nP;rw[List.zip_cons_cons,Cr];dsimp only;rw[e]
  rw[e2];have O:dD (QL X) (nS c x b):=lT b1 _ c (le_refl _) hc;have e3:fS (nS c x b) ((ns.zip os).map fun p=>(p.1,vC p.2))=iR (nS c x b) (ns.zip os):=(wW J _ _ O fun p hp=>⟨(I p hp).2.2.2,(I p hp).2.2.1⟩).symm
  rw[e3,aSw J ns os bs (nS c x b) (by simpa using h1) (by simpa using h2) Z (fun w hw=>by
   obtain⟨k1,k2,k3⟩:=ho w (ω _ hw);refine⟨k1,k2,fun hin=>?_⟩;rcases aP7 _ c (le_refl _) hin with⟨g,_⟩ | g
   ·exact k3 g
   ·rw[Y] at g;cases g) (fun y hy=>hn y (ω _ hy)) O fun y hy=>hl y (ω _ hy)]
  rfl
theorem a3p {n:Nat}(h:n<10000):(pcN n).length≤30:=by
 unfold pcN;have:=aMx 3 n (by omega);simp only[Ak];omega
theorem aKu (J:31≤X) (c:Core) (names:List Str) (l:List Core) (h1:names.length=l.length) (h2:names.length≤1000) (hn:∀x∈names,nh x) (hc:dD (QL X) c) (hp:∀x∈pfR c,nh x)
  (hl:∀b∈l,dD (QL X) b∧pfR b=[]∧tyR b=[]):wX c names l=fS c (names.zip l):=by
 have ht:∀x∈gJ c l,nh x:=fun x hx=>by
  rcases δ.1 hx with hx | hx
  ·exact hp x hx
  ·obtain⟨b,hb,hx⟩:=mem_flatMap.1 hx;rw[(hl b hb).2.1] at hx;cases hx
 have q:=aUw ht names.length;unfold wX;rw[q];refine aSw J names _ l c h1 (by simp[h1]) ?_ (fun z N=>?_) hn hc hl
 ·have I:(List.range names.length).Nodup:=nodup_range;exact List.Pairwise.map pcN (fun a b h e=>h (aK5 a b e)) I
 ·obtain⟨m,hm,rfl⟩:=Af.1 N;have hm:=mem_range.1 hm;exact⟨mA m,a3p (by omega),fun h=>mA m (hp _ h)⟩
end
def nm6:List Str:=nmL++[[112]]
def mO (l:List Int) (left:Int):List (Nat×AObj):=[(700,.var 60 [.c (.sl 1 (l.map aO3)),.c (.int .i64 left)])]
def tV (l:List Int) (k:Int):Int×List Int:=match l with
 | []=>(0,[])
 | x::l=>(vW x k,l)
structure Ok (l:List Int):Prop where
 nums:aW0 l
 fits:Fits l
theorem aFq (l:List Int) {k:Int}(hk:0<k):0≤(tV l k).1∧(tV l k).1<k:=by
 cases l with
 | nil=>exact⟨Int.le_refl _,hk⟩
 | cons x l=>exact aOe x hk
theorem r9 {l:List Int}(h:Ok l) (k:Int):Ok (tV l k).2:=by
 cases l with
 | nil=>exact h
 | cons x l=>exact⟨h.nums.suf ⟨[x],rfl⟩,h.fits.suf ⟨[x],rfl⟩⟩
theorem aNi (l:List Int) (left k:Int) (hk:1≤k) (h:Ok l):aQ Tryz.prog 23 [.one (.vp 700 0),I .i64 k] (mO l left) (I .i64 (tV l k).1) (mO (tV l k).2 left):=by
 obtain⟨hl,hf⟩:=h;unfold Fits at hf;refine bM (n:=29) tok Tryz.func23 rfl rfl rfl ?_;refine sg rfl (a8 (sg rfl ?_));cases l with
 | nil=>
  exact aA rfl (fun hb=>sg rfl (aF rtT)) (fun hb=>by simp at hb)
 | cons x l=>
  refine aA rfl (fun hb=>by simp at hb;omega) (fun hb=>aD (sk 7 rfl (kc (aRq x k (hl x (by simp)) hk) ?_)));exact kz 1 rfl (sg rfl (sg rfl (aF rtT)))
theorem jE (l:List Int) (left k:Int) (hk:1≤k) (h:Ok l):∃(i:Nat) (l':List Int),(i:Int)<k∧Ok l'∧aQ Tryz.prog 23 [.one (.vp 700 0),I .i64 k] (mO l left) (I .i64 i) (mO l' left):=by
 obtain⟨i,hi⟩:=Int.eq_ofNat_of_zero_le (aFq l (k:=k) (by omega)).1;have h1:=(aFq l (k:=k) (by omega)).2
 have h2:=aNi l left k hk h;rw[hi] at h1 h2;exact⟨i,_,h1,r9 h k,h2⟩
def tvN:List Str:=[[97],[97,39],[98,39],[99,39]]
theorem a27:∀s∈tvN,s.length≤8:=by decide
inductive GT:Nat→Ty→Prop
 | var (s:Str) (h:s∈tvN):GT 1 (.mk 2 0 s [])
 | con (s:Str) (h:s.length≤8):GT 1 (.mk 3 0 s [])
 | app {m n:Nat} {a b:Ty} (ha:GT m a) (hb:GT n b):GT (m+n+1) (.mk 4 0 [] [a,b])
theorem GT.fn {m n:Nat}{a b:Ty}(ha:GT m a) (hb:GT n b):GT (m+n+3) (bT a b):=by
 have h:=GT.app (GT.app (GT.con arrow (by decide)) ha) hb;rw[show m+n+3=1+m+1+n+1 by omega];exact h
def eU:Ty:=.mk 3 0 [66,111,111,108] []
def tLs (a:Ty):Ty:=.mk 4 0 [] [.mk 3 0 [76] [],a]
def tPr (a b:Ty):Ty:=.mk 4 0 [] [.mk 4 0 [] [.mk 3 0 [80] [],a],b]
inductive TW (V:List Str):Ty→Prop
 | var {s:Str} (h:s∈V):TW V (.mk 2 0 s [])
 | int:TW V fM
 | bool:TW V eU
 | lst {a:Ty} (h:TW V a):TW V (tLs a)
 | pr {a b:Ty} (h1:TW V a) (h2:TW V b):TW V (tPr a b)
 | fn {a b:Ty} (h1:TW V a) (h2:TW V b):TW V (bT a b)
theorem TW.weak {V W:List Str}(hv:∀x∈V,x∈W):∀{t:Ty},TW V t→TW W t:=by
 intro t h
 induction h with
 | var h=>exact .var (hv _ h)
 | int=>exact .int
 | bool=>exact .bool
 | lst _ J=>exact .lst J
 | pr _ _ q I=>exact .pr q I
 | fn _ _ q I=>exact .fn q I
structure GTW (V:List Str) (n:Nat) (t:Ty):Prop where
 g:GT n t
 w:TW V t
theorem gR (s:Str):aQ Tryz.prog 18 [Go.AM.T s] [] (tyV (.mk 3 0 s [])) []:=by
 refine bM (n:=5) tok Tryz.func18 rfl rfl rfl ?_;exact sg rfl (sg rfl (aF ⟨.inr rfl,⟨_,_,.cell rfl (tg rfl) rfl rfl rfl .nil,.cons (.pa (.c .refl (.c .refl (.c .refl (.c .nl .nil))))) .nil,rfl⟩,trivial,rfl⟩))
def sS (x:Str×Ty):List C:=.str x.1::aO x.2
structure Gv where
 l:List (Str×Ty)
 vars:List Str
 deep:Int
def xV (v:Gv):List C:=[.sl 5 (v.l.map sS),.sl 1 (v.vars.map bL),.int .i64 v.deep]
def dF (v:Gv) (s:Str) (t:Ty):Gv:=⟨v.l++[(s,t)],v.vars,v.deep+1⟩
theorem y7 (v:Gv) (s:Str) (t:Ty) (hl:v.l.length≤1000000) (hd:0≤v.deep∧v.deep≤1000000):aQ Tryz.prog 53 [.pa (xV v),Go.AM.T s,tyV t] [] (.pa (xV (dF v s t))) []:=by
 obtain⟨f,n,x,a⟩:=t;obtain⟨L,vs,d⟩:=v;dsimp only at hl hd;refine bM (n:=24) tok Tryz.func53 rfl rfl rfl ?_;refine sg rfl (sg rfl (sgh [(3,.all)] rfl (sg rfl (sg rfl (sg rfl (AWp.sub (Sub.freeze (id:=11) rfl) ?_))))))
 rw[show xV (dF ⟨L,vs,d⟩ s (.mk f n x a))=[.sl 5 (L.map sS++[sS (s,.mk f n x a)]),.sl 1 (vs.map bL),.int .i64 (d+1)] by
  unfold xV dF
  rw[A4];rfl]
 exact aF (rtC trw)
theorem gG (a b:Core):aQ Tryz.prog 54 [.pa (aC a),.pa (aC b)] [] (.pa (aC (.mk 4 0 [] zTy [a,b] [] []))) []:=by
 obtain⟨f,n,s,⟨tf,tn,ts,Z⟩,ks,bs,al⟩:=a;obtain⟨f',n',s',⟨q,I,J,N⟩,O,W,Y⟩:=b;refine bM (n:=9) tok Tryz.func54 rfl rfl rfl ?_;refine sg rfl (sg rfl (AWp.sub (Sub.freeze (id:=7) rfl) ?_));exact aF (rtC trw)
def iB (s:Str) (l:List Ty):Core:=l.foldl (fun c t=>.mk 6 0 [] t [c] [] []) (.mk 2 0 s zTy [] [] [])
theorem oQ (s:Str) (l:List Ty) (hl:l.length≤1000000):aQ Tryz.prog 58 [Go.AM.T s,.one (.c (.sl 4 (l.map aO)))] [] (.pa (aC (iB s l))) []:=by
 refine bM (n:=23) tok Tryz.func58 rfl rfl rfl ?_;refine sg rfl (sg rfl (a8 (sg rfl ?_)));have q:(l.map aO).length=l.length:=θ _;refine AWp.sub (vp 4 (aC aXc)) ?_;refine AWp.sub (vp 5 (aC (iB s []))) ?_;refine aB (aK (fun i:Nat=>mk [(0,Go.AM.T s),(1,.one (.c (.sl 4 (l.map aO)))),(4,.one (.vp 4 0)),(5,.one (.vp 5 0)),(6,I .i64 i)] [(4,.var 34 (b8 aXc)),(5,.var 34 (b8 (iB s (l.take i))))]) (fun i=>i≤l.length) (fun i=>l.length-i) 0 (Aj _) sl ?_);intro i hi;refine a8 (sg rfl (aA rfl (fun hb=>?_) (fun hb=>?_)))
 ·have J:=ltD hb q;obtain⟨t,ht⟩:=aJ J;have ht':=bO aO ht;refine aD ?_;obtain⟨tf,tn,ts,O⟩:=t;refine a8 (aB (ag [(2,.row i (aO (.mk tf tn ts O)))] rfl ?_));have N:iB s (l.take (i+1))=.mk 6 0 [] (.mk tf tn ts O) [iB s (l.take i)] [] []:=by
   unfold iB;rw[Bi,ht,Bu];rfl
  generalize iB s (l.take i)=g at N ⊢;obtain⟨gf,gn,gs,⟨W,Y,Z,aa⟩,gk,gb,ga⟩:=g;refine AWp.sub (Sub.freeze (id:=20) rfl) ?_;refine AWp.sub (vp 5 (aC (.mk 6 0 [] (.mk tf tn ts O) [.mk gf gn gs (.mk W Y Z aa) gk gb ga] [] []))) ?_;refine ag [] rfl ⟨i+1,J,by dsimp only;omega,?_⟩;dsimp only;rw[N];exact sl
 ·have ab:=geD hb q hi;subst ab;rw[As];exact aL (sg rfl (aF (rtC trw)))
theorem uH {f n:Int}{s:Str}{a:List Ty}(hf:¬f=4):aQ Tryz.prog 57 [tyV (.mk f n s a)] [] (.tup [tyV (.mk f n s a),.one (.hs 510 0 0 0)]) [(510,.arr 30 4 [] 2)]:=by
 refine bM (n:=26) tok Tryz.func57 rfl rfl rfl ?_;refine sg rfl (a8 (sg rfl (aA rfl (fun _=>sg rfl (AWp.sub (Sub.own (t:=3) (id:=510) 30 4 rfl rfl) (AWp.sub (Sub.freeze (id:=510) rfl) ?_))) (fun hb=>by simp[Ty.form,hf] at hb))));exact aF ⟨.inr rfl,⟨_,_,.cell rfl (tg rfl) rfl rfl rfl (.tmp rfl .nil),.cons .refl (.cons .refl .nil),rfl⟩,⟨⟨_,rfl,.arr⟩,trivial⟩,rfl⟩
mutual
def spR:Ty→Ty×List Ty
 | .mk f n s a=>if f=4 then((a08 a).1,(a08 a).2++a.drop 1) else(.mk f n s a,[])
def a08:List Ty→Ty×List Ty
 | []=>(.mk 0 0 [] [],[])
 | t::_=>spR t
end
theorem kG (a b:Ty):spR (.mk 4 0 [] [a,b])=((spR a).1,(spR a).2++[b]):=by rw[spR,ξ rfl,a08];rfl
theorem jK (s:Str):spR (.mk 3 0 s [])=(.mk 3 0 s [],[]):=by rw[spR,φ (by decide)]
theorem aSh (s:Str):spR (.mk 2 0 s [])=(.mk 2 0 s [],[]):=by rw[spR,φ (by decide)]
mutual
def txR:Ty→Str
 | .mk f _ s a=>if f=2 then 39::s else if f=3 then s else 40::(txs a).drop 1
def txs:List Ty→Str
 | []=>[41]
 | t::l=>32::(txR t++txs l)
end
theorem uA (a b:Ty):txR (.mk 4 0 [] [a,b])=[40]++txR a++[32]++txR b++[41]:=by rw[txR,φ (by decide),φ (by decide),txs,txs,txs];simp
theorem u9 (s:Str):txR (.mk 3 0 s [])=s:=by rw[txR,φ (by decide),ξ rfl]
theorem pX (s:Str):txR (.mk 2 0 s [])=39::s:=by rw[txR,ξ rfl]
def gdT:Str→Prop
 | []=>True
 | x::_=>x=32∨x=41
theorem aO2 {r:Str}:gdT (41::r):=Or.inr rfl
theorem rM (a:Ty) (r:Str):txR (tLs a)++r=40::76::32::(txR a++41::r):=by unfold tLs;rw[uA,u9];simp
theorem aBy (a b:Ty) (r:Str):txR (tPr a b)++r=40::40::80::32::(txR a++41::32::(txR b++41::r)):=by unfold tPr;rw[uA,uA,u9];simp
theorem aBz (a b:Ty) (r:Str):txR (bT a b)++r=40::40::45::62::32::(txR a++41::32::(txR b++41::r)):=by unfold bT tapp arrow;rw[uA,uA,u9];simp
theorem rN (r:Str):txR fM++r=73::110::116::r:=by unfold fM;rw[u9];rfl
theorem mY (r:Str):txR eU++r=66::111::111::108::r:=by unfold eU;rw[u9];rfl
theorem aXl {s s' r r':Str}(hs:s∈tvN) (I:s'∈tvN) (J:gdT r) (q:gdT r') (h:s++r=s'++r'):s=s'∧r=r':=by
 have h1:s=[97]∨s=[97,39]∨s=[98,39]∨s=[99,39]:=by simpa [tvN] using hs
 have h2:s'=[97]∨s'=[97,39]∨s'=[98,39]∨s'=[99,39]:=by simpa [tvN] using I
 rcases h1 with rfl | rfl | rfl | rfl<;>rcases h2 with rfl | rfl | rfl | rfl<;>(try (simp at h;done))<;>(try (simp at h;exact⟨rfl,h⟩))
 ·have e:r=39::r':=by simpa using h
  rw[e] at J;rcases J with h | h<;>simp at h
 ·have e:39::r=r':=by simpa using h
  rw[←e] at q;rcases q with h | h<;>simp at h
theorem aXk {V W:List Str}(hV:∀x∈V,x∈tvN) (hW:∀x∈W,x∈tvN):∀{a:Ty},TW V a→∀{b:Ty}{r r':Str},TW W b→gdT r→gdT r'→txR a++r=txR b++r'→a=b∧r=r':=by
 intro a ha
 induction ha with
 | @var s hs=>
  intro b r r' hb O q h;rw[pX] at h;cases hb with
  | @var s' I=>
   rw[pX] at h;obtain⟨J,N⟩:=aXl (hV s hs) (hW s' I) O q (by simpa using h);exact⟨by rw[J],N⟩
  | int=>rw[rN] at h;simp at h
  | bool=>rw[mY] at h;simp at h
  | lst h1=>rw[rM] at h;simp at h
  | pr h1 h2=>rw[aBy] at h;simp at h
  | fn h1 h2=>rw[aBz] at h;simp at h
 | int=>
  intro b r r' hb O q h;rw[rN] at h;cases hb with
  | var I=>rw[pX] at h;simp at h
  | int=>rw[rN] at h;exact⟨rfl,by simpa using h⟩
  | bool=>rw[mY] at h;simp at h
  | lst h1=>rw[rM] at h;simp at h
  | pr h1 h2=>rw[aBy] at h;simp at h
  | fn h1 h2=>rw[aBz] at h;simp at h
 | bool=>
  intro b r r' hb O q h;rw[mY] at h;cases hb with
  | var I=>rw[pX] at h;simp at h
  | int=>rw[rN] at h;simp at h
  | bool=>rw[mY] at h;exact⟨rfl,by simpa using h⟩
  | lst h1=>rw[rM] at h;simp at h
  | pr h1 h2=>rw[aBy] at h;simp at h
  | fn h1 h2=>rw[aBz] at h;simp at h
 | lst _ ih=>
  intro b r r' hb O q h;rw[rM] at h;cases hb with
  | var I=>rw[pX] at h;simp at h
  | int=>rw[rN] at h;simp at h
  | bool=>rw[mY] at h;simp at h
  | lst h1=>
   rw[rM] at h;obtain⟨J,N⟩:=ih h1 aO2 aO2 (by simpa using h);exact⟨by rw[J],by simpa using N⟩
  | pr h1 h2=>rw[aBy] at h;simp at h
  | fn h1 h2=>rw[aBz] at h;simp at h
 | pr _ _ Y Z=>
  intro b r r' hb O q h;rw[aBy] at h;cases hb with
  | var I=>rw[pX] at h;simp at h
  | int=>rw[rN] at h;simp at h
  | bool=>rw[mY] at h;simp at h
  | lst h1=>rw[rM] at h;simp at h
  | pr h1 h2=>
   rw[aBy] at h;obtain⟨J,N⟩:=Y h1 aO2 aO2 (List.cons.inj (List.cons.inj (List.cons.inj (List.cons.inj h).2).2).2).2;obtain⟨e3,e4⟩:=Z h2 aO2 aO2 (List.cons.inj (List.cons.inj N).2).2;exact⟨by rw[J,e3],(List.cons.inj e4).2⟩
  | fn h1 h2=>rw[aBz] at h;simp at h
 | fn _ _ Y Z=>
  intro b r r' hb O q h;rw[aBz] at h;cases hb with
  | var I=>rw[pX] at h;simp at h
  | int=>rw[rN] at h;simp at h
  | bool=>rw[mY] at h;simp at h
  | lst h1=>rw[rM] at h;simp at h
  | pr h1 h2=>rw[aBy] at h;simp at h
  | fn h1 h2=>
   rw[aBz] at h;obtain⟨J,N⟩:=Y h1 aO2 aO2 (List.cons.inj (List.cons.inj (List.cons.inj (List.cons.inj (List.cons.inj h).2).2).2).2).2;obtain⟨e3,e4⟩:=Z h2 aO2 aO2 (List.cons.inj (List.cons.inj N).2).2;exact⟨by rw[J,e3],(List.cons.inj e4).2⟩
def GTs:Nat→List Ty→Prop
 | _,[]=>True
 | n,x::l=>∃k m,GT k x∧GTs m l∧k+m+1≤n
theorem GTs.snoc {k:Nat}{b:Ty}(hb:GT k b):∀{l:List Ty}{n:Nat},GTs n l→GTs (n+k+1) (l++[b])
 | [],n,_=>⟨k,0,hb,trivial,by omega⟩
 | x::l,n,h=>by
  obtain⟨j,m,h1,h2,h3⟩:=h;exact⟨j,m+k+1,h1,GTs.snoc hb h2,by omega⟩
theorem aMu {n:Nat}{t:Ty}(h:GT n t) (hn:n≤100000):∃(hd:Ty) (l:List Ty),(GTs (n-1) l∧spR t=(hd,l))∧l.length≤n∧
  aQ Tryz.prog 57 [tyV t] [] (.tup [tyV hd,.one (.hs 510 0 l.length l.length)]) [(510,.arr 30 4 (l.map aO) 2)]:=by
 induction h with
 | var s hs=>exact⟨.mk 2 0 s [],[],⟨trivial,aSh s⟩,by simp,uH (by decide)⟩
 | con s hs=>exact⟨.mk 3 0 s [],[],⟨trivial,jK s⟩,by simp,uH (by decide)⟩
 | @app m n a b ha hb q Y=>
  obtain⟨hd,l,⟨h1,h1'⟩,h2,h3⟩:=q (by omega);have Z:l.length≤100000:=by omega
  have ab:1≤m:=by cases ha<;>omega
  refine⟨hd,l++[b],?_,by rw[τ];simp;omega,?_⟩
  ·have:=GTs.snoc hb h1;rw[show m-1+n+1=m+n+1-1 by omega] at this;exact⟨this,by rw[kG,h1']⟩
  ·obtain⟨ac,ad,ae,ah⟩:=hd;obtain⟨af,an,I,J⟩:=a;obtain⟨N,O,sb,W⟩:=b;refine bM (n:=26) tok Tryz.func57 rfl rfl rfl ?_;refine sg rfl (a8 (sg rfl (aA rfl (fun hb=>by simp[Ty.form] at hb) (fun _=>aD (skh 4 [(2,.row 0 (aO (.mk af an I J)))] rfl (kc h3 ?_))))));refine kz 6 rfl (sgh [(4,.row 1 (aO (.mk N O sb W)))] rfl (AWp.sub (Sub.freeze (id:=510) rfl) ?_));exact aF ⟨.inr rfl,⟨_,_,.cell rfl (tg rfl) rfl rfl rfl (.tmp rfl .nil),.cons .refl (.cons .refl .nil),by rw[θ,τ];rfl⟩,⟨⟨_,rfl,by rw[A4];exact .arr⟩,trivial⟩,rfl⟩
theorem vJ {n:Nat}{t:Ty}(h:GT n t):(∃(m1 m2:Nat) (a b:Ty),GT m1 a∧GT m2 b∧n=m1+m2+3∧t=bT a b∧aQ Tryz.prog 59 [tyV t] [] (B true) [])∨aQ Tryz.prog 59 [tyV t] [] (B false) []:=by
 cases h with
 | var s hs=>
  refine .inr ?_;refine bM (n:=28) tok Tryz.func59 rfl rfl rfl ?_;exact sg rfl (a8 (sg rfl (aA rfl (fun _=>sg rfl (aF rtT)) (fun hb=>by simp[Ty.form] at hb))))
 | con s hs=>
  refine .inr ?_;refine bM (n:=28) tok Tryz.func59 rfl rfl rfl ?_;exact sg rfl (a8 (sg rfl (aA rfl (fun _=>sg rfl (aF rtT)) (fun hb=>by simp[Ty.form] at hb))))
 | @app m k a b ha hb=>
  cases ha with
  | var s hs=>
   refine .inr ?_;refine bM (n:=28) tok Tryz.func59 rfl rfl rfl ?_;exact sg rfl (a8 (sg rfl (aA rfl (fun hb=>by simp[Ty.form] at hb) (fun _=>aD (a8 (sgh [(2,.row 0 (aO (.mk 2 0 s [])))] rfl (aA rfl (fun _=>sg rfl (aF rtT)) (fun hb=>by simp[Ty.form] at hb))))))))
  | con s hs=>
   refine .inr ?_;refine bM (n:=28) tok Tryz.func59 rfl rfl rfl ?_;exact sg rfl (a8 (sg rfl (aA rfl (fun hb=>by simp[Ty.form] at hb) (fun _=>aD (a8 (sgh [(2,.row 0 (aO (.mk 3 0 s [])))] rfl (aA rfl (fun _=>sg rfl (aF rtT)) (fun hb=>by simp[Ty.form] at hb))))))))
  | @app W k' f q hf N=>
   have run:∀r:Bool,(bif decide (f.form=3) then decide (f.name=arrow) else false)=r→aQ Tryz.prog 59 [tyV (.mk 4 0 [] [.mk 4 0 [] [f,q],b])] [] (B r) []:=by
    intro r O;obtain⟨I,fn,fs,J⟩:=f;refine bM (n:=28) tok Tryz.func59 rfl rfl rfl ?_;refine sg rfl (a8 (sg rfl (aA rfl (fun hb=>by simp[Ty.form] at hb) (fun _=>aD (a8 (sgh [(2,.row 0 (aO (.mk 4 0 [] [.mk I fn fs J,q])))] rfl (aA rfl (fun hb=>by simp[Ty.form] at hb) (fun _=>aD (sgh [(2,.row 0 (aO (.mk 4 0 [] [.mk I fn fs J,q]))),(5,.row 0 (aO (.mk I fn fs J)))] rfl (a8 (agF 4 [] rfl rfl rfl ?_)))))))))));subst O;exact aF rtT
   cases hf with
   | var s hs=>exact .inr (run false rfl)
   | con s hs=>
    by_cases h1:s=arrow
    ·subst h1;exact .inl ⟨_,_,q,b,N,hb,by omega,rfl,run true rfl⟩
    ·exact .inr (run false (by simp[Ty.form,Ty.name,h1]))
   | app h1 h2=>exact .inr (run false rfl)
theorem pM {n:Nat}{t:Ty}(h:GT n t) (hn:n≤100000):∃s:Str,(s.length≤16*n∧s=txR t)∧aQ Tryz.prog 29 [tyV t,.one (.c .nl)] [] (Go.AM.T s) []:=by
 have hM:1000000000≤maxLen:=by decide
 induction h with
 | var s hs=>
  have hs:=a27 s hs;refine⟨39::s,⟨by rw[Ak];omega,(pX s).symm⟩,?_⟩;refine bM (n:=91) tok Tryz.func29 rfl rfl rfl ?_;refine sg rfl (a8 (sg rfl (aB (sg rfl (aA rfl (fun hb=>by simp[Ty.form] at hb) (fun _=>sg rfl (aA rfl (fun _=>a8 (sg rfl (aB (aK (fun _:Unit=>mk [(1,.one (.c .nl)),(2,.one (.vp 2 0)),(5,I .i64 (-1))] [(2,.var 30 ((aO (.mk 2 0 s [])).map R.c))]) (fun _=>True) (fun _=>0) () trivial sl ?_)))) (fun hb=>by simp[Ty.form] at hb))))))));intro _ _;refine a8 (sg rfl (aA rfl (fun hb=>by simp at hb) (fun _=>aL (sg rfl ?_ (hc:=by repeat (first | exact trivial | refine⟨by first | rfl | omega | (simp;omega) | (unfold Ty.name;simp;omega) | (simp;done),?_⟩))))));exact aF rtT
 | con s hs=>
  refine⟨s,⟨by omega,(u9 s).symm⟩,?_⟩;refine bM (n:=91) tok Tryz.func29 rfl rfl rfl ?_;exact sg rfl (a8 (sg rfl (aB (sg rfl (aA rfl (fun hb=>by simp[Ty.form] at hb) (fun _=>sg rfl (aA rfl (fun hb=>by simp[Ty.form] at hb) (fun _=>sg rfl (aA rfl (fun _=>sg rfl (aF rtT)) (fun hb=>by simp[Ty.form] at hb))))))))))
 | @app m k a b ha hb q J=>
  obtain⟨s1,⟨h1,N⟩,c1⟩:=q (by omega);obtain⟨s2,⟨h2,O⟩,c2⟩:=J (by omega);refine⟨[40]++s1++[32]++s2++[41],⟨by simp;omega,by rw[uA,N,O]⟩,?_⟩;obtain⟨af,an,W,Y⟩:=a;obtain⟨Z,bn,sb,ba⟩:=b;refine bM (n:=91) tok Tryz.func29 rfl rfl rfl ?_;refine sg rfl (a8 (sg rfl (aB (sg rfl (aA rfl (fun hb=>by simp[Ty.form] at hb) (fun _=>sg rfl (aA rfl (fun hb=>by simp[Ty.form] at hb) (fun _=>sg rfl (aA rfl (fun hb=>by simp[Ty.form] at hb) (fun _=>sg rfl (aA rfl (fun hb=>by simp[Ty.form] at hb) (fun _=>aD (a8 (a8 (agF 4 [] rfl rfl rfl (aA rfl (fun hb=>by simp[Ty.form,gD,dQ] at hb) (fun _=>aD (skh 5 [(2,.row 0 (aO (.mk af an W Y)))] rfl (kc c1 ?_)))))))))))))))))));refine ak 7 [(10,.row 1 (aO (.mk Z bn sb ba)))] rfl ?_ (hc:=by repeat (first | exact trivial | refine⟨by first | rfl | omega | (simp;omega) | (unfold Ty.name;simp;omega) | (simp;done),?_⟩));refine kc c2 ?_;refine ak 3 [] rfl ?_ (hc:=by repeat (first | exact trivial | refine⟨by first | rfl | omega | (simp;omega) | (unfold Ty.name;simp;omega) | (simp;done),?_⟩));exact az (aF rtT)
theorem aZx {n m:Nat}{a b:Ty}(ha:GT n a) (hb:GT m b) (hn:n≤100000) (hm:m≤100000):∃r:Bool,(r=true→∀V W:List Str,(∀x∈V,x∈tvN)→(∀x∈W,x∈tvN)→TW V a→TW W b→a=b)∧aQ Tryz.prog 9 [tyV a,tyV b] [] (B r) []:=by
 obtain⟨s1,⟨h1,q⟩,c1⟩:=pM ha hn;obtain⟨s2,⟨h2,I⟩,c2⟩:=pM hb hm;refine⟨decide (s1=s2),fun h V W hV J ha hb=>?_,?_⟩
 ·have e:txR a++[]=txR b++[]:=by rw[←q,←I,ψ h]
  exact(aXk hV J ha hb (r:=[]) (r':=[]) trivial trivial e).1
 obtain⟨af,an,N,O⟩:=a;obtain⟨Y,Z,sb,ba⟩:=b;refine bM (n:=10) tok Tryz.func9 rfl rfl rfl ?_;refine sg rfl (sk 1 rfl (kc c1 ?_));refine ak 1 [] rfl (kc c2 ?_);exact kz 2 rfl (aF rtT)
theorem aVw (L:List (Str×Ty)) (i:Nat) (hi:i<L.length) (hl:L.length≤1000000):∃r:Bool,(r=true→∀(j:Nat) (x y:Str×Ty),L[i]?=some x→i<j→L[j]?=some y→¬y.1=x.1)∧aQ Tryz.prog 108 [.one (.c (.sl 5 (L.map sS))),I .i64 i] [] (B r) []:=by
 obtain⟨x,hx⟩:=aJ hi;have Y:=bO sS hx;have q:(L.map sS).length=L.length:=θ _;refine⟨@decide (∀(j:Nat) (y:Str×Ty),i<j→L[j]?=some y→¬y.1=x.1) (Classical.propDecidable _),fun h j x' y h0 h1 h2=>?_,?_⟩
 ·rw[hx] at h0;cases h0;exact(@of_decide_eq_true _ (Classical.propDecidable _) h) j y h1 h2
 generalize O: @decide (∀(j:Nat) (y:Str×Ty),i<j→L[j]?=some y→¬y.1=x.1) (Classical.propDecidable _)=r;refine bM (n:=25) tok Tryz.func108 rfl rfl rfl ?_;refine sg rfl (a8 (a8 (agN [] rfl ?_ (hc:=by repeat (first | exact trivial | refine⟨by first | rfl | omega | (simp;omega) | (unfold Ty.name;simp;omega) | (simp;done),?_⟩)))));refine aB (aK (fun k:Nat=>mk [(0,.one (.c (.sl 5 (L.map sS)))),(1,I .i64 i),(4,B false),(5,I .i64 k)] []) (fun k=>i<k∧k≤L.length∧∀(j:Nat) (y:Str×Ty),i<j→j<k→L[j]?=some y→¬y.1=x.1) (fun k=>L.length-k) (i+1) ⟨by omega,by omega,fun j y h1 h2=>by omega⟩ sl ?_);intro k ⟨h1,h2,h3⟩;refine a8 (sg rfl (aA rfl (fun hb=>?_) (fun hb=>?_)))
 ·have J:=ltD hb q;obtain⟨y,N⟩:=aJ J;have Z:=bO sS N;refine aD (a8 (aB (sgh [(2,.row k (sS y)),(7,.row i (sS x))] rfl (aA rfl (fun hb=>?_) (fun hb=>?_)))))
  ·have he:y.1=x.1:=by simpa using hb
   refine sg rfl ?_;have:r=false:=by
    rw[←O];simp only[Cw];exact fun h=>h k y h1 N he
   rw[this];exact aF rtT
  ·have he:¬y.1=x.1:=by simpa using hb
   refine aD (ag [] rfl ⟨k+1,⟨by omega,J,fun j z g1 g2 g3=>?_⟩,by dsimp only;omega,sl⟩);by_cases W:j=k
   ·rw[W,N,Option.some.injEq] at g3;rw[←g3];exact he
   ·exact h3 j z g1 (by omega) g3
 ·have aa:=geD hb q h2;refine aL (sg rfl ?_);have:r=true:=by
   rw[←O];simp only[decide_eq_true_eq];exact fun j y g1 g2=>h3 j y g1 (by have:=(Aa.1 g2).1;omega) g2
  rw[this];exact aF rtT
theorem aGl (l:List Int) (left:Int) (v:Gv) (h:Ok l):∃(s:Str) (l':List Int),s∈nmL∧Ok l'∧aQ Tryz.prog 52 [.one (.vp 700 0),.pa (xV v)] (mO l left) (Go.AM.T s) (mO l' left):=by
 obtain⟨i,l',hi,q,hc⟩:=jE l left 5 (by decide) h;have hi:i<5:=by omega
 obtain⟨s,hs⟩:∃s,([[120],[121],[122,64,49],[97],[98]]:List Str)[i]?=some s:=aJ (by simpa using hi);have I:=bO bL hs;refine⟨s,l',?_,q,?_⟩
 ·have:i=0∨i=1∨i=2∨i=3∨i=4:=by omega
  rcases this with rfl | rfl | rfl | rfl | rfl<;>(simp at hs;subst hs;decide)
 ·refine bM (n:=10) tok Tryz.func52 rfl rfl rfl ?_;refine sg rfl (sk 2 rfl (kc hc ?_));exact ak 3 [(3,.row i []),(4,.row i (bL s))] rfl (az (aF rtT))
def a1p (l:List Str):V:=.one (.c (.sl 1 (l.map bL)))
def Sh8 (l:List Str):Prop:=∀s∈l,s∈tvN
def tsz:Nat→Nat
 | 0=>1
 | f+1=>2*tsz f+3
def aWy (vars:List Str) (dp:Int) (m:Nat):Prop:=∀(l:List Int) (left:Int),Ok l→
  ∃(t:Ty) (l':List Int) (n:Nat),GTW vars n t∧n≤m∧Ok l'∧aQ Tryz.prog 22 [.one (.vp 700 0),a1p vars,I .i64 dp] (mO l left) (tyV t) (mO l' left)
theorem GT.nm {s:Str}(h:s.length≤8):GT 1 (.mk 3 0 s []):=.con s h
theorem aEa (vars:List Str) (hv:Sh8 vars) (hvl:vars.length≤1000000) (q:Int) (h0:0≤q) (hd3:q≤3) (m M:Nat) (h1:1≤M) (hM:q≤2→2*m+3≤M) (ih:q≤2→aWy vars (q+1) m):aWy vars q M:=by
 intro l left h;obtain⟨i,l1,hi,N,hc⟩:=jE l left 8 (by decide) h;have hi:i<8:=by omega
 have hvk:(vars.map bL).length=vars.length:=θ _;by_cases hA:5<i∧0<vars.length
 ·obtain⟨j,W,hj,I,hc2⟩:=jE l1 left vars.length (by omega) N;have hj:j<vars.length:=by omega
  obtain⟨x,hx⟩:=aJ hj;have hx':=bO bL hx;refine⟨.mk 2 0 x [],W,1,⟨.var x (hv x (Ab hx)),.var (Ab hx)⟩,by omega,I,?_⟩;refine bM (n:=68) tok Tryz.func22 rfl rfl rfl ?_;refine sg rfl (sk 1 rfl (kc hc ?_));refine kz 1 rfl (a8 (a8 (agF 3 [] rfl rfl rfl ?_)));have g1:(5:Int)<i:=by omega
  have g2:(0:Int)<((vars.map bL).length:Nat):=by omega
  refine aA rfl (fun _=>sk 4 rfl ?_) (fun hb=>by rw[Ah g1,Ah g2] at hb;cases hb);rw[←hvk] at hc2;refine kc hc2 ?_;exact ak 4 [(5,.row j (bL x))] rfl (az (aF (rtC trw)))
 ·by_cases hB:i<3∨2<q
  ·have O:∃(k:Nat) (t:Ty),k<2∧(i:Int)%2=k∧GTW vars 1 t∧[aO fM,aO eU][k]?=some (aO t):=by
    have:i%2=0∨i%2=1:=by omega
    rcases this with e | e
    ·exact⟨0,fM,by omega,by omega,⟨.con _ (by decide),.int⟩,rfl⟩
    ·exact⟨1,eU,by omega,by omega,⟨.con _ (by decide),.bool⟩,rfl⟩
   obtain⟨k,t,hk,hik,ht,O⟩:=O;refine⟨t,l1,1,ht,by omega,N,?_⟩;obtain⟨tf,tn,ts,ta⟩:=t;refine bM (n:=68) tok Tryz.func22 rfl rfl rfl ?_;refine sg rfl (sk 1 rfl (kc hc ?_));refine kz 1 rfl (a8 (a8 (agF 3 [] rfl rfl rfl (aA rfl (fun hb=>by simp at hb;omega) (fun _=>aD (a8 (a8 (agF 3 [] rfl rfl rfl (aA rfl (fun _=>a8 (aE mixed (kc (gR [73,110,116]) ?_))) (fun hb=>by simp at hb;omega))))))))));refine kc (gR [66,111,111,108]) ?_;exact ak 6 [(5,.row k []),(6,.row k (aO (.mk tf tn ts ta)))] rfl (az (aF (rtC trw)))
  ·have hM:=hM (by omega);obtain⟨⟨af,an,Y,Z⟩,W,na,J,hna,I,ca⟩:=ih (by omega) l1 left N;by_cases hC:i=3
   ·refine⟨.mk 4 0 [] [.mk 3 0 [76] [],.mk af an Y Z],W,1+na+1,⟨.app (.nm (by decide)) J.g,.lst J.w⟩,by omega,I,?_⟩;refine bM (n:=68) tok Tryz.func22 rfl rfl rfl ?_;refine sg rfl (sk 1 rfl (kc hc ?_));refine kz 1 rfl (a8 (a8 (agF 3 [] rfl rfl rfl (aA rfl (fun hb=>by simp at hb;omega) (fun _=>aD (a8 (a8 (agF 3 [] rfl rfl rfl (aA rfl (fun hb=>by simp at hb;omega) (fun _=>aD (sk 4 rfl ?_ (hc:=by repeat (first | exact trivial | refine⟨by first | rfl | omega | (simp;omega) | (unfold Ty.name;simp;omega) | (simp;done),?_⟩)))))))))))));refine kc ca ?_;refine kz 2 rfl (a8 (sg rfl (aA rfl (fun _=>a8 (aE mixed (kc (gR [76]) ?_))) (fun hb=>by simp at hb;omega))));refine kz 4 rfl (AWp.sub (Sub.freeze (id:=49) rfl) ?_);exact aF (rtC trw)
   ·obtain⟨⟨bf,bn,sb,ba⟩,l3,nb,gb,hnb,hl3,cb⟩:=ih (by omega) W left I;by_cases hD:i=4
    ·refine⟨bT (.mk af an Y Z) (.mk bf bn sb ba),l3,na+nb+3,⟨J.g.fn gb.g,.fn J.w gb.w⟩,by omega,hl3,?_⟩;refine bM (n:=68) tok Tryz.func22 rfl rfl rfl ?_;refine sg rfl (sk 1 rfl (kc hc ?_));refine kz 1 rfl (a8 (a8 (agF 3 [] rfl rfl rfl (aA rfl (fun hb=>by simp at hb;omega) (fun _=>aD (a8 (a8 (agF 3 [] rfl rfl rfl (aA rfl (fun hb=>by simp at hb;omega) (fun _=>aD (sk 4 rfl ?_ (hc:=by repeat (first | exact trivial | refine⟨by first | rfl | omega | (simp;omega) | (unfold Ty.name;simp;omega) | (simp;done),?_⟩)))))))))))));refine kc ca ?_;refine kz 2 rfl (a8 (sg rfl (aA rfl (fun hb=>by simp at hb;omega) (fun _=>aD (sk 4 rfl ?_ (hc:=by repeat (first | exact trivial | refine⟨by first | rfl | omega | (simp;omega) | (unfold Ty.name;simp;omega) | (simp;done),?_⟩)))))));refine kc cb ?_;refine kz 2 rfl (a8 (sg rfl (aA rfl (fun _=>sk 2 rfl (kc (tZ (.mk af an Y Z) (.mk bf bn sb ba)) ?_)) (fun hb=>by simp at hb;omega))));exact kz 1 rfl (aF (rtC trw))
    ·refine⟨.mk 4 0 [] [.mk 4 0 [] [.mk 3 0 [80] [],.mk af an Y Z],.mk bf bn sb ba],l3,1+na+1+nb+1,⟨.app (.app (.nm (by decide)) J.g) gb.g,.pr J.w gb.w⟩,by omega,hl3,?_⟩;refine bM (n:=68) tok Tryz.func22 rfl rfl rfl ?_;refine sg rfl (sk 1 rfl (kc hc ?_));refine kz 1 rfl (a8 (a8 (agF 3 [] rfl rfl rfl (aA rfl (fun hb=>by simp at hb;omega) (fun _=>aD (a8 (a8 (agF 3 [] rfl rfl rfl (aA rfl (fun hb=>by simp at hb;omega) (fun _=>aD (sk 4 rfl ?_ (hc:=by repeat (first | exact trivial | refine⟨by first | rfl | omega | (simp;omega) | (unfold Ty.name;simp;omega) | (simp;done),?_⟩)))))))))))));refine kc ca ?_;refine kz 2 rfl (a8 (sg rfl (aA rfl (fun hb=>by simp at hb;omega) (fun _=>aD (sk 4 rfl ?_ (hc:=by repeat (first | exact trivial | refine⟨by first | rfl | omega | (simp;omega) | (unfold Ty.name;simp;omega) | (simp;done),?_⟩)))))));refine kc cb ?_;refine kz 2 rfl (a8 (sg rfl (aA rfl (fun hb=>by simp at hb;omega) (fun _=>aD (a8 (aE mixed (kc (gR [80]) ?_)))))));exact ak 7 [(2,.all),(5,.all)] rfl (az (aF (rtC trw)))
theorem aJd:∀f,1≤tsz f
 | 0=>le_refl _
 | f+1=>by rw[tsz];omega
theorem xX (vars:List Str) (hv:Sh8 vars) (I:vars.length≤1000000):∀(f:Nat) (q:Int),q+f=3→0≤q→aWy vars q (tsz f)
 | 0,q,hd,h0=>aEa vars hv I q h0 (by omega) 0 (tsz 0) (aJd 0) (fun h=>by omega) (fun h=>by omega)
 | f+1,q,hd,h0=>aEa vars hv I q h0 (by omega) (tsz f) (tsz (f+1)) (aJd _) (fun _=>le_refl _) (fun _=>xX vars hv I f (q+1) (by omega) (by omega))
section
variable {a:Str}{u:Ty}
theorem uD (x y:Ty):bP (.mk 4 0 [] [x,y]) [(a,u)]=.mk 4 0 [] [bP x [(a,u)],bP y [(a,u)]]:=by rw[bP,φ (by decide),ξ rfl,dX,dX,dX]
theorem uC (s:Str):bP (.mk 3 0 s []) [(a,u)]=.mk 3 0 s []:=by rw[bP,φ (by decide),φ (by decide),φ (by decide)]
theorem mR (x y:Ty):bP (bT x y) [(a,u)]=bT (bP x [(a,u)]) (bP y [(a,u)]):=by
 unfold bT tapp;rw[uD,uD,uC]
theorem pZ (x:Ty):bP (tLs x) [(a,u)]=tLs (bP x [(a,u)]):=by unfold tLs;rw[uD,uC]
theorem aPc (x y:Ty):bP (tPr x y) [(a,u)]=tPr (bP x [(a,u)]) (bP y [(a,u)]):=by unfold tPr;rw[uD,uD,uC]
theorem uB:bP fM [(a,u)]=fM:=uC _
theorem rO:bP eU [(a,u)]=eU:=uC _
theorem pY (s:Str):bP (vT s) [(a,u)]=if a=s then u else vT s:=by
 unfold vT;rw[bP,ξ rfl,Cp];by_cases h:a=s
 ·rw[ξ h,Ah h]
 ·rw[φ h,Am h];rfl
def rmV (V:List Str) (a:Str):List Str:=V.filter fun x=>decide (¬x=a)
theorem pB {V:List Str}{x:Str}:x∈rmV V a↔x∈V∧¬x=a:=by unfold rmV;simp
theorem TW.sub0 {V:List Str}(hu:TW [] u):∀{t:Ty},TW V t→TW (rmV V a) (bP t [(a,u)]):=by
 intro t h
 induction h with
 | @var s h=>
  show TW (rmV V a) (bP (vT s) [(a,u)]);rw[pY];by_cases e:a=s
  ·rw[ξ e];exact hu.weak fun x hx=>by cases hx
  ·rw[φ e];exact .var (pB.2 ⟨h,fun e'=>e e'.symm⟩)
 | int=>rw[uB];exact .int
 | bool=>rw[rO];exact .bool
 | lst _ J=>rw[pZ];exact .lst J
 | pr _ _ q I=>rw[aPc];exact .pr q I
 | fn _ _ q I=>rw[mR];exact .fn q I
theorem TW.sub {V:List Str}{t:Ty}(h:TW V t) (hu:TW [] u):TW (rmV V a) (bP t [(a,u)]):=TW.sub0 hu h
theorem TW.id {V:List Str}(ha:¬a∈V):∀{t:Ty},TW V t→bP t [(a,u)]=t:=by
 intro t h
 induction h with
 | @var s h=>show bP (vT s) [(a,u)]=vT s;rw[pY,φ fun e=>ha (by rw[e];exact h)]
 | int=>exact uB
 | bool=>exact rO
 | lst _ J=>rw[pZ,J]
 | pr _ _ q I=>rw[aPc,q,I]
 | fn _ _ q I=>rw[mR,q,I]
theorem uF {x y:Ty}{z:Str}:z∈tfR (.mk 4 0 [] [x,y])→z∈tfR x∨z∈tfR y:=fun h=>by
 obtain⟨w,hw,q,_⟩:=qB (by decide) h;rcases Ai.1 hw with rfl | hw
 ·exact .inl q
 ·rw[ζ.1 hw] at q;exact .inr q
theorem uE {s z:Str}:¬z∈tfR (.mk 3 0 s []):=fun h=>by
 obtain⟨w,hw,_⟩:=qB (by decide) h;cases hw
theorem TW.tf {V:List Str}:∀{t:Ty},TW V t→∀x∈tfR t,x∈V:=by
 intro t h
 induction h with
 | @var s h=>intro x hx;have hx:x∈tfR (vT s):=hx;rw[tT,ζ] at hx;rw[hx];exact h
 | int=>exact fun x hx=>absurd hx uE
 | bool=>exact fun x hx=>absurd hx uE
 | lst _ J=>exact fun x hx=>(uF hx).elim (fun h=>absurd h uE) (J x)
 | pr _ _ q I=>exact fun x hx=>(uF hx).elim (fun h=>(uF h).elim (fun h=>absurd h uE) (q x)) (I x)
 | fn _ _ q I=>exact fun x hx=>(uF hx).elim (fun h=>(uF h).elim (fun h=>absurd h uE) (q x)) (I x)
theorem aFp {l:List Str}(h:∀x∈l,x∈([]:List Str)):l=[]:=by
 cases l with
 | nil=>rfl
 | cons x l=>exact absurd (h x η) (by simp)
theorem TW.closed {t:Ty}(h:TW [] t):tfR t=[]:=aFp h.tf
end
abbrev Env:Type:=Str→Option Ty
def upd (Γ:Env) (s:Str) (u:Ty):Env:=fun y=>if y=s then some u else Γ y
def rmE (Γ:Env) (x:Str):Env:=fun y=>if y=x then none else Γ y
noncomputable def tsE (Γ:Env) (a:Str) (u:Ty):Env:=fun y=>(Γ y).map fun t=>bP t [(a,u)]
def e0:Env:=fun _=>none
def opI:List Str:=[aBo,aW5,aUz,aO0]
def opB:List Str:=[nEq,nLt]
inductive WT:List Str→Env→Core→Ty→Prop
 | var {V:List Str} {Γ:Env} {s:Str} {t:Ty} (h:Γ s=some t):WT V Γ (vC s) t
 | int {V:List Str} {Γ:Env} {n:Int}:WT V Γ (gN n) fM
 | bool {V:List Str} {Γ:Env} {b:Bool}:WT V Γ (aB1 b) eU
 | nil {V:List Str} {Γ:Env} {u:Ty} (h:TW V u):WT V Γ (.mk 6 0 [] u [tO [78]] [] []) (tLs u)
 | cons {V:List Str} {Γ:Env} {u:Ty} (h:TW V u):WT V Γ (.mk 6 0 [] u [tO [67]] [] []) (bT u (bT (tLs u) (tLs u)))
 | pair {V:List Str} {Γ:Env} {u w:Ty} (h1:TW V u) (h2:TW V w):WT V Γ (.mk 6 0 [] w [.mk 6 0 [] u [tO [80]] [] []] [] []) (bT u (bT w (tPr u w)))
 | app {V:List Str} {Γ:Env} {f a:Core} {u t:Ty} (hf:WT V Γ f (bT u t)) (ha:WT V Γ a u):WT V Γ (.mk 4 0 [] zTy [f,a] [] []) t
 | lam {V:List Str} {Γ:Env} {s:Str} {b:Core} {u t:Ty} (hu:TW V u) (hb:WT V (upd Γ s u) b t):WT V Γ (.mk 5 0 s u [b] [] []) (bT u t)
 | tt {V W:List Str} {Γ Δ:Env} {s p:Str} {b:Core} {u t:Ty} (hV:∀x∈W,x∈V) (hΓ:∀x w,Δ x=some w→Γ x=some w∧TW W w) (hs:¬s∈W) (ht:TW W t) (hu:TW V u)
   (hb:WT (s::W) (upd Δ p (vT s)) b t):WT V Γ (.mk 6 0 [] u [.mk 7 0 s zTy [.mk 5 0 p (vT s) [b] [] []] [] []] [] []) (bT u t)
 | lt {V:List Str} {Γ:Env} {s:Str} {b c:Core} {u t:Ty} (hu:TW V u) (hb:WT V (upd Γ s u) b u) (hc:WT V (upd Γ s u) c t):WT V Γ (.mk 8 0 [] zTy [c] [.mk s u b] []) t
 | cbool {V:List Str} {Γ:Env} {c a b:Core} {t:Ty} (ht:TW V t) (hc:WT V Γ c eU) (ha:WT V Γ a t) (hb:WT V Γ b t):WT V Γ (.mk 9 0 [] t [c] [] [.mk 1 0 [84,114,117,101] [] a,.mk 1 0 [70,97,108,115,101] [] b]) t
 | cint {V:List Str} {Γ:Env} {n:Int} {c a b:Core} {t:Ty} (ht:TW V t) (hc:WT V Γ c fM) (ha:WT V Γ a t) (hb:WT V Γ b t):WT V Γ (.mk 9 0 [] t [c] [] [.mk 2 n [] [] a,.mk 3 0 [] [] b]) t
 | cl1 {V:List Str} {Γ:Env} {x y:Str} {c a:Core} {u t:Ty} (hxy:¬x=y) (ht:TW V t) (hc:WT V Γ c (tLs u)) (ha:WT V (upd (upd Γ x u) y (tLs u)) a t):WT V Γ (.mk 9 0 [] t [c] [] [.mk 1 0 [67] [x,y] a]) t
 | cl2 {V:List Str} {Γ:Env} {x y:Str} {c a b:Core} {u t:Ty} (hxy:¬x=y) (ht:TW V t) (hc:WT V Γ c (tLs u)) (ha:WT V (upd (upd Γ x u) y (tLs u)) a t) (hb:WT V Γ b t):WT V Γ (.mk 9 0 [] t [c] [] [.mk 1 0 [67] [x,y] a,.mk 1 0 [78] [] b]) t
 | cp {V:List Str} {Γ:Env} {x y:Str} {c a:Core} {u w t:Ty} (hxy:¬x=y) (ht:TW V t) (hc:WT V Γ c (tPr u w)) (ha:WT V (upd (upd Γ x u) y w) a t):WT V Γ (.mk 9 0 [] t [c] [] [.mk 1 0 [80] [x,y] a]) t
 | pint {V:List Str} {Γ:Env} {s:Str} {a b:Core} (hs:s∈opI) (ha:WT V Γ a fM) (hb:WT V Γ b fM):WT V Γ (.mk 10 0 s zTy [a,b] [] []) fM
 | pbool {V:List Str} {Γ:Env} {s:Str} {a b:Core} (hs:s∈opB) (ha:WT V Γ a fM) (hb:WT V Γ b fM):WT V Γ (.mk 10 0 s zTy [a,b] [] []) eU
 | fail {V:List Str} {Γ:Env} {t:Ty} (ht:TW V t):WT V Γ (.mk 11 0 [] t [] [] []) t
theorem iH {Γ Δ:Env}(h:∀x w,Γ x=some w→Δ x=some w) (s:Str) (u:Ty):∀x w,upd Γ s u x=some w→upd Δ s u x=some w:=fun x w hx=>by
 unfold upd at hx ⊢;split at hx
 ·rename_i e;rw[ξ e];exact hx
 ·rename_i e;rw[φ e];exact h x w hx
theorem WT.weak {V:List Str}{Γ:Env}{c:Core}{t:Ty}(h:WT V Γ c t):∀{V':List Str}{Γ':Env},(∀x∈V,x∈V')→(∀x w,Γ x=some w→Γ' x=some w)→WT V' Γ' c t:=by
 induction h with
 | var h=>exact fun _ q=>.var (q _ _ h)
 | int=>exact fun _ _=>.int
 | bool=>exact fun _ _=>.bool
 | nil h=>exact fun hv _=>.nil (h.weak hv)
 | cons h=>exact fun hv _=>.cons (h.weak hv)
 | pair h1 h2=>exact fun hv _=>.pair (h1.weak hv) (h2.weak hv)
 | app _ _ I J=>exact fun hv q=>.app (I hv q) (J hv q)
 | lam hu _ O=>exact fun hv q=>.lam (hu.weak hv) (O hv (iH q _ _))
 | tt h1 h2 h3 h4 h5 W _=>exact fun hv q=>.tt (fun x hx=>hv x (h1 x hx)) (fun x w hx=>⟨q x w (h2 x w hx).1,(h2 x w hx).2⟩) h3 h4 (h5.weak hv) W
 | lt hu _ _ I J=>exact fun hv q=>.lt (hu.weak hv) (I hv (iH q _ _)) (J hv (iH q _ _))
 | cbool ht _ _ _ I J N=>exact fun hv q=>.cbool (ht.weak hv) (I hv q) (J hv q) (N hv q)
 | cint ht _ _ _ I J N=>exact fun hv q=>.cint (ht.weak hv) (I hv q) (J hv q) (N hv q)
 | cl1 hxy ht _ _ I J=>exact fun hv q=>.cl1 hxy (ht.weak hv) (I hv q) (J hv (iH (iH q _ _) _ _))
 | cl2 hxy ht _ _ _ I J N=>exact fun hv q=>.cl2 hxy (ht.weak hv) (I hv q) (J hv (iH (iH q _ _) _ _)) (N hv q)
 | cp hxy ht _ _ I J=>exact fun hv q=>.cp hxy (ht.weak hv) (I hv q) (J hv (iH (iH q _ _) _ _))
 | pint hs _ _ I J=>exact fun hv q=>.pint hs (I hv q) (J hv q)
 | pbool hs _ _ I J=>exact fun hv q=>.pbool hs (I hv q) (J hv q)
 | fail ht=>exact fun hv _=>.fail (ht.weak hv)
theorem WT.closed {c:Core}{t:Ty}(h:WT [] e0 c t) {V:List Str}{Γ:Env}:WT V Γ c t:=h.weak (fun x hx=>by cases hx) fun x w hx=>by cases hx
theorem aS {Γ:Env}{s x:Str}{u:Ty}(h:¬x=s):upd Γ s u x=Γ x:=by unfold upd;rw[φ h]
theorem WT.free {V:List Str}{Γ:Env}{c:Core}{t:Ty}(h:WT V Γ c t):∀x∈pfR c,¬Γ x=none:=by
 induction h with
 | @var V Γ s t h=>intro x hx;rw[aYv,ζ] at hx;rw[hx,h];simp
 | int=>intro x hx;cases hx
 | bool=>intro x hx;cases hx
 | nil h=>intro x hx;cases hx
 | cons h=>intro x hx;cases hx
 | pair h1 h2=>intro x hx;cases hx
 | app _ _ J N=>
  intro x hx;rcases(dU (by decide)).1 hx with⟨p,hp,I,_⟩ | ⟨a,ha,_⟩
  ·rcases δ.1 hp with hp | hp
   ·rcases Ai.1 hp with rfl | hp
    ·exact J x I
    ·rw[ζ.1 hp] at I;exact N x I
   ·cases hp
  ·cases ha
 | lam hu _ ih=>
  intro x hx;rcases(dU (by decide)).1 hx with⟨p,hp,I,Z⟩ | ⟨a,ha,_⟩
  ·rcases δ.1 hp with hp | hp
   ·rw[ζ.1 hp] at I;have:=ih x I;rwa [aS (fun e=>Z (by rw[e];simp[gvN]))] at this
   ·cases hp
  ·cases ha
 | @tt V W Γ Δ s p b u t h1 h2 h3 h4 h5 h6 ih=>
  intro x hx;rcases(dU (by decide)).1 hx with⟨q,hp,I,_⟩ | ⟨a,ha,_⟩
  ·rcases δ.1 hp with hp | hp
   ·rw[ζ.1 hp] at I;rcases(dU (by decide)).1 I with⟨q,hp,I,_⟩ | ⟨a,ha,_⟩
    ·rcases δ.1 hp with hp | hp
     ·rw[ζ.1 hp] at I;rcases(dU (by decide)).1 I with⟨q,hp,I,Z⟩ | ⟨a,ha,_⟩
      ·rcases δ.1 hp with hp | hp
       ·rw[ζ.1 hp] at I;have:=ih x I;rw[aS (fun e=>Z (by rw[e];simp[gvN]))] at this;intro e;cases hd:Δ x with
        | none=>exact this hd
        | some w=>rw[(h2 x w hd).1] at e;cases e
       ·cases hp
      ·cases ha
     ·cases hp
    ·cases ha
   ·cases hp
  ·cases ha
 | @lt V Γ s b c u t hu _ _ J N=>
  intro x hx;rcases(dU (by decide)).1 hx with⟨p,hp,I,Z⟩ | ⟨a,ha,_⟩
  ·have aa:¬x=s:=fun e=>Z (by rw[e];simp[gvN,Bind.name])
   rcases δ.1 hp with hp | hp
   ·rw[ζ.1 hp] at I;have:=N x I;rwa [aS aa] at this
   ·rw[ζ.1 hp] at I;have:=J x I;rwa [aS aa] at this
  ·cases ha
 | cbool ht _ _ _ J N Y=>
  intro x hx;rcases(dU (by decide)).1 hx with⟨p,hp,I,_⟩ | ⟨a,ha,O,_⟩
  ·rcases δ.1 hp with hp | hp
   ·rw[ζ.1 hp] at I;exact J x I
   ·cases hp
  ·rcases Ai.1 ha with rfl | ha
   ·exact N x O
   ·rw[ζ.1 ha] at O;exact Y x O
 | cint ht _ _ _ J N Y=>
  intro x hx;rcases(dU (by decide)).1 hx with⟨p,hp,I,_⟩ | ⟨a,ha,O,_⟩
  ·rcases δ.1 hp with hp | hp
   ·rw[ζ.1 hp] at I;exact J x I
   ·cases hp
  ·rcases Ai.1 ha with rfl | ha
   ·exact N x O
   ·rw[ζ.1 ha] at O;exact Y x O
 | cl1 hxy ht _ _ J N=>
  intro x hx;rcases(dU (by decide)).1 hx with⟨p,hp,I,_⟩ | ⟨a,ha,O,hv⟩
  ·rcases δ.1 hp with hp | hp
   ·rw[ζ.1 hp] at I;exact J x I
   ·cases hp
  ·rw[ζ.1 ha] at O hv;have:=N x O;rwa [aS (fun e=>hv (by rw[e];simp[Alt.vars])),aS (fun e=>hv (by rw[e];simp[Alt.vars]))] at this
 | cl2 hxy ht _ _ _ J N Y=>
  intro x hx;rcases(dU (by decide)).1 hx with⟨p,hp,I,_⟩ | ⟨a,ha,O,hv⟩
  ·rcases δ.1 hp with hp | hp
   ·rw[ζ.1 hp] at I;exact J x I
   ·cases hp
  ·rcases Ai.1 ha with rfl | ha
   ·have:=N x O;rwa [aS (fun e=>hv (by rw[e];simp[Alt.vars])),aS (fun e=>hv (by rw[e];simp[Alt.vars]))] at this
   ·rw[ζ.1 ha] at O;exact Y x O
 | cp hxy ht _ _ J N=>
  intro x hx;rcases(dU (by decide)).1 hx with⟨p,hp,I,_⟩ | ⟨a,ha,O,hv⟩
  ·rcases δ.1 hp with hp | hp
   ·rw[ζ.1 hp] at I;exact J x I
   ·cases hp
  ·rw[ζ.1 ha] at O hv;have:=N x O;rwa [aS (fun e=>hv (by rw[e];simp[Alt.vars])),aS (fun e=>hv (by rw[e];simp[Alt.vars]))] at this
 | pint hs _ _ J N=>
  intro x hx;rcases(dU (by decide)).1 hx with⟨p,hp,I,_⟩ | ⟨a,ha,_⟩
  ·rcases δ.1 hp with hp | hp
   ·rcases Ai.1 hp with rfl | hp
    ·exact J x I
    ·rw[ζ.1 hp] at I;exact N x I
   ·cases hp
  ·cases ha
 | pbool hs _ _ J N=>
  intro x hx;rcases(dU (by decide)).1 hx with⟨p,hp,I,_⟩ | ⟨a,ha,_⟩
  ·rcases δ.1 hp with hp | hp
   ·rcases Ai.1 hp with rfl | hp
    ·exact J x I
    ·rw[ζ.1 hp] at I;exact N x I
   ·cases hp
  ·cases ha
 | fail ht=>intro x hx;cases hx
theorem WT.pf {c:Core}{t:Ty}(h:WT [] e0 c t):pfR c=[]:=aFp fun x hx=>absurd rfl (h.free x hx)
theorem a3l:tfR zTy=[]:=rfl
theorem WT.types {V:List Str}{Γ:Env}{c:Core}{t:Ty}(h:WT V Γ c t):∀x∈tyR c,x∈V:=by
 have z:∀{x:Str},¬x∈tfR zTy:=fun h=>by rw[a3l] at h;cases h
 induction h with
 | var h=>intro x hx;cases hx
 | int=>intro x hx;cases hx
 | bool=>intro x hx;cases hx
 | nil h=>
  intro x hx;rcases bC.1 hx with q | ⟨k,hk,q,_⟩ | ⟨k,hk,_⟩ | ⟨k,hk,_⟩
  ·exact h.tf x q
  ·rw[ζ.1 hk] at q;cases q
  ·cases hk
  ·cases hk
 | cons h=>
  intro x hx;rcases bC.1 hx with q | ⟨k,hk,q,_⟩ | ⟨k,hk,_⟩ | ⟨k,hk,_⟩
  ·exact h.tf x q
  ·rw[ζ.1 hk] at q;cases q
  ·cases hk
  ·cases hk
 | pair h1 h2=>
  intro x hx;rcases bC.1 hx with q | ⟨k,hk,q,_⟩ | ⟨k,hk,_⟩ | ⟨k,hk,_⟩
  ·exact h2.tf x q
  ·rw[ζ.1 hk] at q;rcases bC.1 q with q | ⟨k,hk,q,_⟩ | ⟨k,hk,_⟩ | ⟨k,hk,_⟩
   ·exact h1.tf x q
   ·rw[ζ.1 hk] at q;cases q
   ·cases hk
   ·cases hk
  ·cases hk
  ·cases hk
 | app _ _ I J=>
  intro x hx;rcases bC.1 hx with q | ⟨k,hk,q,_⟩ | ⟨k,hk,_⟩ | ⟨k,hk,_⟩
  ·exact absurd q z
  ·rcases Ai.1 hk with rfl | hk
   ·exact I x q
   ·rw[ζ.1 hk] at q;exact J x q
  ·cases hk
  ·cases hk
 | lam hu _ O=>
  intro x hx;rcases bC.1 hx with q | ⟨k,hk,q,_⟩ | ⟨k,hk,_⟩ | ⟨k,hk,_⟩
  ·exact hu.tf x q
  ·rw[ζ.1 hk] at q;exact O x q
  ·cases hk
  ·cases hk
 | @tt V W Γ Δ s p b u t h1 h2 h3 h4 h5 Y O=>
  intro x hx;rcases bC.1 hx with q | ⟨k,hk,q,_⟩ | ⟨k,hk,_⟩ | ⟨k,hk,_⟩
  ·exact h5.tf x q
  ·rw[ζ.1 hk] at q;rcases bC.1 q with q | ⟨k,hk,q,hs⟩ | ⟨k,hk,_⟩ | ⟨k,hk,_⟩
   ·exact absurd q z
   ·have hs:=hs.resolve_left (fun e=>e rfl);rw[ζ.1 hk] at q;rcases bC.1 q with q | ⟨k,hk,q,_⟩ | ⟨k,hk,_⟩ | ⟨k,hk,_⟩
    ·rw[tT,ζ] at q;exact absurd q hs
    ·rw[ζ.1 hk] at q;exact h1 x ((Ai.1 (O x q)).resolve_left hs)
    ·cases hk
    ·cases hk
   ·cases hk
   ·cases hk
  ·cases hk
  ·cases hk
 | lt hu _ _ I J=>
  intro x hx;rcases bC.1 hx with q | ⟨k,hk,q,_⟩ | ⟨k,hk,q | q⟩ | ⟨k,hk,_⟩
  ·exact absurd q z
  ·rw[ζ.1 hk] at q;exact J x q
  ·rw[ζ.1 hk] at q;exact hu.tf x q
  ·rw[ζ.1 hk] at q;exact I x q
  ·cases hk
 | cbool ht _ _ _ I J N=>
  intro x hx;rcases bC.1 hx with q | ⟨k,hk,q,_⟩ | ⟨k,hk,_⟩ | ⟨k,hk,q⟩
  ·exact ht.tf x q
  ·rw[ζ.1 hk] at q;exact I x q
  ·cases hk
  ·rcases Ai.1 hk with rfl | hk
   ·exact J x q
   ·rw[ζ.1 hk] at q;exact N x q
 | cint ht _ _ _ I J N=>
  intro x hx;rcases bC.1 hx with q | ⟨k,hk,q,_⟩ | ⟨k,hk,_⟩ | ⟨k,hk,q⟩
  ·exact ht.tf x q
  ·rw[ζ.1 hk] at q;exact I x q
  ·cases hk
  ·rcases Ai.1 hk with rfl | hk
   ·exact J x q
   ·rw[ζ.1 hk] at q;exact N x q
 | cl1 hxy ht _ _ I J=>
  intro x hx;rcases bC.1 hx with q | ⟨k,hk,q,_⟩ | ⟨k,hk,_⟩ | ⟨k,hk,q⟩
  ·exact ht.tf x q
  ·rw[ζ.1 hk] at q;exact I x q
  ·cases hk
  ·rw[ζ.1 hk] at q;exact J x q
 | cl2 hxy ht _ _ _ I J N=>
  intro x hx;rcases bC.1 hx with q | ⟨k,hk,q,_⟩ | ⟨k,hk,_⟩ | ⟨k,hk,q⟩
  ·exact ht.tf x q
  ·rw[ζ.1 hk] at q;exact I x q
  ·cases hk
  ·rcases Ai.1 hk with rfl | hk
   ·exact J x q
   ·rw[ζ.1 hk] at q;exact N x q
 | cp hxy ht _ _ I J=>
  intro x hx;rcases bC.1 hx with q | ⟨k,hk,q,_⟩ | ⟨k,hk,_⟩ | ⟨k,hk,q⟩
  ·exact ht.tf x q
  ·rw[ζ.1 hk] at q;exact I x q
  ·cases hk
  ·rw[ζ.1 hk] at q;exact J x q
 | pint hs _ _ I J=>
  intro x hx;rcases bC.1 hx with q | ⟨k,hk,q,_⟩ | ⟨k,hk,_⟩ | ⟨k,hk,_⟩
  ·exact absurd q z
  ·rcases Ai.1 hk with rfl | hk
   ·exact I x q
   ·rw[ζ.1 hk] at q;exact J x q
  ·cases hk
  ·cases hk
 | pbool hs _ _ I J=>
  intro x hx;rcases bC.1 hx with q | ⟨k,hk,q,_⟩ | ⟨k,hk,_⟩ | ⟨k,hk,_⟩
  ·exact absurd q z
  ·rcases Ai.1 hk with rfl | hk
   ·exact I x q
   ·rw[ζ.1 hk] at q;exact J x q
  ·cases hk
  ·cases hk
 | fail ht=>
  intro x hx;rcases bC.1 hx with q | ⟨k,hk,q,_⟩ | ⟨k,hk,_⟩ | ⟨k,hk,_⟩
  ·exact ht.tf x q
  ·cases hk
  ·cases hk
  ·cases hk
theorem WT.ty {c:Core}{t:Ty}(h:WT [] e0 c t):tyR c=[]:=aFp h.types
theorem aHe:NT fM:=⟨rfl,rfl⟩
theorem aNk (w:Wd) (n:Int) (s:Str) (t:Ty) (ks:List Core) (hl:ks.length≤2) (hk:∀x∈ks,ofV w x fM) {Q:Ty}(O:(s∈opI∧Q=fM)∨(s∈opB∧Q=eU)):
  aQ Tryz.prog 118 [.pa (eM w),.pa (aC (.mk 10 n s t ks [] []))] [] (tyV Q) []:=by
 have hi:=pP [73,110,116];have q:=pP [66,111,111,108];have hs:=oO fM aHe.w aHe.a;have N:(aR ks).length=ks.length:=by rw[bA,θ]
 refine bM (n:=35) tok Tryz.func118 rfl rfl rfl ?_;refine sg rfl (a8 (sg rfl (aB (aK (fun i:Nat=>mk [(2,.one (.vp 2 0)),(3,.one (.vp 3 0)),(4,.one (.vp 4 0)),(8,.one (.c (.sl 10 (aR ks)))),(9,I .i64 ((aR ks).length:Int)),(10,I .i64 i)] [(2,.var 75 ((eM w).map R.c)),(3,.var 34 (b8 (.mk 10 n s t ks [] []))),(4,.var 30 [.c (.int .i64 0),.c (.int .i64 0),.c (.str []),.c .nl])]) (fun i=>i≤ks.length) (fun i=>ks.length-i) 0 (Aj _) sl ?_))));intro i W;refine sg rfl (a8 (aA rfl (fun hb=>?_) (fun hb=>?_)))
 ·have J:=ltD hb N;obtain⟨x,hx⟩:=aJ J;have Y:(aR ks)[i]?=some (aC x):=by rw[bA];exact bO aC hx
  have hc:aQ Tryz.prog 27 [.pa (eM w),.pa (aC x)] [] (tyV fM) []:=hk x (Ab hx);refine aD (a8 (aB (sgh [(0,.row i (aC x))] rfl (aE mixed (ak 2 [] rfl (kc hc ?_))))));refine kc hi ?_;refine kc hs ?_;refine kc lQ ?_;exact az (ag [] rfl ⟨i+1,J,by dsimp only;omega,sl⟩)
 refine aL (a8 (sg rfl ?_));rcases O with⟨hm,rfl⟩ | ⟨hm,rfl⟩
 ·simp only[opI,Ai,not_mem_nil,or_false] at hm;rcases hm with rfl | rfl | rfl | rfl
  ·refine aB (a8 (sg rfl (aA rfl (fun _=>aD (aA rfl (fun _=>a8 (aE mixed (kc hi ?_))) nofun)) nofun)));exact kz 1 rfl (aF (rtC trw))
  ·refine aB (a8 (sg rfl (aA rfl nofun (fun _=>sg rfl (aA rfl (fun _=>aD (aA rfl (fun _=>a8 (aE mixed (kc hi ?_))) nofun)) nofun)))));exact kz 1 rfl (aF (rtC trw))
  ·refine aB (a8 (sg rfl (aA rfl nofun (fun _=>sg rfl (aA rfl nofun (fun _=>sg rfl (aA rfl (fun _=>aD (aA rfl (fun _=>a8 (aE mixed (kc hi ?_))) nofun)) nofun)))))));exact kz 1 rfl (aF (rtC trw))
  ·refine aB (a8 (sg rfl (aA rfl nofun (fun _=>sg rfl (aA rfl nofun (fun _=>sg rfl (aA rfl nofun (fun _=>ag [] rfl (aA rfl (fun _=>a8 (aE mixed (kc hi ?_))) nofun)))))))));exact kz 1 rfl (aF (rtC trw))
 ·simp only[opB,Ai,not_mem_nil,or_false] at hm;rcases hm with rfl | rfl
  ·refine aB (a8 (sg rfl (aA rfl nofun (fun _=>sg rfl (aA rfl nofun (fun _=>sg rfl (aA rfl nofun (fun _=>ag [] rfl (aA rfl nofun (fun _=>a8 (sg rfl (aA rfl (fun _=>aD (aA rfl (fun _=>a8 (aE mixed (kc q ?_))) nofun)) nofun))))))))))));exact kz 1 rfl (aF (rtC trw))
  ·refine aB (a8 (sg rfl (aA rfl nofun (fun _=>sg rfl (aA rfl nofun (fun _=>sg rfl (aA rfl nofun (fun _=>ag [] rfl (aA rfl nofun (fun _=>a8 (sg rfl (aA rfl nofun (fun _=>ag [] rfl (aA rfl (fun _=>a8 (aE mixed (kc q ?_))) nofun))))))))))))));exact kz 1 rfl (aF (rtC trw))
theorem oJ (w:Wd) (n:Int) (s:Str) (t:Ty) (x:Core) (al:List Alt) {A Q:Ty}(J:NT Q) (hl:al.length≤1000000) (hx:ofV w x A) (hm:aQ Tryz.prog 141 [.pa (eM w),tyV t] [] (tyV Q) [])
  (hk:∀a∈al,∃w',aQ Tryz.prog 147 [.pa (eM w),tyV A,.pa (c6 a)] [] (.pa (eM w')) []∧ofV w' a.body Q):
  aQ Tryz.prog 117 [.pa (eM w),.pa (aC (.mk 9 n s t [x] [] al))] [] (tyV Q) []:=by
 have hx:aQ Tryz.prog 27 [.pa (eM w),.pa (aC x)] [] (tyV A) []:=hx;have hs:=oO Q J.w J.a;have N:(c9 al).length=al.length:=by rw[c8,θ]
 refine bM (n:=38) tok Tryz.func117 rfl rfl rfl ?_;refine sg rfl (skh 5 [(3,.row 0 (aC x))] rfl (kc hx ?_));refine ak 3 [] rfl (kc hm ?_);refine kz 4 rfl (a8 (sg rfl (aB (aK (fun i:Nat=>mk [(2,.one (.vp 2 0)),(4,.one (.vp 4 0)),(5,.one (.vp 5 0)),(6,.one (.vp 6 0)),(20,.one (.c (.sl 14 (c9 al)))),(21,I .i64 ((c9 al).length:Int)),(22,I .i64 i)] [(2,.var 75 ((eM w).map R.c)),(4,.var 30 [.c (.int .i64 0),.c (.int .i64 0),.c (.str []),.c .nl]),(5,.var 30 ((aO A).map R.c)),(6,.var 30 ((aO Q).map R.c))]) (fun i=>i≤al.length) (fun i=>al.length-i) 0 (Aj _) sl ?_))));intro i hi;refine sg rfl (a8 (aA rfl (fun hb=>?_) (fun hb=>?_)))
 ·have q:=ltD hb N;obtain⟨a,ha⟩:=aJ q;have Z:(c9 al)[i]?=some (c6 a):=by rw[c8];exact bO c6 ha
  obtain⟨w',h1,h2⟩:=hk a (Ab ha);have h2:aQ Tryz.prog 27 [.pa (eM w'),.pa (aC a.body)] [] (tyV Q) []:=h2;obtain⟨af,an,O,W,Y⟩:=a;refine aD (a8 (aB (sgh [(0,.row i (c6 (.mk af an O W Y)))] rfl (aE mixed (ak 3 [] rfl (kc h1 ?_))))));refine ak 2 [] rfl (kc h2 ?_);refine ak 1 [] rfl (kc hs ?_);refine kc lQ ?_;exact az (ag [] rfl ⟨i+1,q,by dsimp only;omega,sl⟩)
 exact aL (sg rfl (aF (rtC trw)))
theorem aId (L:List Ty) (hL:L.length≤570000000000):aQ Tryz.prog 174 [.one (.hs 720 0 L.length L.length)] [(720,.arr 30 4 (L.map aO) 0)] (.tup []) [(720,.arr 30 4 (L.reverse.map aO) 0)]:=by
 have hkL:(L.map aO).length=L.length:=θ _;refine bM (n:=28) tok Tryz.func174 rfl rfl rfl ?_;refine sg rfl (aB (aK (fun i:Nat=>mk [(0,.one (.hs 720 0 L.length L.length)),(2,I .i64 i),(3,I .i64 ((L.length:Int)-1-i))] [(720,.arr 30 4 ((nM L i).map aO) 0)]) (fun i=>2*i≤L.length) (fun i=>L.length-i) 0 (Aj _) (sl (he:=⟨rfl,rfl,by show some (I .i64 _)=some (I .i64 _);congr 2;simp,trivial⟩) (hh:=⟨⟨_,rfl,.arrS (by rw[zD])⟩,trivial⟩)) ?_));intro i hi;have J:=wQ (L:=L) hi;have N:((nM L i).map aO).length=L.length:=by rw[θ,J]
 refine a8 (sg rfl (aA rfl (fun hb=>?_) (fun hb=>?_)))
 ·have hlt:(i:Int)<(L.length:Int)-1-i:=ψ hb;obtain⟨x,hx⟩:=aJ (l:=nM L i) (k:=i) (by omega);obtain⟨y,O⟩:=aJ (l:=nM L i) (k:=L.length-1-i) (by omega);have W:=zE (by omega) hx O;have hx':=bO aO hx;have Y:=bO aO O;have ej:(L.length:Int)-1-i=((L.length-1-i:Nat):Int):=by omega
  have Z:i≠L.length-1-i:=by omega
  have hj:L.length-1-i<L.length:=by omega
  have hil:i<L.length:=by omega
  have hy2:(((nM L i).map aO).set i (aO y))[L.length-1-i]?=some (aO y):=by rw[List.getElem?_set_ne Z];exact Y
  have q:(((nM L i).map aO).set i (aO y)).set (L.length-1-i) (aO x)=(nM L (i+1)).map aO:=by rw[←W,map_set,map_set]
  have hks:(((nM L i).map aO).set i (aO y)).length=L.length:=by rw[Cn,N]
  refine aD (AWp.sub (st2:=mk [(0,.one (.hs 720 0 L.length L.length)),(2,I .i64 i),(3,I .i64 ((L.length-1-i:Nat):Int))] [(720,.arr 30 4 ((nM L i).map aO) 0)]) (sl (he:=⟨rfl,rfl,congrArg (fun x=>some (I .i64 x)) ej,trivial⟩)) ?_);generalize L.length-1-i=j at *;refine a8 (aB (ag [(7,.row j (aO y)),(11,.row i (aO x)),(13,.row i (aO x)),(15,.row j (aO y))] rfl (ag [] rfl ⟨i+1,by omega,by dsimp only;omega,sl (he:=⟨rfl,rfl,?_,trivial⟩) (hh:=⟨⟨_,rfl,.arrS q⟩,trivial⟩)⟩)));show some (I .i64 ((j:Int)-1))=some (I .i64 ((L.length:Int)-1-((i+1:Nat):Int)));congr 2;omega
 ·have hge:¬(i:Int)<(L.length:Int)-1-i:=χ hb;rw[aE9 hi (by omega)];exact aL ⟨.inl rfl,⟨_,_,.nil,.nil,rfl⟩,⟨⟨_,rfl,.arr⟩,trivial⟩,rfl⟩
theorem a1q {f n:Int}{s:Str}{a:List Ty}(h:f=4) (hw:wfS (.mk f n s a)=true):∃x y,a=[x,y]∧spR (.mk f n s a)=((spR x).1,(spR x).2++[y])∧wfS x=true∧wfS y=true∧tn x<tn (.mk f n s a):=by
 obtain⟨_,h2,h3,_⟩:=nH hw;obtain⟨_,_,x,y,rfl⟩:=h3 h;refine⟨x,y,rfl,?_,h2 x (by simp),h2 y (by simp),?_⟩
 ·rw[spR,ξ h,a08];rfl
 ·rw[tn,tns,tns,tns];have:=kF y;omega
theorem a1r {f n:Int}{s:Str}{a:List Ty}(h:¬f=4):spR (.mk f n s a)=(.mk f n s a,[]):=by rw[spR,φ h]
theorem oN (t:Ty) (hw:wfS t=true) (q:(spR t).2.length≤1000000):aQ Tryz.prog 170 [tyV t] [] (.tup [tyV (spR t).1,.one (.c (.sl 4 ((spR t).2.map aO)))]) []:=by
 refine bM (n:=25) tok Tryz.func170 rfl rfl rfl ?_;refine sg rfl (sg rfl (AWp.sub (Sub.own (t:=4) (id:=720) 30 4 rfl rfl) ?_));refine a8 (aB (aK (fun x:Ty×List Ty=>mk [(1,.one (.vp 1 0)),(2,.one (.vp 2 0)),(4,.one (.hs 720 0 x.2.length x.2.length))] [(1,.var 30 ((aO x.1).map R.c)),(2,.var 30 [.c (.int .i64 0),.c (.int .i64 0),.c (.str []),.c .nl]),(720,.arr 30 4 (x.2.map aO) 0)]) (fun x=>wfS x.1=true∧(spR t).1=(spR x.1).1∧(spR t).2=(spR x.1).2++x.2.reverse) (fun x=>tn x.1) (t,[]) ⟨hw,rfl,by simp⟩ sl ?_));rintro⟨c,acc⟩ ⟨h1,h2,h3⟩;dsimp only at h1 h2 h3 ⊢;have h4:acc.length≤1000000:=by rw[h3,τ,List.length_reverse] at q;omega
 have W:(acc.map aO).length=acc.length:=θ _;obtain⟨f,n,s,a⟩:=c;refine a8 (sg rfl (aA rfl (fun hb=>?_) (fun hb=>?_)))
 ·have hf:f=4:=ψ hb;obtain⟨x,y,rfl,I,J,N,ht⟩:=a1q hf h1;rw[I] at h2 h3;have ho:=kC _ y (le_refl _) N;refine aD (aB (skh 5 [(3,.row 1 (aO y))] rfl (kc ho ?_)));refine ak 3 [(6,.all)] rfl (az (ag [(2,.row 0 (aO x))] rfl ⟨(x,acc++[y]),⟨J,h2,by rw[h3];simp⟩,ht,?_⟩));exact sl (he:=⟨rfl,rfl,Go.AM.hs_ren (by simp) (by simp),trivial⟩) (hh:=⟨⟨_,rfl,.varS rfl⟩,⟨_,rfl,.varS rfl⟩,⟨_,rfl,.arrS (by simp;rfl)⟩,trivial⟩)
 ·have hf:¬f=4:=χ hb;rw[a1r hf] at h2 h3;have ho:=kC _ (.mk f n s a) (le_refl _) h1;have O:=aId acc (by omega);have hlr:acc.length=acc.reverse.length:=by simp
  rw[h2,h3,Bd];refine aL (sk 1 rfl (kc O ?_));refine az (AWp.sub (Sub.freeze (id:=720) rfl) ?_);refine sk 1 rfl (kc ho ?_);exact kz 3 rfl (aF (jX trw (hc2:=hs_all rfl rfl (by simp) (by simp))))
theorem aRe (w:Wd) (A:Ty) (n:Int) (s:Str) (vs:List Str) (b:Core):aQ Tryz.prog 147 [.pa (eM w),tyV A,.pa (c6 (.mk 3 n s vs b))] [] (.pa (eM w)) []:=by
 refine bM (n:=101) tok Tryz.func147 rfl rfl rfl ?_;exact sg rfl (a8 (sg rfl (aB (sg rfl (aA rfl (fun _=>aD (sg rfl (aF (rtC trw)))) nofun)))))
theorem aRf (w:Wd) (n:Int) (s:Str) (vs:List Str) (b:Core):aQ Tryz.prog 147 [.pa (eM w),tyV fM,.pa (c6 (.mk 2 n s vs b))] [] (.pa (eM w)) []:=by
 have hi:=pP [73,110,116];have hs:=oO fM aHe.w aHe.a;refine bM (n:=101) tok Tryz.func147 rfl rfl rfl ?_;refine sg rfl (a8 (sg rfl (aB (sg rfl (aA rfl nofun (fun _=>sg rfl (aA rfl (fun _=>aE mixed (ak 1 [] rfl (kc hi ?_))) nofun)))))));refine kc hs ?_;refine kc lQ ?_;exact az (sg rfl (aF (rtC trw)))
theorem aD1 (w:Wd) (a b:List (Str×Ty)):(w.with_ a).with_ b=w.with_ (a++b):=by unfold Wd.with_;simp
theorem wB (w:Wd):w.with_ []=w:=by unfold Wd.with_;simp
theorem oM (w:Wd) (A:Ty) (n:Int) (s:Str) (vs:List Str) (b:Core) {x:Fld}{fs:List Ty}{nm:Str}{vars:List Str}{l:List Ty}(g:Ty→Ty)
  (aa:aQ Tryz.prog 139 [.pa (eM w),Go.AM.T s] [] (.pa (cR x)) []) (ab:aQ Tryz.prog 169 [.pa (cR x)] [] (.tup [.one (.c (.sl 4 (fs.map aO))),Go.AM.T nm,bI vars]) [])
  (ac:aQ Tryz.prog 170 [tyV A] [] (.tup [tyV (.mk 3 0 nm []),.one (.c (.sl 4 (l.map aO)))]) []) (ad:l.length=vars.length) (ae:vs.length=fs.length) (hl3:fs.length≤1000) (hl4:w.env.length≤100000)
  (ah:vs.Nodup) (W:∀f∈fs,aQ Tryz.prog 28 [tyV f,bI vars,.one (.c (.sl 4 (l.map aO)))] [] (tyV (g f)) []):
  aQ Tryz.prog 147 [.pa (eM w),tyV A,.pa (c6 (.mk 1 n s vs b))] [] (.pa (eM (w.with_ (vs.zip (fs.map g))))) []:=by
 have q:(fs.map aO).length=fs.length:=θ _;have e1:decide (nm=nm)=true:=by simp
 have e2:decide (((l.map aO).length:Int)=((vars.map bL).length:Int))=true:=Ah (by rw[θ,θ,ad]);have e3:decide (((vs.map bL).length:Int)=((fs.map aO).length:Int))=true:=Ah (by rw[θ,θ,ae]);refine bM (n:=101) tok Tryz.func147 rfl rfl rfl ?_;refine sg rfl (a8 (sg rfl (aB (sg rfl (aA rfl nofun (fun _=>sg rfl (aA rfl nofun (fun _=>sg rfl (aA rfl (fun _=>sk 3 rfl (kc aa ?_)) nofun)))))))));refine kc ab ?_;refine kz 7 rfl (sk 1 rfl (kc ac ?_));refine kz 6 rfl (skh 24 [(3,.bv true),(8,.bv true),(9,.bv true),(15,.bv true),(16,.bv true),(23,.bv true)] rfl (kc (sW e3) ?_));refine az (sg rfl (aB (aK (fun i:Nat=>mk [(3,.one (.vp 3 0)),(5,.one (.vp 5 0)),(6,.one (.vp 6 0)),(9,bI vars),(11,.one (.c (.sl 4 (l.map aO)))),(67,.one (.c (.sl 4 (fs.map aO)))),(68,I .i64 ((fs.map aO).length:Int)),(69,I .i64 i)] [(3,.var 75 ((eM (w.with_ ((vs.zip (fs.map g)).take i))).map R.c)),(5,.var 71 ((c6 (.mk 1 n s vs b)).map R.c)),(6,.var 75 [.c .nl,.c .nl,.c .nl,.c .nl,.c (.int .i64 0)])]) (fun i=>i≤fs.length) (fun i=>fs.length-i) 0 (Aj _) (by rw[Cb,wB];exact sl) ?_)));intro i hi;refine sg rfl (a8 (aA rfl (fun hb=>?_) (fun hb=>?_)))
 ·have J:=ltD hb q;obtain⟨f,hf⟩:=aJ J;obtain⟨v,hv⟩:=aJ (show i<vs.length by omega);have hf':=bO aO hf;have hv':=bO bL hv;have Y:(vs.zip (fs.map g))[i]?=some (v,g f):=by rw[List.getElem?_zip_eq_some];exact⟨hv,by rw[Bg,hf];rfl⟩
  have ai:=dY Y;have hln:((vs.zip (fs.map g)).take i).length≤1000:=by rw[Aq,length_zip,θ];omega
  generalize (vs.zip (fs.map g)).take i=L at *;have aj:decide (v∈vs.take i)=false:=Am fun h=>by
   have h1:=Cx i vs;have h2:=ah;rw[←h1] at h2;have h3:v∈vs.drop i:=by rw[List.mem_iff_getElem?];exact⟨0,by rw[An];simpa using hv⟩
   exact(Cg.1 h2).2.2 v h v h3 rfl
  have N:=bS (vs.take i) v (by rw[Aq];omega);rw[aj] at N;have am:=W f (Ab hf);have O:=aDg (w.with_ L) [(v,g f)] (by show(w.env++L).length+1≤_;rw[τ];omega)
  rw[aD1,←ai] at O;have ap:(vs.map bL).take i=(vs.take i).map bL:=by rw[List.map_take]
  have hil:i≤(vs.map bL).length:=by rw[θ];omega
  have Z:aQ Tryz.prog 75 [.one (.c (.sl 1 ((vs.map bL).take i))),Go.AM.T v] [] (B false) []:=by rw[ap];exact N
  refine aD (a8 (aB (sgh [(1,.row i (aO f))] rfl (skh 9 [(7,.row i (bL v))] rfl (kc Z ?_)))));refine ak 1 [] rfl (kc lQ ?_);refine az (aE mixed (ak 9 [(4,.row i (bL v))] rfl (kc am ?_)));refine ak 2 [(10,.all),(11,.all)] rfl (kc O ?_);exact kz 1 rfl (ag [] rfl ⟨i+1,J,by show fs.length-(i+1)<fs.length-i;omega,sl⟩)
 ·have hw:i=fs.length:=geD hb q hi;subst hw;have Y:(vs.zip (fs.map g)).take fs.length=vs.zip (fs.map g):=A3 (by rw[length_zip,θ];omega);rw[Y];exact aL (sg rfl (aF (rtC trw)))
theorem aRk (l:List Str) (s:Str) (h:l.length≤600000000000):aQ Tryz.prog 63 [.one (.hs 730 0 l.length l.length),Go.AM.T s] [(730,.arr 9 1 (l.map bL) 0)] (I .i64 (yN s l 0)) [(730,.arr 9 1 (l.map bL) 0)]:=by
 refine bM (n:=19) tok Tryz.func63 rfl rfl rfl ?_;refine sg rfl (a8 (sg rfl ?_));have N:(l.map bL).length=l.length:=θ _;refine aB (aK (fun i:Nat=>mk [(0,.one (.hs 730 0 l.length l.length)),(1,Go.AM.T s),(7,I .i64 (l.length:Int)),(8,I .i64 i)] [(730,.arr 9 1 (l.map bL) 0)]) (fun i=>i≤l.length∧yN s l 0=yN s (l.drop i) i) (fun i=>l.length-i) 0 ⟨Aj _,rfl⟩ sl ?_);intro i ⟨hi,he⟩;refine sg rfl (a8 (aA rfl (fun hb=>?_) (fun hb=>?_)))
 ·have q:i<l.length:=by have:=ψ hb;omega
  obtain⟨x,hx⟩:=aJ q;have O:=bO bL hx;have hd:l.drop i=x::l.drop (i+1):=by rw[Bp q,(Aa.1 hx).2]
  rw[hd,yN] at he;refine aD (a8 (aB (sg rfl (sgh [(4,.row i (bL x))] rfl (aA rfl (fun hb=>?_) (fun hb=>?_))))))
  ·have hs:s=x:=ψ hb;rw[ξ hs] at he;rw[he];exact sg rfl (aF rtT)
  ·have hs:¬s=x:=χ hb;rw[φ hs] at he;exact aD (ag [] rfl ⟨i+1,⟨q,he⟩,by dsimp only;omega,sl⟩)
 ·have J:i=l.length:=by have:=χ hb;omega
  subst J;rw[Cy,yN] at he;rw[he];exact aL (sg rfl (aF rtT))
theorem aDk (l:List Str) (s:Str) (h:l.length≤600000000000):aQ Tryz.prog 75 [.one (.hs 730 0 l.length l.length),Go.AM.T s] [(730,.arr 9 1 (l.map bL) 0)] (B (decide (s∈l))) [(730,.arr 9 1 (l.map bL) 0)]:=by
 have hi:=aRk l s h;refine bM (n:=9) tok Tryz.func75 rfl rfl rfl ?_;refine sg rfl (sk 2 rfl (kc hi ?_));refine kz 2 rfl ?_;rw[←xQ s l 0 (by omega)];exact aF rtT
theorem aUr (s:Str) (a b:Int):(j4 s uT=none∧iS s a b=(zC,51))∨
  ∃(fn:FuncId) (r:Core),eG Tryz.prog fn∧j4 s uT=some [.fn fn]∧(s=aO0→b=0→iS s a b=(zC,53))∧(¬(s=aO0∧b=0)→iS s a b=(r,0)∧aQ Tryz.prog fn [I .i64 a,I .i64 b] [] (.pa (aC r)) []):=by
 by_cases h1:s=aBo
 ·subst h1;exact .inr ⟨_,_,rH (by kernel_rfl),rfl,fun h=>absurd h (by decide),fun _=>⟨rfl,a0h a b⟩⟩
 by_cases h2:s=aW5
 ·subst h2;exact .inr ⟨_,_,rH (by kernel_rfl),rfl,fun h=>absurd h (by decide),fun _=>⟨rfl,a0e a b⟩⟩
 by_cases h3:s=aUz
 ·subst h3;exact .inr ⟨_,_,rH (by kernel_rfl),rfl,fun h=>absurd h (by decide),fun _=>⟨rfl,a0f a b⟩⟩
 by_cases h4:s=aO0
 ·subst h4;refine .inr ⟨154,gN (IntKind.i64.wrap (a.tdiv b)),rH (by kernel_rfl),rfl,fun _ h=>?_,fun h=>?_⟩
  ·subst h;rfl
  ·have hb:¬b=0:=fun e=>h ⟨rfl,e⟩
   refine⟨?_,a0g a b hb⟩;unfold iS;rw[φ (by decide),φ (by decide),φ (by decide),ξ rfl,φ hb]
 by_cases h5:s=nEq
 ·subst h5;exact .inr ⟨_,_,rH (by kernel_rfl),rfl,fun h=>absurd h (by decide),fun _=>⟨rfl,a2u a b⟩⟩
 by_cases q:s=nLt
 ·subst q;exact .inr ⟨_,_,rH (by kernel_rfl),rfl,fun h=>absurd h (by decide),fun _=>⟨rfl,a2t a b⟩⟩
 refine .inl ⟨?_,?_⟩
 ·unfold uT;simp only[j4];rw[φ (fun e=>h1 e.symm),φ (fun e=>h2 e.symm),φ (fun e=>h3 e.symm),φ (fun e=>h4 e.symm),φ (fun e=>h5 e.symm),φ (fun e=>q e.symm)]
 ·unfold iS;rw[φ h1,φ h2,φ h3,φ h4,φ h5,φ q]
theorem aV1 (m:Mod) (i:Int) (s:Str) (t:Ty) (a b:Core) (pa pb:CE) (hsa:aQ Tryz.prog 30 [.pa (aC a)] [] (B (shC a)) []) (hsb:aQ Tryz.prog 30 [.pa (aC b)] [] (B (shC b)) [])
  (N:shC a=false→aQ Tryz.prog 124 [.pa (lJ m),.pa (aC (.mk 10 i s t [a,b] [] [])),I .i64 (0:Nat)] [] (fD pa) [])
  (O:shC b=false→aQ Tryz.prog 124 [.pa (lJ m),.pa (aC (.mk 10 i s t [a,b] [] [])),I .i64 (1:Nat)] [] (fD pb) []):
  aQ Tryz.prog 73 [.pa (lJ m),.pa (aC (.mk 10 i s t [a,b] [] []))] [] (fD (if ¬shC a=true then pa else if ¬shC b=true then pb else if a.form=3∧b.form=3 then iS s a.n b.n else(zC,51))) []:=by
 refine bM (n:=76) tok Tryz.func73 rfl rfl rfl ?_;refine sg rfl (a8 (sg rfl (aB (aK (fun k:Nat=>mk [(2,.one (.vp 2 0)),(3,.one (.vp 3 0)),(4,.one (.vp 4 0)),(11,.one (.c (.sl 10 (aR [a,b])))),(12,I .i64 (2:Nat)),(13,I .i64 k)] [(2,.var 81 ((lJ m).map .c)),(3,.var 34 (b8 (.mk 10 i s t [a,b] [] []))),(4,.var 34 bR)]) (fun k=>k≤2∧(0<k→shC a=true)∧(1<k→shC b=true)) (fun k=>2-k) 0 ⟨by omega,fun h=>absurd h (by omega),fun h=>absurd h (by omega)⟩ sl ?_))));rintro k ⟨hk,g1,g2⟩;refine sg rfl (a8 (aA rfl (fun hb=>?_) (fun hb=>?_)))
 ·have hlt:k<2:=by have:=ψ hb;omega
  refine aD (a8 (aB ?_));by_cases h0:k=0
  ·subst h0;refine sgh [(1,.row 0 (aC a))] rfl (sk 1 rfl (kc hsa ?_));refine kz 1 rfl ?_;cases hs:shC a with
   | false=>
    have N:=N hs;rw[ξ A5];refine aA rfl (fun _=>sk 3 rfl (kc N ?_)) (fun hb=>absurd hb (by decide));exact kz 4 rfl (aF (jX trw))
   | true=>
    exact aA rfl (fun hb=>absurd hb (by decide)) (fun _=>aD (ag [] rfl ⟨1,⟨by omega,fun _=>rfl,fun h=>absurd h (by omega)⟩,by dsimp only;omega,sl⟩))
  ·have h1:k=1:=by omega
   subst h1;have q:=g1 (by omega);refine sgh [(1,.row 1 (aC b))] rfl (sk 1 rfl (kc hsb ?_));refine kz 1 rfl ?_;cases hs:shC b with
   | false=>
    have O:=O hs;rw[φ (fun h=>h q),ξ A5];refine aA rfl (fun _=>sk 3 rfl (kc O ?_)) (fun hb=>absurd hb (by decide));exact kz 4 rfl (aF (jX trw))
   | true=>
    exact aA rfl (fun hb=>absurd hb (by decide)) (fun _=>aD (ag [] rfl ⟨2,⟨by omega,fun _=>q,fun _=>rfl⟩,by dsimp only;omega,sl⟩))
 have hk2:k=2:=by have:=χ hb;omega
 subst hk2;have q:=g1 (by omega);have Z:=g2 (by omega);rw[φ (fun h=>h q),φ (fun h=>h Z)];refine aL (a8 (aE mixed (kc aWa ?_)));have hmp:kJ uT:=zQ;rcases aUr s a.n b.n with⟨hfd,hr⟩ | ⟨fn,r,Y,hfd,hdz,hok⟩
 ·--no such name
  refine ak 8 [(3,.look none)] rfl (az ?_);rw[hr,ite_self];exact a8 (aB (a8 (sg rfl (aA rfl (fun _=>aD (aA rfl (fun _=>sg rfl (aF (jX trw))) (fun hb=>absurd hb (by decide)))) (fun hb=>absurd hb (by decide))))))
 ·refine ak 8 [(3,.look (some [.fn fn]))] rfl (az (a8 (aB (a8 (sg rfl (aA rfl (fun hb=>by simp[tX] at hb) (fun _=>sgh [(2,.row 0 (aC a))] rfl ?_)))))));by_cases ha:a.form=3
  ·refine aA rfl (fun hb=>absurd hb (by simp[ha])) (fun _=>ag [(2,.row 1 (aC b))] rfl ?_);by_cases J:b.form=3
   ·rw[ξ ⟨ha,J⟩];refine aA rfl (fun hb=>absurd hb (by simp[J])) (fun _=>?_);by_cases hd:s=aO0
    ·subst hd;refine sgh [(3,.bv true),(6,.row 1 (aC b)),(10,.bv true)] rfl ?_;by_cases W:b.n=0
     ·rw[hdz rfl W];exact aA rfl (fun _=>sg rfl (aF (jX trw))) (fun hb=>absurd W (χ hb))
     ·obtain⟨e,hc⟩:=hok fun h=>W h.2
      rw[e];refine aA rfl (fun hb=>absurd (ψ hb) W) (fun _=>aD (AWp.sub (Sub.fnClo 8 rfl) ?_));refine skh 11 [(3,.row 0 (aC a)),(8,.row 1 (aC b))] rfl (kv (args:=[I .i64 a.n,I .i64 b.n]) (caps:=[]) hc ?_ Y);exact kz 2 rfl (aF (jX trw))
    ·obtain⟨e,hc⟩:=hok fun h=>hd h.1
     rw[e];have hd':decide (s=aO0)=false:=Am hd;refine sgh [(3,.bv false),(10,.bv false)] rfl (aA rfl nofun (fun _=>aD (AWp.sub (Sub.fnClo 8 rfl) ?_)));refine skh 11 [(3,.row 0 (aC a)),(8,.row 1 (aC b))] rfl (kv (args:=[I .i64 a.n,I .i64 b.n]) (caps:=[]) hc ?_ Y);exact kz 2 rfl (aF (jX trw))
   ·rw[φ fun h=>J h.2];exact aA rfl (fun _=>sg rfl (aF (jX trw))) (fun hb=>absurd hb (by simp[J]))
  ·rw[φ fun h=>ha h.1];exact aA rfl (fun _=>aD (aA rfl (fun _=>sg rfl (aF (jX trw))) (fun hb=>absurd hb (by simp[ha])))) (fun hb=>absurd hb (by simp[ha]))
section
variable {m:Mod}{f i:Int}{s:Str}{t:Ty}{ks:List Core}{bs:List Bind}{al:List Alt}{p:CE}
theorem a2r (h:aQ Tryz.prog 69 [.pa (lJ m),.pa (aC (.mk 1 i s t ks bs al))] [] (fD p) []):aQ Tryz.prog 31 [.pa (lJ m),.pa (aC (.mk 1 i s t ks bs al))] [] (fD p) []:=by
 refine bM (n:=48) tok Tryz.func31 rfl rfl rfl ?_;refine sg rfl (a8 (sg rfl (aB (sg rfl (aA rfl (fun _=>sk 2 rfl (kc h ?_)) (fun hb=>by simp[Core.form] at hb))))));exact kz 4 rfl (aF (jX trw))
theorem aV6 (hf:f=4∨f=6) (h:aQ Tryz.prog 70 [.pa (lJ m),.pa (aC (.mk f i s t ks bs al))] [] (fD p) []):aQ Tryz.prog 31 [.pa (lJ m),.pa (aC (.mk f i s t ks bs al))] [] (fD p) []:=by
 refine bM (n:=48) tok Tryz.func31 rfl rfl rfl ?_;refine sg rfl (a8 (sg rfl (aB (sg rfl (aA rfl (fun hb=>by have h0:f=1:=ψ hb;omega) (fun _=>a8 (sg rfl ?_)))))));rcases hf with rfl | rfl
 ·refine aA rfl (fun _=>aD (aA rfl (fun _=>sk 2 rfl (kc h ?_)) (fun hb=>by simp[Core.form] at hb))) (fun hb=>by simp[Core.form] at hb);exact kz 4 rfl (aF (jX trw))
 ·refine aA rfl (fun hb=>by simp[Core.form] at hb) (fun _=>ag [] rfl (aA rfl (fun _=>sk 2 rfl (kc h ?_)) (fun hb=>by simp[Core.form] at hb)));exact kz 4 rfl (aF (jX trw))
theorem a2q (h:aQ Tryz.prog 71 [.pa (lJ m),.pa (aC (.mk 8 i s t ks bs al))] [] (fD p) []):aQ Tryz.prog 31 [.pa (lJ m),.pa (aC (.mk 8 i s t ks bs al))] [] (fD p) []:=by
 refine bM (n:=48) tok Tryz.func31 rfl rfl rfl ?_;refine sg rfl (a8 (sg rfl (aB (sg rfl (aA rfl (fun hb=>by simp[Core.form] at hb) (fun _=>a8 (sg rfl (aA rfl (fun hb=>by simp[Core.form] at hb) (fun _=>ag [] rfl (aA rfl (fun hb=>by simp[Core.form] at hb) (fun _=>sg rfl (aA rfl (fun _=>sk 2 rfl (kc h ?_)) (fun hb=>by simp[Core.form] at hb)))))))))))));exact kz 4 rfl (aF (jX trw))
theorem a2p (h:aQ Tryz.prog 72 [.pa (lJ m),.pa (aC (.mk 9 i s t ks bs al))] [] (fD p) []):aQ Tryz.prog 31 [.pa (lJ m),.pa (aC (.mk 9 i s t ks bs al))] [] (fD p) []:=by
 refine bM (n:=48) tok Tryz.func31 rfl rfl rfl ?_;refine sg rfl (a8 (sg rfl (aB (sg rfl (aA rfl (fun hb=>by simp[Core.form] at hb) (fun _=>a8 (sg rfl (aA rfl (fun hb=>by simp[Core.form] at hb) (fun _=>ag [] rfl (aA rfl (fun hb=>by simp[Core.form] at hb) (fun _=>sg rfl (aA rfl (fun hb=>by simp[Core.form] at hb) (fun _=>sg rfl (aA rfl (fun _=>sk 2 rfl (kc h ?_)) (fun hb=>by simp[Core.form] at hb)))))))))))))));exact kz 4 rfl (aF (jX trw))
theorem a0a (h:aQ Tryz.prog 73 [.pa (lJ m),.pa (aC (.mk 10 i s t ks bs al))] [] (fD p) []):aQ Tryz.prog 31 [.pa (lJ m),.pa (aC (.mk 10 i s t ks bs al))] [] (fD p) []:=by
 refine bM (n:=48) tok Tryz.func31 rfl rfl rfl ?_;refine sg rfl (a8 (sg rfl (aB (sg rfl (aA rfl (fun hb=>by simp[Core.form] at hb) (fun _=>a8 (sg rfl (aA rfl (fun hb=>by simp[Core.form] at hb) (fun _=>ag [] rfl (aA rfl (fun hb=>by simp[Core.form] at hb) (fun _=>sg rfl (aA rfl (fun hb=>by simp[Core.form] at hb) (fun _=>sg rfl (aA rfl (fun hb=>by simp[Core.form] at hb) (fun _=>sg rfl (aA rfl (fun _=>sk 2 rfl (kc h ?_)) (fun hb=>by simp[Core.form] at hb)))))))))))))))));exact kz 4 rfl (aF (jX trw))
theorem a2s (h1:¬f=1) (h4:¬f=4) (J:¬f=6) (N:¬f=8) (O:¬f=9) (I:¬f=10):aQ Tryz.prog 31 [.pa (lJ m),.pa (aC (.mk f i s t ks bs al))] [] (fD (if f=11 then(zC,52) else(zC,51))) []:=by
 refine bM (n:=48) tok Tryz.func31 rfl rfl rfl ?_;refine sg rfl (a8 (sg rfl (aB (sg rfl (aA rfl (fun hb=>absurd (ψ hb) h1) (fun _=>a8 (sg rfl (aA rfl (fun hb=>absurd (ψ hb) h4) (fun _=>ag [] rfl (aA rfl (fun hb=>absurd (ψ hb) J) (fun _=>sg rfl (aA rfl (fun hb=>absurd (ψ hb) N) (fun _=>sg rfl (aA rfl (fun hb=>absurd (ψ hb) O) (fun _=>sg rfl (aA rfl (fun hb=>absurd (ψ hb) I) (fun _=>sg rfl ?_)))))))))))))))));by_cases q:f=11
 ·subst q;rw[ξ rfl];exact aA rfl (fun _=>sg rfl (aF (jX trw))) (fun hb=>by simp[Core.form] at hb)
 ·rw[φ q];exact aA rfl (fun hb=>absurd (ψ hb) q) (fun _=>aD (sg rfl (aF (jX trw))))
end
theorem aTj (hI:dA 540000000000) {n:Nat}{U:List Str}(hn:n≤299) (hU:U.length≤480000) {m:Mod}(hB:BI U m.binds):∀(k:Nat) (c:Core),m30 c≤k→ST n U c→
  aQ Tryz.prog 31 [.pa (lJ m),.pa (aC c)] [] (fD (dR m.binds k c)) []:=by
 intro k
 induction k with
 | zero=>intro c h;have:=eY c;omega
 | succ k ih=>
 intro c h hc;obtain⟨f,i,s,t,ks,bs,al⟩:=c;have hsz:=hc.sz;have hm:∀x∈ks,m30 x<m30 (.mk f i s t ks bs al):=fun x hx=>by have:=fL hx;rw[m30];omega
 have Z:∀x∈ks,bE x≤570000000000:=fun x hx=>by have:=cV x;have:=hm x hx;omega
 have aa:∀x∈ks,¬f=7→aQ Tryz.prog 30 [.pa (aC x)] [] (B (shC x)) []:=fun x hx h7=>y3 403 x (hc.kid h7 hx).q (Z x hx)
 have N:∀(j:Nat) (x:Core),ks[j]?=some x→¬f=7→ks.length≤2→aQ Tryz.prog 124 [.pa (lJ m),.pa (aC (.mk f i s t ks bs al)),I .i64 (j:Nat)] [] (fD (yL (dR m.binds k) (.mk f i s t ks bs al) j)) []:=fun j x hx h7 hl=>by
  have O:=Ab hx;exact a2x m 403 (.mk f i s t ks bs al) x j (dR m.binds k) hx (by show ks.length≤_;omega) (hc.kid h7 O).q (Z x O) fun _=>ih x (by have:=hm x O;omega) (hc.kid h7 O)
 rw[gT];by_cases h1:f=1
 ·subst h1;rw[ξ rfl];exact a2r (aV2 m (by have:=hB.len;omega) 1 i s t ks bs al)
 rw[φ h1];by_cases J:f=4∨f=6
 ·rw[ξ J];by_cases ha:f=4∧(ks.headD zC).form=5
  ·rw[ξ ha];obtain⟨rfl,ha⟩:=ha;obtain⟨⟨a,b,rfl⟩,rfl,rfl⟩:=w9 hc.q (.inl rfl);have Y:=hc.kid (by decide) (x:=a) η;obtain⟨f',i',s',t',ks',bs',al'⟩:=a;have ha:f'=5:=ha;subst ha;obtain⟨⟨body,rfl⟩,rfl,rfl⟩:=fJ Y.q (.inl rfl);exact aV6 (.inl rfl) (a0p hI hn hU m i s t body b i' s' t' hc)
  rw[φ ha];by_cases hb:f=6∧(ks.headD zC).form=7
  ·rw[ξ hb];obtain⟨rfl,hb⟩:=hb;obtain⟨⟨a,rfl⟩,rfl,rfl⟩:=fJ hc.q (.inr (.inl rfl));have Y:=hc.kid (by decide) (x:=a) η;obtain⟨f',i',s',t',ks',bs',al'⟩:=a;have hb:f'=7:=hb;subst hb;obtain⟨⟨body,rfl⟩,rfl,rfl⟩:=fJ Y.q (.inr (.inr rfl));exact aV6 (.inr rfl) (a0o hI hn hU m i s t body i' s' t' hc)
  rw[φ hb];have hex:∃a ks1,ks=a::ks1∧ks.length≤2:=by
   rcases J with rfl | rfl
   ·obtain⟨⟨a,b,rfl⟩,_⟩:=w9 hc.q (.inl rfl);exact⟨a,[b],rfl,le_refl _⟩
   ·obtain⟨⟨a,rfl⟩,_⟩:=fJ hc.q (.inr (.inl rfl));exact⟨a,[],rfl,by simp⟩
  obtain⟨a,ks1,rfl,hl⟩:=hex;exact aV6 J (a0n m f i s t a ks1 bs al _ ha hb (N 0 a rfl (by omega) hl))
 rw[φ J];by_cases h8:f=8
 ·rw[ξ h8];subst h8;obtain⟨⟨a,rfl⟩,rfl,h12⟩:=aHb hc.q;exact a2q (a2w hI hn hU m i s t a bs hc)
 rw[φ h8];by_cases h9:f=9
 ·rw[ξ h9];subst h9;obtain⟨⟨a,rfl⟩,rfl,h12,hv⟩:=aOw hc.q;have Y:=hc.kid (by decide) (x:=a) η;have hca:=Z a η;have hcc:=aWh m i s t a al (yL (dR m.binds k) (.mk 9 i s t [a] [] al) 0) h12 (aa a η (by decide)) (fun _=>N 0 a rfl (by decide) (by simp)) fun x hx=>by
   refine aV5 x a hca (aNo 403 a Y.q hca) fun s1 l1 hg hlv=>?_
   have kx:=hc.alt hx;have hm':=gU hx;obtain⟨g1,_⟩:=aOs hn hU (s:=m30 (.mk 9 i s t [a] [] al)) (by rw[m30,dI,dI];omega) hsz kx Y (hv x hx) hg hlv;exact(aRh hI (by decide) (by decide) x.body _ _ hlv.symm (by have:=hv x hx;omega) g1).1
  exact a2p hcc
 rw[φ h9];by_cases W:f=10
 ·rw[ξ W];subst W;obtain⟨⟨a,b,rfl⟩,rfl,rfl⟩:=w9 hc.q (.inr rfl);exact a0a (aV1 m i s t a b _ _ (aa a η (by decide)) (aa b (ω _ η) (by decide)) (fun _=>N 0 a rfl (by decide) (le_refl _)) (fun _=>N 1 b rfl (by decide) (le_refl _)))
 rw[φ W];exact a2s h1 (fun e=>J (.inl e)) (fun e=>J (.inr e)) h8 h9 W
noncomputable def jH (bd:List Bind):Nat→Nat→Core→Core×Nat×Int
 | 0,n,c=>if shC c=true then(c,n,0) else(zC,0,3)
 | k+1,n,c=>if shC c=true then(c,n,0) else
  if(dR bd (m30 c) c).2=0 then(if 6000<dJ (dR bd (m30 c) c).1 then(zC,0,2) else jH bd k (n+1) (dR bd (m30 c) c).1) else(zC,0,(dR bd (m30 c) c).2)
end Go.Proofs.YtglfogjcijokpaaGreatDoor
