/-
  Texts Lw3 to Lt3 in one.
-/
import Derived.Test.YtockgoadliilhaaGreatDoorM12
open List (append_assoc append_nil drop_left' foldl_append foldl_cons length_append length_cons length_eq_zero_iff length_map length_set map_append map_congr_left map_cons map_map map_nil map_take mem_append mem_cons mem_cons_of_mem mem_cons_self mem_flatMap mem_map mem_range mem_singleton nodup_cons nodup_range of_mem_zip set_cons_succ sum_nil take_add_one take_left' take_length)
open Nat (le_of_eq le_refl le_trans sub_le zero_le)
namespace Go.Proofs.YtockgoadliilhaaGreatDoor
open Go Go.AM
set_option maxRecDepth 20000
set_option maxHeartbeats 4000000
theorem aT8 {x:Str}{b:Core}(bs:List Bind):(bs.map (nSB x b)).map bhd=bs.map bhd:=by rw[A1];rfl
theorem aT9 {x:Str}{b:Core}(al:List Alt):(al.map (nSA x b)).map ahd=al.map ahd:=by rw[A1];rfl
theorem jP {q:Loc}{x:Str}{b:Core}(hb:cE q b):∀(k:Nat) (c:Core),b7 c≤k→cE q c→cE q (nS c x b)
 | 0,c,h,_=>by have:=c9 c;omega
 | k+1,.mk f n nm t ks bs al,h,J=>by
  obtain⟨N,O,W,_⟩:= @eQ f n nm t ks bs al;obtain⟨q1,Y,Z,q4⟩:=aT.1 J;by_cases h1:f=1
  ·rw[nS,ξ h1];split
   ·exact hb
   ·exact J
  ·rw[oV h1];refine aT.2 ⟨?_,fun y hy=>?_,fun y hy=>?_,fun y hy=>?_⟩
   ·have e1:(if x∈gvN f nm bs then ks else ks.map fun c=>nS c x b).length=ks.length:=by split<;>simp
    have e2:(if x∈gvN f nm bs then bs else bs.map (nSB x b)).map bhd=bs.map bhd:=by
     split
     ·rfl
     ·exact aT8 bs
    rw[e1,e2,aT9];exact q1
   ·split at hy
    ·exact Y y hy
    ·obtain⟨z,I,rfl⟩:=Ad.1 hy;exact jP hb k z (by have:=N z I;omega) (Y z I)
   ·split at hy
    ·exact Z y hy
    ·obtain⟨z,I,rfl⟩:=Ad.1 hy;exact jP hb k z.body (by have:=O z I;omega) (Z z I)
   ·obtain⟨z,I,rfl⟩:=Ad.1 hy;show cE q (if x∈z.vars then z.body else nS z.body x b);split
    ·exact q4 z I
    ·exact jP hb k z.body (by have:=W z I;omega) (q4 z I)
theorem aO5 {x y:Str}{b:Core}:∀(k:Nat) (c:Core),b7 c≤k→y∈pfR (nS c x b)→(y∈pfR c∧¬y=x)∨y∈pfR b
 | 0,c,h,_=>by have:=c9 c;omega
 | k+1,.mk f n nm t ks bs al,h,hy=>by
  obtain⟨J,N,O,_⟩:= @eQ f n nm t ks bs al;by_cases h1:f=1
  ·rw[nS,ξ h1] at hy;split at hy
   ·exact .inr hy
   ·rename_i e;refine .inl ⟨hy,?_⟩;rw[pfR,ξ h1] at hy;rw[Aa.1 hy];exact e
  ·rw[oV h1] at hy;rcases(gM h1).1 hy with⟨p,hp,hyp,hg⟩ | ⟨a,ha,q,hv⟩
   ·rw[aE5] at hg;by_cases hx:x∈gvN f nm bs
    ·rw[ξ hx,ξ hx] at hp;exact .inl ⟨(gM h1).2 (.inl ⟨p,hp,hyp,hg⟩),fun e=>hg (by rw[e];exact hx)⟩
    ·rw[φ hx,φ hx] at hp;rcases χ.1 hp with hp | hp
     ·obtain⟨z,I,rfl⟩:=Ad.1 hp;rcases aO5 k z (by have:=J z I;omega) hyp with⟨g1,g2⟩ | g
      ·exact .inl ⟨(gM h1).2 (.inl ⟨z,χ.2 (.inl I),g1,hg⟩),g2⟩
      ·exact .inr g
     ·obtain⟨Y,W,rfl⟩:=Ad.1 hp;obtain⟨z,I,rfl⟩:=Ad.1 W;rcases aO5 k z.body (by have:=N z I;omega) hyp with⟨g1,g2⟩ | g
      ·exact .inl ⟨(gM h1).2 (.inl ⟨z.body,χ.2 (.inr (Ad.2 ⟨z,I,rfl⟩)),g1,hg⟩),g2⟩
      ·exact .inr g
   ·obtain⟨z,I,rfl⟩:=Ad.1 ha;have hv:¬y∈z.vars:=hv;have q:y∈pfR (if x∈z.vars then z.body else nS z.body x b):=q;by_cases hx:x∈z.vars
    ·rw[ξ hx] at q;exact .inl ⟨(gM h1).2 (.inr ⟨z,I,q,hv⟩),fun e=>hv (by rw[e];exact hx)⟩
    ·rw[φ hx] at q;rcases aO5 k z.body (by have:=O z I;omega) q with⟨g1,g2⟩ | g
     ·exact .inl ⟨(gM h1).2 (.inr ⟨z,I,g1,hv⟩),g2⟩
     ·exact .inr g
def fS (c:Core) (l:List (Str×Core)):Core:=l.foldl (fun c p=>nS c p.1 p.2) c
theorem aNj {q:Loc}:∀{l:List (Str×Core)}{c:Core},cE q c→(∀p∈l,cE q p.2)→cE q (fS c l)
 | [],c,h,_=>h
 | p::l,c,h,hl=>aNj (l:=l) (jP (hl p ζ) _ c (le_refl _) h) fun q I=>hl q (κ _ I)
section
variable {X:Nat}
theorem aNt (q:31≤X) {z:Str}(I:z.length≤30):cE (QL X) (vC z):=by
 have hw:w30 z=30:=by unfold w30;omega
 exact aT.2 ⟨⟨rfl,fun h=>(by cases h),rfl,by simp,by unfold lw;rw[hw];simpa using q,fun h=>(by cases h),by simp,by simp⟩,by simp,by simp,by simp⟩
theorem wR (I:31≤X):∀(ps:List (Str×Str)) (c:Core),cE (QL X) c→(∀p∈ps,¬nh p.2∧p.2.length≤30)→iB c ps=fS c (ps.map fun p=>(p.1,vC p.2))
 | [],c,_,_=>rfl
 | p::ps,c,hc,hp=>by
  obtain⟨h1,h2⟩:=hp p ζ;have e:=wE (X:=X) (s:=p.1) (b:=vC p.2) (fun z J=>by rw[aO4,Aa] at J;rw[J];exact h1) aN9 (m30 c) c (le_refl _) hc;have:=wR I ps (nS c p.1 (vC p.2)) (jP (aNt I h2) _ c (le_refl _) hc) fun q N=>hp q (κ _ N)
  unfold iB fS at this ⊢;rw[foldl_cons,e,this,Am,foldl_cons]
theorem aL6 {z:Str}{b:Core}(J:31≤X) (I:¬nh z) (hb:pfR b=[]) (N:cE (QL X) b):∀(ps:List (Str×Str)) (c:Core),cE (QL X) c→(∀p∈ps,nh p.1∧¬p.2=z∧p.2.length≤30)→
  nS (fS c (ps.map fun p=>(p.1,vC p.2))) z b=fS (nS c z b) (ps.map fun p=>(p.1,vC p.2))
 | [],c,_,_=>rfl
 | p::ps,c,hc,hp=>by
  obtain⟨h1,h2,h3⟩:=hp p ζ;have e:=x6 (X:=X) (y:=p.1) (w:=p.2) (z:=z) (b:=b) I (fun e=>I (by rw[←e];exact h1)) h2 hb _ c (le_refl _) hc;have:=aL6 J I hb N ps (nS c p.1 (vC p.2)) (jP (aNt J h3) _ c (le_refl _) hc) fun q O=>hp q (κ _ O)
  rw[e] at this;exact this
theorem aRm (J:31≤X):∀(names own:List Str) (l:List Core) (c:Core),names.length=l.length→own.length=l.length→own.Nodup→(∀z∈own,¬nh z∧z.length≤30∧¬z∈pfR c)→(∀x∈names,nh x)→cE (QL X) c→
  (∀b∈l,cE (QL X) b∧pfR b=[]∧tyR b=[])→mY (iB c (names.zip own)) (own.zip l)=fS c (names.zip l)
 | [],own,l,c,h1,h2,_,_,_,_,_=>by
  have hl:l=[]:=Bn.1 h1.symm;subst hl;have N:own=[]:=Bn.1 h2;subst N;rfl
 | x::ns,[],l,c,h1,h2,_,_,_,_,_=>by rw[←h1] at h2;cases h2
 | x::ns,z::os,[],c,h1,_,_,_,_,_,_=>by cases h1
 | x::ns,z::os,b::bs,c,h1,h2,hnd,N,hn,hc,hl=>by
  obtain⟨Y,z2,z3⟩:=N z ζ;obtain⟨b1,Z,b3⟩:=hl b ζ;have hx:=hn x ζ;obtain⟨hzo,aa⟩:=Br.1 hnd;have I:∀p∈ns.zip os,nh p.1∧¬p.2=z∧p.2.length≤30∧¬nh p.2:=fun p hp=>by
   obtain⟨g1,g2⟩:=of_mem_zip (a:=p.1) (b:=p.2) hp;obtain⟨k1,k2,_⟩:=N p.2 (κ _ g2);exact⟨hn p.1 (κ _ g1),fun e=>hzo (by rw[←e];exact g2),k2,k1⟩
  have O:cE (QL X) (nS c x (vC z)):=jP (aNt J z2) _ c (le_refl _) hc;have e1:iB c ((x::ns).zip (z::os))=fS (nS c x (vC z)) ((ns.zip os).map fun p=>(p.1,vC p.2)):=by
   rw[wR J _ c hc (fun p hp=>by
    rcases Ao.1 hp with rfl | hp
    ·exact⟨Y,z2⟩
    ·exact⟨(I p hp).2.2.2,(I p hp).2.2.1⟩)]
   rfl
  have hqF:cE (QL X) (fS (nS c x (vC z)) ((ns.zip os).map fun p=>(p.1,vC p.2))):=aNj O fun p hp=>by
   obtain⟨q,hq,rfl⟩:=Ad.1 hp;exact aNt J (I q hq).2.2.1
  rw[e1];have e2:mY (fS (nS c x (vC z)) ((ns.zip os).map fun p=>(p.1,vC p.2))) ((z::os).zip (b::bs))=mY (fS (nS c x b) ((ns.zip os).map fun p=>(p.1,vC p.2))) (os.zip bs):=by
   have e:=wE (X:=X) (s:=z) (b:=b) (by rw[Z];simp) b3 (m30 (fS (nS c x (vC z)) ((ns.zip os).map fun p=>(p.1,vC p.2)))) _ (le_refl _) hqF;rw[aL6 J Y Z b1 (ns.zip os) _ O fun p hp=>⟨(I p hp).1,(I p hp).2.1,(I p hp).2.2.1⟩,x7 (X:=X) Y _ c (le_refl _) hc z3] at e;unfold mY;rw[List.zip_cons_cons,foldl_cons];dsimp only;rw[e]
  rw[e2];have W:cE (QL X) (nS c x b):=jP b1 _ c (le_refl _) hc;have e3:fS (nS c x b) ((ns.zip os).map fun p=>(p.1,vC p.2))=iB (nS c x b) (ns.zip os):=(wR J _ _ W fun p hp=>⟨(I p hp).2.2.2,(I p hp).2.2.1⟩).symm
  rw[e3,aRm J ns os bs (nS c x b) (by simpa using h1) (by simpa using h2) aa (fun w hw=>by
   obtain⟨k1,k2,k3⟩:=N w (κ _ hw);refine⟨k1,k2,fun hin=>?_⟩;rcases aO5 _ c (le_refl _) hin with⟨g,_⟩ | g
   ·exact k3 g
   ·rw[Z] at g;cases g) (fun y hy=>hn y (κ _ hy)) W fun y hy=>hl y (κ _ hy)]
  rfl
theorem a1b {n:Nat}(h:n<10000):(pcN n).length≤30:=by
 unfold pcN;have:=aMb 3 n (by omega);simp only[Ag];omega
theorem aTx (J:31≤X) (c:Core) (names:List Str) (l:List Core) (h1:names.length=l.length) (h2:names.length≤1000) (hn:∀x∈names,nh x) (hc:cE (QL X) c) (hp:∀x∈pfR c,nh x)
  (hl:∀b∈l,cE (QL X) b∧pfR b=[]∧tyR b=[]):zB c names l=fS c (names.zip l):=by
 have ht:∀x∈fX c l,nh x:=fun x hx=>by
  rcases χ.1 hx with hx | hx
  ·exact hp x hx
  ·obtain⟨b,hb,hx⟩:=Cb.1 hx;rw[(hl b hb).2.1] at hx;cases hx
 have q:=aKk ht names.length;unfold zB;rw[q];refine aRm J names _ l c h1 (by simp[h1]) ?_ (fun z N=>?_) hn hc hl
 ·have I:(List.range names.length).Nodup:=nodup_range;exact List.Pairwise.map pcN (fun a b h e=>h (aKf a b e)) I
 ·obtain⟨m,hm,rfl⟩:=Ad.1 N;have hm:=mem_range.1 hm;exact⟨jW m,a1b (by omega),fun h=>jW m (hp _ h)⟩
end
mutual
def tE:Core→Core
 | .mk f n s _ ks bs al=>.mk f n (if f=7 then [97] else s) zTy (tEs ks) (tEb bs) (tEa al)
def tEs:List Core→List Core
 | []=>[]
 | c::l=>tE c::tEs l
def tEb:List Bind→List Bind
 | []=>[]
 | .mk s _ c::l=>.mk s zTy (tE c)::tEb l
def tEa:List Alt→List Alt
 | []=>[]
 | .mk f n s v c::l=>.mk f n s v (tE c)::tEa l
end
def tEB (b:Bind):Bind:=.mk b.name zTy (tE b.body)
def tEA (a:Alt):Alt:=.mk a.form a.n a.name a.vars (tE a.body)
theorem aB1:∀l:List Core,tEs l=l.map tE
 | []=>by rw[tEs];rfl
 | c::l=>by rw[tEs,aB1 l];rfl
theorem w9:∀l:List Bind,tEb l=l.map tEB
 | []=>by rw[tEb];rfl
 | .mk s t c::l=>by rw[tEb,w9 l];rfl
theorem aJa:∀l:List Alt,tEa l=l.map tEA
 | []=>by rw[tEa];rfl
 | .mk f n s v c::l=>by rw[tEa,aJa l];rfl
section
variable {f n:Int}{s:Str}{t:Ty}{ks:List Core}{bs:List Bind}{al:List Alt}
theorem iX:tE (.mk f n s t ks bs al)=.mk f n (if f=7 then [97] else s) zTy (ks.map tE) (bs.map tEB) (al.map tEA):=by rw[tE,aB1,w9,aJa]
theorem rE:gvN f (if f=7 then [97] else s) (bs.map tEB)=gvN f s bs:=by
 unfold gvN;rw[A1];by_cases h:f=5
 ·rw[ξ h,ξ h,φ (by omega)];rfl
 ·rw[φ h,φ h];rfl
end
theorem aB2 (c:Core):(tE c).form=c.form:=by obtain⟨f,n,s,t,ks,bs,al⟩:=c;rw[tE];rfl
mutual
theorem oU:∀c:Core,pfR (tE c)=pfR c
 | .mk f n s t ks bs al=>by
  rw[tE,pfR,pfR];by_cases h1:f=1
  ·rw[ξ h1,ξ h1,φ (by omega)]
  ·rw[φ h1,φ h1,w9,rE,←w9,aKa,aKc,aKd]
theorem aKa:∀(l:List Core) (G o:List Str),jK G (tEs l) o=jK G l o
 | [],G,o=>by rw[tEs]
 | c::l,G,o=>by rw[tEs,jK,jK,oU c,aKa l]
theorem aKc:∀(l:List Bind) (G o:List Str),kD G (tEb l) o=kD G l o
 | [],G,o=>by rw[tEb]
 | .mk s t c::l,G,o=>by rw[tEb,kD,kD,oU c,aKc l]
theorem aKd:∀(l:List Alt) (o:List Str),jD (tEa l) o=jD l o
 | [],o=>by rw[tEa]
 | .mk f n s v c::l,o=>by rw[tEa,jD,jD,oU c,aKd l]
end
mutual
theorem aIf:∀c:Core,tyR (tE c)=[]
 | .mk f n s t ks bs al=>by rw[tE,tyR,aQx,aQy,aQz];rfl
theorem aQx {f:Int}{s:Str}:∀(l:List Core) (o:List Str),jQ f s (tEs l) o=o
 | [],o=>by rw[tEs,jQ]
 | c::l,o=>by
  rw[tEs,jQ,aIf c,aQx l];unfold yB;simp
theorem aQy:∀(l:List Bind) (o:List Str),iR (tEb l) o=o
 | [],o=>by rw[tEb,iR]
 | .mk s t c::l,o=>by rw[tEb,iR,aIf c,aQy l];rfl
theorem aQz:∀(l:List Alt) (o:List Str),jR (tEa l) o=o
 | [],o=>by rw[tEa,jR]
 | .mk f n s v c::l,o=>by rw[tEa,jR,aIf c,aQz l];rfl
end
mutual
theorem zR:∀c:Core,m30 (tE c)≤m30 c
 | .mk f n s t ks bs al=>by
  rw[tE,m30,m30];have:=aK5 ks;have:=aK7 bs;have:=aK9 al;have h:w30 (if f=7 then [97] else s)≤w30 s:=by
   split
   ·exact yE (by decide)
   ·exact le_refl _
  omega
theorem aK5:∀l:List Core,cK (tEs l)≤cK l
 | []=>by rw[tEs];exact le_refl _
 | c::l=>by
  rw[tEs,cK,cK];have:=zR c;have:=aK5 l;omega
theorem aK7:∀l:List Bind,fR (tEb l)≤fR l
 | []=>by rw[tEb];exact le_refl _
 | .mk s t c::l=>by
  rw[tEb,fR,fR];have:=zR c;have:=aK7 l;omega
theorem aK9:∀l:List Alt,iC (tEa l)≤iC l
 | []=>by rw[tEa];exact le_refl _
 | .mk f n s v c::l=>by
  rw[tEa,iC,iC];have:=zR c;have:=aK9 l;omega
end
theorem wB:∀(k:Nat) (c:Core) (a:Str) (u:Ty),tE (sTR k c a u)=tE c
 | 0,c,a,u=>by rw[sTR]
 | k+1,.mk f n s t ks bs al,a,u=>by
  have q:(bs.map fun b=>Bind.mk b.name (gP b.ty [(a,u)]) (sTR k b.body a u)).map tEB=bs.map tEB:=by
   rw[A1];exact A6 fun b _=>by show Bind.mk b.name zTy (tE (sTR k b.body a u))=_;rw[wB k];rfl
  have I:(al.map fun b=>Alt.mk b.form b.n b.name b.vars (sTR k b.body a u)).map tEA=al.map tEA:=by
   rw[A1];exact A6 fun b _=>by show Alt.mk b.form b.n b.name b.vars (tE (sTR k b.body a u))=_;rw[wB k];rfl
  have J:∀g:Core→Core,(∀x,tE (g x)=tE x)→(ks.map g).map tE=ks.map tE:=fun g hg=>by rw[A1];exact A6 fun x _=>hg x
  rw[sTR];split
  ·rfl
  ·split
   ·rename_i h7;rw[gH,iX,iX,q,I,ξ h7.1,ξ h7.1,A1,A1];congr 1;exact A6 fun x _=>(wB k _ _ _).trans (wB k _ _ _)
   ·rw[gH,iX,iX,q,I,J _ fun x=>wB k _ _ _]
theorem aQ8 {c:Core}(h7:c.form=7) (far:List Str):tE (aHq c far)=tE c:=by
 obtain⟨f,n,s,t,ks,bs,al⟩:=c;have h7:f=7:=h7;rw[aHq];split
 ·rw[iX,iX,A1,ξ h7,ξ h7];congr 1;exact A6 fun x _=>wB _ x _ _
 ·rfl
theorem tZ {X:Nat}:∀(k:Nat) (c:Core),b7 c≤k→cE (QL X) c→cE (QL X) (tE c)
 | 0,c,h,_=>by have:=c9 c;omega
 | k+1,.mk f n s t ks bs al,h,q=>by
  obtain⟨⟨I,q2,q3,q4,q5,J,N,O⟩,W,Y,Z⟩:=aT.1 q;obtain⟨z1,z2,z3,_⟩:= @eQ f n s t ks bs al;have hb:∀p∈(bs.map tEB).map bhd,wfS p.2=true∧∃b∈bs,p.1=b.name:=fun p hp=>by
   obtain⟨y,hy,rfl⟩:=Ad.1 hp;obtain⟨b,hb,rfl⟩:=Ad.1 hy;exact⟨rfl,b,hb,rfl⟩
  have ha:(al.map tEA).map ahd=al.map ahd:=by rw[A1];rfl
  have hl:lw (if f=7 then [97] else s) ((bs.map tEB).map bhd) (al.map ahd)≤lw s (bs.map bhd) (al.map ahd):=by
   have h1:w30 (if f=7 then [97] else s)≤w30 s:=by
    split
    ·exact yE (by decide)
    ·exact le_refl _
   unfold lw;have h2:((bs.map tEB).map bhd).map (fun p=>1+w30 p.1)=(bs.map bhd).map fun p=>1+w30 p.1:=by rw[A1,A1,A1];rfl
   rw[h2];omega
  rw[iX];refine aT.2 ⟨⟨?_,fun h7=>⟨rfl,by rw[ξ h7];decide⟩,rfl,fun p hp=>(hb p hp).1,?_,fun h5=>?_,fun p hp=>?_,?_⟩,fun x hx=>?_,fun x hx=>?_,fun x hx=>?_⟩
  ·simpa using I
  ·rw[ha];omega
  ·rw[φ (by omega)];exact J h5
  ·obtain⟨b,hb,e⟩:=(hb p hp).2
   rw[e];exact N (bhd b) (Ad.2 ⟨b,hb,rfl⟩)
  ·rw[ha];exact O
  ·obtain⟨y,hy,rfl⟩:=Ad.1 hx;exact tZ k y (by have:=z1 y hy;omega) (W y hy)
  ·obtain⟨y,hy,rfl⟩:=Ad.1 hx;exact tZ k y.body (by have:=z2 y hy;omega) (Y y hy)
  ·obtain⟨y,hy,rfl⟩:=Ad.1 hx;exact tZ k y.body (by have:=z3 y hy;omega) (Z y hy)
inductive CF (s:Str) (b:Core):Core→Prop
 | mk {f n:Int} {nm:Str} {t:Ty} {ks:List Core} {bs:List Bind} {al:List Alt} (hg:(∀y∈gvN f nm bs,¬y∈pfR b)∨∀p∈ks++bs.map Bind.body,¬s∈pfR p)
   (hk:∀x∈ks,CF s b x) (hb:∀x∈bs,CF s b x.body) (ha:∀a∈al,(∀y∈a.vars,¬y∈pfR b)∨¬s∈pfR a.body) (ha':∀a∈al,CF s b a.body):CF s b (.mk f n nm t ks bs al)
theorem CF.of {X:Nat}{s:Str}{b:Core}(hb:∀z∈pfR b,¬nh z):∀(k:Nat) (c:Core),b7 c≤k→cE (QL X) c→CF s b c
 | 0,c,h,_=>by have:=c9 c;omega
 | k+1,.mk f n nm t ks bs al,h,I=>by
  obtain⟨J,z2,z3,_⟩:= @eQ f n nm t ks bs al;obtain⟨_,N,O,W⟩:=aT.1 I;obtain⟨g1,g2⟩:=aNv I;exact .mk (.inl fun y hy q=>hb y q (g1 y hy)) (fun x hx=>CF.of hb k x (by have:=J x hx;omega) (N x hx)) (fun x hx=>CF.of hb k x.body (by have:=z2 x hx;omega) (O x hx))
   (fun a ha=>.inl fun y hy q=>hb y q (g2 a ha y hy)) fun a ha=>CF.of hb k a.body (by have:=z3 a ha;omega) (W a ha)
theorem aJ3 {sb:Core→Str→Core→Core}{s:Str}{b:Core}{ns:List Str}{ps:List Core}(hf:(∀n∈ns,¬n∈pfR b)∨∀p∈ps,¬s∈pfR p) (hs:∀p∈ps,tE (sb p s b)=nS (tE p) s (tE b)):
  (bX sb s b ns ps).1=ns∧(bX sb s b ns ps).2.map tE=(if s∈ns then ps.map tE else(ps.map tE).map fun p=>nS p s (tE b)):=by
 unfold bX;split
 ·rename_i h;have hf:∀n∈ns,¬n∈pfR b:=hf.resolve_right fun hf=>by
   obtain⟨p,hp,hx⟩:=Cb.1 h.1;exact hf p hp hx
  rw[xJ hf,φ h.2];refine⟨rfl,?_⟩;rw[A1,A1];exact A6 hs
 ·rename_i h;refine⟨rfl,?_⟩;by_cases hn:s∈ns
  ·rw[ξ hn]
  ·rw[φ hn]
   exact(dX fun q I=>by
    obtain⟨p,hp,rfl⟩:=Ad.1 I
    exact tL _ _ (le_refl _) fun hx=>h ⟨Cb.2 ⟨p,hp,by rw[oU] at hx;exact hx⟩,hn⟩).symm
theorem aRn {x:Str}{b:Core}:∀(bs:List Bind) (l:List Core),l.map tE=bs.map (fun a=>nS (tE a.body) x b)→(mkB (bs.map Bind.ty) (bs.map Bind.name) l).map tEB=(bs.map tEB).map (nSB x b)
 | [],l,_=>by simp[mkB]
 | .mk s t c::bs,[],h=>by cases h
 | .mk s t c::bs,y::l,h=>by
  rw[Am,Am] at h;obtain⟨h1,h2⟩:=List.cons.inj h;rw[Am,Am,mkB,Am,aRn bs l h2,Am,Am];congr 1;exact congrArg (Bind.mk s zTy) h1
theorem aFa:∀(bs:List Bind) (l:List Core),l.map tE=bs.map (fun a=>tE a.body)→(mkB (bs.map Bind.ty) (bs.map Bind.name) l).map tEB=bs.map tEB
 | [],l,_=>by simp[mkB]
 | .mk s t c::bs,[],h=>by cases h
 | .mk s t c::bs,y::l,h=>by
  rw[Am,Am] at h;obtain⟨h1,h2⟩:=List.cons.inj h;rw[Am,Am,mkB,Am,aFa bs l h2,Am];congr 1;exact congrArg (Bind.mk s zTy) h1
theorem aQ6 {X:Nat}{s:Str}{b:Core}:∀(k:Nat) (c:Core),b7 (tE c)≤k→cE (QL X) (tE c)→CF s b (tE c)→tE (cB k c s b)=nS (tE c) s (tE b):=by
 intro k
 induction k with
 | zero=>intro c h;have:=c9 (tE c);omega
 | succ k ih=>
 intro c h J N;rw[cB];by_cases hv:c.form=1∧c.name=s
 ·rw[ξ hv];obtain⟨f,n,nm,t,ks,bs,al⟩:=c;obtain⟨h1,h2⟩:=hv;have h1:f=1:=h1;have h2:nm=s:=h2;rw[iX,φ (show ¬f=7 by omega),nS,ξ h1,ξ h2]
 rw[φ hv];have O:tE (if c.form=7∧s∈pfR c then aHq c (tyR b) else c)=tE c:=by
  split
  ·rename_i h7;exact aQ8 h7.1 _
  ·rfl
 have Z:¬((if c.form=7∧s∈pfR c then aHq c (tyR b) else c).form=1∧(if c.form=7∧s∈pfR c then aHq c (tyR b) else c).name=s):=by
  split
  ·rename_i h7;intro e;have:=aB2 (aHq c (tyR b));rw[aQ8 h7.1,aB2] at this;omega
  ·exact hv
 generalize (if c.form=7∧s∈pfR c then aHq c (tyR b) else c)=d at O Z;rw[←O] at h J N ⊢;clear O hv;obtain⟨f,n,nm,t,ks,bs,al⟩:=d;rw[iX] at h J N;by_cases h1:f=1
 ·obtain⟨Y,W,e3⟩:=q9 J h1;rw[List.map_eq_nil_iff] at Y W e3;subst Y W e3;have hn:¬nm=s:=fun e=>Z ⟨h1,e⟩
  rw[iX,nS,ξ h1,φ (show ¬(if f=7 then [97] else nm)=s by rw[φ (by omega)];exact hn),oM,iX];unfold zNm zKs zBs;rw[φ (show ¬f=5 by omega)];simp[mkB]
 obtain⟨_,k1,k2,k3⟩:=aT.1 J;obtain⟨z1,z2,z3,_⟩:= @eQ f n (if f=7 then [97] else nm) zTy (ks.map tE) (bs.map tEB) (al.map tEA);obtain⟨hg,f1,f2,f3,f4⟩:((∀y∈gvN f nm bs,¬y∈pfR b)∨∀p∈ks++bs.map Bind.body,¬s∈pfR p)∧(∀x∈ks,CF s b (tE x))∧(∀x∈bs,CF s b (tE x.body))∧(∀a∈al,(∀y∈a.vars,¬y∈pfR b)∨¬s∈pfR a.body)∧∀a∈al,CF s b (tE a.body):=by
  cases N with
  | mk hg hk hb ha ha'=>
   rw[rE] at hg;refine⟨hg.imp (fun h=>h) fun h p hp hs=>?_,fun x hx=>hk _ (Ad.2 ⟨x,hx,rfl⟩),fun x hx=>hb _ (Ad.2 ⟨x,hx,rfl⟩),fun a h=>?_,fun a h=>ha' _ (Ad.2 ⟨a,h,rfl⟩)⟩
   ·refine h (tE p) ?_ (by rw[oU];exact hs);rcases χ.1 hp with hp | hp
    ·exact χ.2 (.inl (Ad.2 ⟨p,hp,rfl⟩))
    ·obtain⟨y,hy,rfl⟩:=Ad.1 hp;exact χ.2 (.inr (Ad.2 ⟨tEB y,Ad.2 ⟨y,hy,rfl⟩,rfl⟩))
   ·have:=ha _ (Ad.2 ⟨a,h,rfl⟩);exact this.imp (fun h=>h) fun h hs=>h (by show s∈pfR (tE a.body);rw[oU];exact hs)
 have ik:∀p∈ks,tE (cB k p s b)=nS (tE p) s (tE b):=fun p hp=>ih p (by have:=z1 (tE p) (Ad.2 ⟨p,hp,rfl⟩);omega) (k1 _ (Ad.2 ⟨p,hp,rfl⟩)) (f1 p hp)
 have ib:∀p∈bs,tE (cB k p.body s b)=nS (tE p.body) s (tE b):=fun p hp=>ih p.body (by have:=z2 (tEB p) (Ad.2 ⟨p,hp,rfl⟩);have:b7 (tEB p).body=b7 (tE p.body):=rfl;omega) (k2 _ (Ad.2 ⟨p,hp,rfl⟩)) (f2 p hp)
 have ia:∀p∈al,tE (cB k p.body s b)=nS (tE p.body) s (tE b):=fun p hp=>ih p.body (by have:=z3 (tEA p) (Ad.2 ⟨p,hp,rfl⟩);have:b7 (tEA p).body=b7 (tE p.body):=rfl;omega) (k3 _ (Ad.2 ⟨p,hp,rfl⟩)) (f4 p hp)
 obtain⟨p1,p2⟩:=aJ3 (sb:=cB k) (s:=s) (b:=b) (ns:=gvN f nm bs) (ps:=ks++bs.map Bind.body) hg fun p hp=>by
  rcases χ.1 hp with hp | hp
  ·exact ik p hp
  ·obtain⟨z,hz,rfl⟩:=Ad.1 hp;exact ib z hz
 have hA:(al.map (jL (cB k) s b)).map tEA=(al.map tEA).map (nSA s (tE b)):=by
  rw[A1,A1];refine A6 fun a ha=>?_
  have hv:(∀y∈a.vars,¬y∈pfR b)∨∀p∈[a.body],¬s∈pfR p:=(f3 a ha).imp (fun h=>h) fun h p hp=>by rw[Aa.1 hp];exact h
  obtain⟨r1,r2⟩:=aJ3 (sb:=cB k) (s:=s) (b:=b) (ns:=a.vars) (ps:=[a.body]) hv fun p hp=>by rw[Aa.1 hp];exact ia a ha
  obtain⟨af,an,am,I,ac⟩:=a;show Alt.mk af an am (bX (cB k) s b I [ac]).1 (tE ((bX (cB k) s b I [ac]).2.headD ac))=Alt.mk af an am I (if s∈I then tE ac else nS (tE ac) s (tE b));have r1:(bX (cB k) s b I [ac]).1=I:=r1;have r2:(bX (cB k) s b I [ac]).2.map tE=if s∈I then [tE ac] else [nS (tE ac) s (tE b)]:=r2
  have hl:tE ((bX (cB k) s b I [ac]).2.headD ac)=((bX (cB k) s b I [ac]).2.map tE).headD (tE ac):=by
   cases (bX (cB k) s b I [ac]).2<;>rfl
  rw[r1,hl,r2];by_cases hx:s∈I
  ·rw[ξ hx,ξ hx];rfl
  ·rw[φ hx,φ hx];rfl
 rw[oM,iX,iX,oV h1,rE,hA];unfold zNm zKs zBs;have Y:(if f=5 then(bX (cB k) s b (gvN f nm bs) (ks++bs.map Bind.body)).1.headD nm else nm)=nm:=by
  rw[p1];split
  ·rename_i h5;unfold gvN;rw[ξ h5];rfl
  ·rfl
 dsimp only;rw[Y,p1];have hlen:((bX (cB k) s b (gvN f nm bs) (ks++bs.map Bind.body)).2.take ks.length).map tE=((bX (cB k) s b (gvN f nm bs) (ks++bs.map Bind.body)).2.map tE).take ks.length:=map_take;have q:((bX (cB k) s b (gvN f nm bs) (ks++bs.map Bind.body)).2.drop ks.length).map tE=((bX (cB k) s b (gvN f nm bs) (ks++bs.map Bind.body)).2.map tE).drop ks.length:=List.map_drop;rw[hlen,p2];have hB:(mkB (bs.map Bind.ty) (gvN f nm bs) ((bX (cB k) s b (gvN f nm bs) (ks++bs.map Bind.body)).2.drop ks.length)).map tEB=if s∈gvN f nm bs then bs.map tEB else(bs.map tEB).map (nSB s (tE b)):=by
  by_cases h5:f=5
  ·obtain⟨_,e,_⟩:=cO J (.inl h5);rw[List.map_eq_nil_iff] at e;subst e;simp[mkB]
  ·have W:gvN f nm bs=bs.map Bind.name:=by unfold gvN;rw[φ h5];rfl
   rw[p2] at q;by_cases hx:s∈gvN f nm bs
   ·rw[ξ hx] at q ⊢;rw[Ar,drop_left' (θ _),A1] at q;rw[W] at q ⊢;exact aFa bs _ q
   ·rw[φ hx] at q ⊢;rw[Ar,Ar,drop_left' (by rw[θ,θ]),A1,A1] at q;rw[W] at q ⊢;exact aRn bs _ q
 rw[hB];by_cases hx:s∈gvN f nm bs
 ·rw[ξ hx,ξ hx,ξ hx,Ar,take_left' (θ _)]
 ·rw[φ hx,φ hx,φ hx,Ar,Ar,take_left' (by rw[θ,θ])]
section
variable {X:Nat}
theorem wA {c b:Core}{s:Str}(hb:∀z∈pfR b,¬nh z) (q:cE (QL X) (tE c)):tE (cB (m30 c) c s b)=nS (tE c) s (tE b):=
 aQ6 _ c (le_trans (bV _) (zR c)) q (CF.of hb _ _ (le_refl _) q)
theorem aWn (z:Str):tE (vC z)=vC z:=by unfold vC;rw[iX];rfl
theorem aWp (J:31≤X):∀(ps:List (Str×Str)) (c:Core),cE (QL X) (tE c)→(∀p∈ps,¬nh p.2∧p.2.length≤30)→tE (iB c ps)=iB (tE c) ps∧cE (QL X) (tE (iB c ps))
 | [],c,h,_=>⟨rfl,h⟩
 | p::ps,c,h,hp=>by
  obtain⟨h1,h2⟩:=hp p ζ;have hf:∀z∈pfR (vC p.2),¬nh z:=fun z N=>by rw[aO4,Aa] at N;rw[N];exact h1
  have I:=wA (c:=c) (s:=p.1) hf h;rw[aWn] at I;have O:=wE (X:=X) (s:=p.1) hf aN9 (m30 (tE c)) (tE c) (le_refl _) h;have:=aWp J ps (cB (m30 c) c p.1 (vC p.2)) (by rw[I];exact jP (aNt J h2) _ _ (le_refl _) h) fun q W=>hp q (κ _ W)
  rw[I,←O] at this;exact this
theorem aWo:∀(ps:List (Str×Core)) (c:Core),cE (QL X) (tE c)→(∀p∈ps,cE (QL X) (tE p.2)∧pfR p.2=[])→tE (mY c ps)=mY (tE c) (ps.map fun p=>(p.1,tE p.2))
 | [],c,_,_=>rfl
 | p::ps,c,h,hp=>by
  obtain⟨h1,h2⟩:=hp p ζ;have I:=wA (c:=c) (s:=p.1) (b:=p.2) (by rw[h2];simp) h;have J:=wE (X:=X) (s:=p.1) (b:=tE p.2) (by rw[oU,h2];simp) (aIf _) (m30 (tE c)) (tE c) (le_refl _) h;have:=aWo ps (cB (m30 c) c p.1 p.2) (by rw[I];exact jP h1 _ _ (le_refl _) h) fun q N=>hp q (κ _ N)
  rw[I,←J] at this;exact this
theorem aQ7 (I:31≤X) {c:Core}{names:List Str}{l:List Core}(h1:names.length=l.length) (h2:names.length≤1000) (hn:∀x∈names,nh x) (hc:cE (QL X) (tE c)) (hp:∀x∈pfR c,nh x)
  (hl:∀b∈l,cE (QL X) (tE b)∧pfR b=[]):tE (zB c names l)=fS (tE c) (names.zip (l.map tE)):=by
 have ht:∀x∈fX c l,nh x:=fun x hx=>by
  rcases χ.1 hx with hx | hx
  ·exact hp x hx
  ·obtain⟨b,hb,hx⟩:=Cb.1 hx;rw[(hl b hb).2] at hx;cases hx
 have J:fX (tE c) (l.map tE)=fX c l:=by
  unfold fX;simp only[List.flatMap_map,oU]
 have q:=aKk ht names.length;have e:=aTx I (tE c) names (l.map tE) (by rw[h1,θ]) h2 hn hc (by rw[oU];exact hp) fun b hb=>by
  obtain⟨y,hy,rfl⟩:=Ad.1 hb;exact⟨(hl y hy).1,by rw[oU];exact(hl y hy).2,aIf y⟩
 rw[←e];unfold zB;rw[J,q];have hw:∀p∈names.zip ((List.range names.length).map pcN),¬nh p.2∧p.2.length≤30:=fun p hp=>by
  obtain⟨m,hm,e⟩:=Ad.1 (of_mem_zip (a:=p.1) (b:=p.2) hp).2;have hm:=mem_range.1 hm;rw[←e];exact⟨jW m,a1b (by omega)⟩
 obtain⟨f1,f2⟩:=aWp I _ c hc hw;rw[aWo _ _ f2 fun p hp=>hl p.2 (of_mem_zip (a:=p.1) (b:=p.2) hp).2,f1];congr 1;rw[List.zip_map_right];rfl
end
inductive AV:List (Str×Str)→Str→Str→Prop
 | here {ρ:List (Str×Str)} {x y:Str}:AV ((x,y)::ρ) x y
 | there {ρ:List (Str×Str)} {x y a b:Str} (hx:¬x=a) (hy:¬y=b) (h:AV ρ x y):AV ((a,b)::ρ) x y
theorem AV.app {ρ τ:List (Str×Str)}{x y:Str}(h:AV ρ x y):AV (ρ++τ) x y:=by
 induction h with
 | here=>exact .here
 | there hx hy _ q=>exact .there hx hy q
theorem AV.mem {ρ:List (Str×Str)}{x y:Str}(h:AV ρ x y):x∈ρ.map (·.1)∧y∈ρ.map (·.2):=by
 induction h with
 | here=>exact⟨ζ,ζ⟩
 | there hx hy _ q=>exact⟨κ _ q.1,κ _ q.2⟩
theorem AV.mid:∀{ρ τ:List (Str×Str)}{x y:Str},¬x∈ρ.map (·.1)→¬y∈ρ.map (·.2)→AV τ x y→AV (ρ++τ) x y
 | [],_,_,_,_,_,h=>h
 | (a,b)::ρ,_,_,_,hx,hy,h=>.there (fun e=>hx (by rw[e];exact ζ)) (fun e=>hy (by rw[e];exact ζ))
  (AV.mid (fun e=>hx (κ _ e)) (fun e=>hy (κ _ e)) h)
theorem AV.split:∀{ρ τ:List (Str×Str)}{s s' x y:Str},AV (ρ++(s,s')::τ) x y→AV ρ x y∨(¬x∈ρ.map (·.1)∧¬y∈ρ.map (·.2)∧((x=s∧y=s')∨(¬x=s∧¬y=s'∧AV τ x y)))
 | [],τ,s,s',x,y,h=>by
  refine .inr ⟨by simp,by simp,?_⟩;cases h with
  | here=>exact .inl ⟨rfl,rfl⟩
  | there hx hy h=>exact .inr ⟨hx,hy,h⟩
 | (a,b)::ρ,τ,s,s',x,y,h=>by
  cases h with
  | here=>exact .inl .here
  | there hx hy h=>
   rcases AV.split (ρ:=ρ) h with g | ⟨g1,g2,g3⟩
   ·exact .inl (.there hx hy g)
   ·refine .inr ⟨fun e=>?_,fun e=>?_,g3⟩
    ·rcases Ao.1 e with e | e
     ·exact hx e
     ·exact g1 e
    ·rcases Ao.1 e with e | e
     ·exact hy e
     ·exact g2 e
def AH (x y:Alt):Prop:=x.form=y.form∧x.n=y.n∧x.name=y.name∧x.vars.length=y.vars.length∧(x.form=1∨x.vars=[])
inductive RA (H:Core→Core→Prop):List (Str×Str)→Core→Core→Prop
 | hole {ρ:List (Str×Str)} {b x:Core} (h:H b x):RA H ρ b x
 | var {ρ:List (Str×Str)} {n n':Int} {s s':Str} {t t':Ty} (h:AV ρ s s'):RA H ρ (.mk 1 n s t [] [] []) (.mk 1 n' s' t' [] [] [])
 | node {ρ:List (Str×Str)} {f n:Int} {s s':Str} {t t':Ty} {ks ks':List Core} {bs bs':List Bind} {al al':List Alt} (h1:¬f=1) (hs:f=5∨f=7∨s=s')
   (lk:ks.length=ks'.length) (lb:bs.length=bs'.length) (la:al.length=al'.length)
   (hk:∀(i:Nat) (x y:Core),ks[i]?=some x→ks'[i]?=some y→RA H ((gvN f s bs).zip (gvN f s' bs')++ρ) x y)
   (hb:∀(i:Nat) (x y:Bind),bs[i]?=some x→bs'[i]?=some y→RA H ((gvN f s bs).zip (gvN f s' bs')++ρ) x.body y.body)
   (ha:∀(i:Nat) (x y:Alt),al[i]?=some x→al'[i]?=some y→AH x y)
   (ha':∀(i:Nat) (x y:Alt),al[i]?=some x→al'[i]?=some y→RA H (x.vars.zip y.vars++ρ) x.body y.body):RA H ρ (.mk f n s t ks bs al) (.mk f n s' t' ks' bs' al')
theorem cV {α β:Type}{g:α→β}{l:List α}{i:Nat}{y:β}(h:(l.map g)[i]?=some y):∃x,l[i]?=some x∧y=g x:=by
 rw[Az] at h;obtain⟨x,h1,h2⟩:=B0.1 h;exact⟨x,h1,h2.symm⟩
section
variable {H:Core→Core→Prop}{ρ τ:List (Str×Str)}{c c' b b':Core}
theorem RA.app (h:RA H ρ c c'):RA H (ρ++τ) c c':=by
 induction h with
 | hole h=>exact .hole h
 | var h=>exact .var h.app
 | node h1 hs lk lb la _ _ ha _ q I J=>
  exact .node h1 hs lk lb la (fun i x y hx hy=>by have:=q i x y hx hy;rwa [At] at this) (fun i x y hx hy=>by have:=I i x y hx hy;rwa [At] at this) ha
   fun i x y hx hy=>by have:=J i x y hx hy;rwa [At] at this
theorem RA.nil (h:RA H [] c c'):RA H ρ c c':=h.app (ρ:=[]) (τ:=ρ)
def gS (l:List Str) (s:Str) (b c:Core):Core:=if s∈l then c else nS c s b
theorem aUk {l:List Str}{f n:Int}{s nm:Str}{t:Ty}{ks:List Core}{bs:List Bind}{al:List Alt}(h1:¬f=1):gS l s b (.mk f n nm t ks bs al)=
  .mk f n nm t (ks.map (gS (gvN f nm bs++l) s b)) (bs.map fun x=>.mk x.name x.ty (gS (gvN f nm bs++l) s b x.body)) (al.map fun a=>.mk a.form a.n a.name a.vars (gS (a.vars++l) s b a.body)):=by
 unfold gS;by_cases h:s∈l
 ·have e:∀m:List Str,s∈m++l:=fun m=>χ.2 (.inr h)
  rw[ξ h];congr 1
  ·exact(dX fun x _=>ξ (e _)).symm
  ·exact(dX fun x _=>by rw[ξ (e _)];obtain⟨_,_,_⟩:=x;rfl).symm
  ·exact(dX fun x _=>by rw[ξ (e _)];obtain⟨_,_,_,_,_⟩:=x;rfl).symm
 ·have e:∀m:List Str,s∈m++l↔s∈m:=fun m=>by rw[χ];exact or_iff_left h
  rw[φ h,oV h1];congr 1
  ·by_cases hx:s∈gvN f nm bs
   ·rw[ξ hx];exact(dX fun x _=>ξ ((e _).2 hx)).symm
   ·rw[φ hx];exact A6 fun x _=>(φ fun h=>hx ((e _).1 h)).symm
  ·by_cases hx:s∈gvN f nm bs
   ·rw[ξ hx];exact(dX fun x _=>by rw[ξ ((e _).2 hx)];obtain⟨_,_,_⟩:=x;rfl).symm
   ·rw[φ hx];exact A6 fun x _=>by rw[φ fun h=>hx ((e _).1 h)];rfl
  ·refine A6 fun x _=>?_
   unfold nSA;congr 1;by_cases hx:s∈x.vars
   ·rw[ξ hx,ξ ((e _).2 hx)]
   ·rw[φ hx,φ fun h=>hx ((e _).1 h)]
theorem aHn {f:Int}{nm:Str}{bs:List Bind}{g:Core→Core}:gvN f nm (bs.map fun x=>.mk x.name x.ty (g x.body))=gvN f nm bs:=by
 unfold gvN;rw[A1];rfl
theorem aFp {f:Int}{s s':Str}{bs bs':List Bind}(h:bs.length=bs'.length):(gvN f s bs).length=(gvN f s' bs').length:=by
 unfold gvN;rw[ω,ω,θ,θ,h];congr 1;split<;>rfl
theorem zip_fst {l m:List Str}(h:l.length=m.length):(l.zip m).map (·.1)=l:=List.map_fst_zip (le_of_eq h)
theorem iW {l m:List Str}(h:l.length=m.length):(l.zip m).map (·.2)=m:=List.map_snd_zip (le_of_eq h.symm)
theorem RA.sub (hc:∀b x,H b x→pfR b=[]∧pfR x=[]) (Y:RA H [] b b') {Z:List (Str×Str)}(h:RA H Z c c'):∀{ρ τ:List (Str×Str)}{s s':Str},Z=ρ++(s,s')::τ→
  RA H (ρ++τ) (gS (ρ.map (·.1)) s b c) (gS (ρ.map (·.2)) s' b' c'):=by
 induction h with
 | @hole _ p q h=>
  intro ρ τ s s' _;obtain⟨h1,h2⟩:=hc _ _ h;have e:∀(l:List Str) (s:Str) (b c:Core),pfR c=[]→gS l s b c=c:=fun l s b c h=>by
   unfold gS;split
   ·rfl
   ·exact tL _ c (le_refl _) (by rw[h];simp)
  rw[e _ _ _ _ h1,e _ _ _ _ h2];exact .hole h
 | @var _ n n' x y t t' h=>
  intro ρ τ s s' he;subst he;have W:∀(l:List Str) (s:Str) (b:Core) (n:Int) (x:Str) (t:Ty),¬x=s∨s∈l→gS l s b (.mk 1 n x t [] [] [])=.mk 1 n x t [] [] []:=fun l s b n x t h=>by
   unfold gS;split
   ·rfl
   ·rename_i hl;rw[nS,ξ rfl,φ (h.resolve_right hl)]
  rcases h.split with g | ⟨g1,g2,⟨rfl,rfl⟩ | ⟨g3,g4,g5⟩⟩
  ·obtain⟨m1,m2⟩:=g.mem;rw[W _ _ _ _ _ _ ?_,W _ _ _ _ _ _ ?_]
   ·exact .var g.app
   ·by_cases e:y=s'
    ·exact .inr (e▸m2)
    ·exact .inl e
   ·by_cases e:x=s
    ·exact .inr (e▸m1)
    ·exact .inl e
  ·unfold gS;rw[φ g1,φ g2,nS,ξ rfl,ξ rfl,nS,ξ rfl,ξ rfl];exact Y.nil
  ·rw[W _ _ _ _ _ _ (.inl g3),W _ _ _ _ _ _ (.inl g4)];exact .var (g5.mid g1 g2)
 | @node _ f n x y t t' ks ks' bs bs' al al' h1 hs lk lb la _ _ ha _ ik ib ia=>
  intro ρ τ s s' he;subst he;have hz:=aFp (f:=f) (s:=x) (s':=y) lb;have em:(((gvN f x bs).zip (gvN f y bs')++ρ).map (·.1))=gvN f x bs++ρ.map (·.1):=by rw[Ar,zip_fst hz]
  have en:(((gvN f x bs).zip (gvN f y bs')++ρ).map (·.2))=gvN f y bs'++ρ.map (·.2):=by rw[Ar,iW hz]
  have assoc:∀N:List (Str×Str),N++(ρ++(s,s')::τ)=(N++ρ)++(s,s')::τ:=fun N=>(At _ _ _).symm
  rw[aUk h1,aUk h1];refine .node h1 hs (by rw[θ,θ];exact lk) (by rw[θ,θ];exact lb) (by rw[θ,θ];exact la) (fun i p q hp O=>?_) (fun i p q hp O=>?_) (fun i p q hp O=>?_) (fun i p q hp O=>?_)
  ·obtain⟨p,I,rfl⟩:=cV hp;obtain⟨q,J,rfl⟩:=cV O;have:=ik i p q I J (assoc _);rw[em,en,At] at this;rw[aHn,aHn];exact this
  ·obtain⟨p,I,rfl⟩:=cV hp;obtain⟨q,J,rfl⟩:=cV O;have:=ib i p q I J (assoc _);rw[em,en,At] at this;rw[aHn,aHn];exact this
  ·obtain⟨p,I,rfl⟩:=cV hp;obtain⟨q,J,rfl⟩:=cV O;exact ha i p q I J
  ·obtain⟨p,I,rfl⟩:=cV hp;obtain⟨q,J,rfl⟩:=cV O;have:=ia i p q I J (assoc _);have hl:=(ha i p q I J).2.2.2.1
   rw[Ar,Ar,zip_fst hl,iW hl,At] at this;exact this
theorem RA.nS (hc:∀b x,H b x→pfR b=[]∧pfR x=[]) (q:RA H [] b b') {s s':Str}(h:RA H ((s,s')::τ) c c'):RA H τ (nS c s b) (nS c' s' b'):=RA.sub hc q h (ρ:=[]) rfl
theorem RA.fS (hc:∀b x,H b x→pfR b=[]∧pfR x=[]):∀{ns ns':List Str}{l l':List Core}{c c':Core},ns.length=l.length→ns'.length=l'.length→ns.length=ns'.length→(∀(i:Nat) (x y:Core),l[i]?=some x→l'[i]?=some y→RA H [] x y)→
  RA H (ns.zip ns'++τ) c c'→RA H τ (fS c (ns.zip l)) (fS c' (ns'.zip l'))
 | [],[],_,_,c,c',_,_,_,_,h=>h
 | [],_::_,_,_,_,_,_,_,h,_,_=>by cases h
 | _::_,[],_,_,_,_,_,_,h,_,_=>by cases h
 | _::_,_::_,[],_,_,_,h,_,_,_,_=>by cases h
 | _::_,_::_,_::_,[],_,_,_,h,_,_,_=>by cases h
 | s::ns,s'::ns',x::l,y::l',c,c',h1,h2,h3,hl,h=>by
  have h:RA H ((s,s')::(ns.zip ns'++τ)) c c':=h;exact RA.fS hc (ns:=ns) (ns':=ns') (l:=l) (l':=l') (by simpa using h1) (by simpa using h2) (by simpa using h3) (fun i p q hp I=>hl (i+1) p q hp I) (RA.nS hc (hl 0 x y rfl rfl) h)
end
def gE (p:Str×List Core):Str×List Core:=(p.1,p.2.map tE)
mutual
theorem aUe:∀c:Core,gvC (tE c)=(gvC c).map gE
 | .mk f n s t ks bs al=>by
  rw[tE,gvC,gvC,aX6 ks];by_cases h2:f=2
  ·rw[ξ h2,ξ h2,φ (show ¬f=7 by omega)];rfl
  rw[φ h2,φ h2];by_cases h4:f=4
  ·rw[ξ h4,ξ h4,aB1];cases gvH ks with
   | none=>rfl
   | some p=>simp[gE]
  rw[φ h4,φ h4];by_cases h6:f=6
  ·rw[ξ h6,ξ h6]
  ·rw[φ h6,φ h6];rfl
theorem aX6:∀l:List Core,gvH (tEs l)=(gvH l).map gE
 | []=>by rw[tEs,gvH];rfl
 | c::l=>by rw[tEs,gvH,gvH,aUe c]
end
theorem aTf (c:Core):shC (tE c)=shC c:=by
 unfold shC;rw[aB2,aUe,Option.isSome_map]
section
variable {H:Core→Core→Prop}{ρ:List (Str×Str)}
structure ND (H:Core→Core→Prop) (ρ:List (Str×Str)) (f n:Int) (s:Str) (ks:List Core) (bs:List Bind) (al:List Alt) (f' n':Int) (s':Str) (ks':List Core) (bs':List Bind) (al':List Alt):Prop where
 ef:f=f'
 en:n=n'
 es:f=5∨f=7∨s=s'
 lk:ks.length=ks'.length
 lb:bs.length=bs'.length
 la:al.length=al'.length
 kk:∀(i:Nat) (x y:Core),ks[i]?=some x→ks'[i]?=some y→RA H ((gvN f s bs).zip (gvN f s' bs')++ρ) (tE x) (tE y)
 kb:∀(i:Nat) (x y:Bind),bs[i]?=some x→bs'[i]?=some y→RA H ((gvN f s bs).zip (gvN f s' bs')++ρ) (tE x.body) (tE y.body)
 ka:∀(i:Nat) (x y:Alt),al[i]?=some x→al'[i]?=some y→AH x y∧RA H (x.vars.zip y.vars++ρ) (tE x.body) (tE y.body)
theorem ND.ra {f n:Int}{s:Str}{t:Ty}{ks:List Core}{bs:List Bind}{al:List Alt}{f' n':Int}{s':Str}{t':Ty}{ks':List Core}{bs':List Bind}{al':List Alt}(h1:¬f=1) (h:ND H ρ f n s ks bs al f' n' s' ks' bs' al'):
  RA H ρ (tE (.mk f n s t ks bs al)) (tE (.mk f' n' s' t' ks' bs' al')):=by
 obtain⟨rfl,rfl,hs,lk,lb,la,k,b,a⟩:=h;rw[iX,iX];refine .node h1 ?_ (by rw[θ,θ];exact lk) (by rw[θ,θ];exact lb) (by rw[θ,θ];exact la) (fun i p q hp I=>?_) (fun i p q hp I=>?_) (fun i p q hp I=>?_) (fun i p q hp I=>?_)
 ·rcases hs with h | h | h
  ·exact .inl h
  ·exact .inr (.inl h)
  ·exact .inr (.inr (by rw[h]))
 ·obtain⟨p,J,rfl⟩:=cV hp;obtain⟨q,N,rfl⟩:=cV I;rw[rE,rE];exact k i p q J N
 ·obtain⟨p,J,rfl⟩:=cV hp;obtain⟨q,N,rfl⟩:=cV I;rw[rE,rE];exact b i p q J N
 ·obtain⟨p,J,rfl⟩:=cV hp;obtain⟨q,N,rfl⟩:=cV I;exact(a i p q J N).1
 ·obtain⟨p,J,rfl⟩:=cV hp;obtain⟨q,N,rfl⟩:=cV I;exact(a i p q J N).2
theorem RA.inv {f n:Int}{s:Str}{t:Ty}{ks:List Core}{bs:List Bind}{al:List Alt}{f' n':Int}{s':Str}{t':Ty}{ks':List Core}{bs':List Bind}{al':List Alt}(h:RA H ρ (tE (.mk f n s t ks bs al)) (tE (.mk f' n' s' t' ks' bs' al'))):
  H (tE (.mk f n s t ks bs al)) (tE (.mk f' n' s' t' ks' bs' al'))∨(f=1∧AV ρ s s')∨(¬f=1∧ND H ρ f n s ks bs al f' n' s' ks' bs' al'):=by
 rw[iX,iX] at h ⊢;generalize hx:Core.mk f n (if f=7 then [97] else s) zTy (ks.map tE) (bs.map tEB) (al.map tEA)=x at h;generalize hy:Core.mk f' n' (if f'=7 then [97] else s') zTy (ks'.map tE) (bs'.map tEB) (al'.map tEA)=y at h;cases h with
 | hole h=>exact .inl h
 | var h=>
  injection hx with N O I e4 W Y Z;injection hy with g1 g2 g3 g4 g5 g6 g7;rw[φ (by omega)] at I g3;exact .inr (.inl ⟨N,by rw[I,g3];exact h⟩)
 | node h1 hs lk lb la hk hb ha ha'=>
  injection hx with N O I e4 W Y Z;injection hy with g1 g2 g3 g4 g5 g6 g7;subst N O W Y Z g5 g6 g7;obtain rfl:=g1;obtain rfl:=g2;rw[θ,θ] at lk lb la;refine .inr (.inr ⟨h1,rfl,rfl,?_,lk,lb,la,fun i p q hp J=>?_,fun i p q hp J=>?_,fun i p q hp J=>⟨?_,?_⟩⟩)
  ·rcases hs with h | h | h
   ·exact .inl h
   ·exact .inr (.inl h)
   ·by_cases h7:f'=7
    ·exact .inr (.inl h7)
    ·rw[←I,←g3,φ h7,φ h7] at h;exact .inr (.inr h)
  ·have:=hk i (tE p) (tE q) (by rw[Az,hp];rfl) (by rw[Az,J];rfl);rwa [←I,←g3,rE,rE] at this
  ·have:=hb i (tEB p) (tEB q) (by rw[Az,hp];rfl) (by rw[Az,J];rfl);rwa [←I,←g3,rE,rE] at this
  ·exact ha i (tEA p) (tEA q) (by rw[Az,hp];rfl) (by rw[Az,J];rfl)
  ·exact ha' i (tEA p) (tEA q) (by rw[Az,hp];rfl) (by rw[Az,J];rfl)
theorem AV.nil {x y:Str}(h:AV [] x y):False:=by cases h
theorem eZ {α β:Type}{l:List α}{m:List β}(h:l.length=m.length) {i:Nat}{x:α}(hx:l[i]?=some x):∃y,m[i]?=some y:=by
 have:=(Ab.1 hx).1
 exact⟨m[i]'(by omega),List.getElem?_eq_getElem _⟩
theorem RA.free (hc:∀b x,H b x→pfR b=[]∧pfR x=[]) {c c':Core}(h:RA H ρ c c'):(∀x∈pfR c,x∈ρ.map (·.1))∧∀x∈pfR c',x∈ρ.map (·.2):=by
 induction h with
 | hole h=>
  obtain⟨h1,h2⟩:=hc _ _ h;rw[h1,h2];simp
 | var h=>
  obtain⟨h1,h2⟩:=h.mem;refine⟨fun x hx=>?_,fun x hx=>?_⟩
  ·rw[pfR,ξ rfl,Aa] at hx;rw[hx];exact h1
  ·rw[pfR,ξ rfl,Aa] at hx;rw[hx];exact h2
 | @node ρ f n x y t t' ks ks' bs bs' al al' h1 hs lk lb la _ _ ha _ Y Z ia=>
  have W:=aFp (f:=f) (s:=x) (s':=y) lb;refine⟨fun z O=>?_,fun z O=>?_⟩
  ·rcases(gM h1).1 O with⟨p,hp,I,J⟩ | ⟨p,hp,I,J⟩
   ·rcases χ.1 hp with hp | hp
    ·obtain⟨i,hi⟩:=List.mem_iff_getElem?.1 hp;obtain⟨q,N⟩:=eZ lk hi;have:=(Y i p q hi N).1 z I;rw[Ar,zip_fst W] at this;exact(χ.1 this).resolve_left J
    ·obtain⟨p,kp,rfl⟩:=Ad.1 hp;obtain⟨i,hi⟩:=List.mem_iff_getElem?.1 kp;obtain⟨q,N⟩:=eZ lb hi;have:=(Z i p q hi N).1 z I;rw[Ar,zip_fst W] at this;exact(χ.1 this).resolve_left J
   ·obtain⟨i,hi⟩:=List.mem_iff_getElem?.1 hp;obtain⟨q,N⟩:=eZ la hi;have:=(ia i p q hi N).1 z I;rw[Ar,zip_fst (ha i p q hi N).2.2.2.1] at this;exact(χ.1 this).resolve_left J
  ·rcases(gM h1).1 O with⟨q,N,I,J⟩ | ⟨q,N,I,J⟩
   ·rcases χ.1 N with N | N
    ·obtain⟨i,hi⟩:=List.mem_iff_getElem?.1 N;obtain⟨p,hp⟩:=eZ lk.symm hi;have:=(Y i p q hp hi).2 z I;rw[Ar,iW W] at this;exact(χ.1 this).resolve_left J
    ·obtain⟨q,kq,rfl⟩:=Ad.1 N;obtain⟨i,hi⟩:=List.mem_iff_getElem?.1 kq;obtain⟨p,hp⟩:=eZ lb.symm hi;have:=(Z i p q hp hi).2 z I;rw[Ar,iW W] at this;exact(χ.1 this).resolve_left J
   ·obtain⟨i,hi⟩:=List.mem_iff_getElem?.1 N;obtain⟨p,hp⟩:=eZ la.symm hi;have:=(ia i p q hp hi).2 z I;rw[Ar,iW (ha i p q hp hi).2.2.2.1] at this;exact(χ.1 this).resolve_left J
theorem RA.closed (hc:∀b x,H b x→pfR b=[]∧pfR x=[]) {c c':Core}(h:RA H [] (tE c) (tE c')):pfR c=[]∧pfR c'=[]:=by
 obtain⟨h1,h2⟩:=h.free hc;rw[oU] at h1 h2;exact⟨List.eq_nil_iff_forall_not_mem.2 fun x hx=>(by have:=h1 x hx;cases this),List.eq_nil_iff_forall_not_mem.2 fun x hx=>(by have:=h2 x hx;cases this)⟩
theorem RA.gv (hh:∀b x,H b x→gvC b=none):∀(k:Nat) (c c':Core),b7 c≤k→cE (QL 403) c→RA H [] (tE c) (tE c')→∀(s:Str) (l:List Core),gvC c=some (s,l)→
  ∃l',gvC c'=some (s,l')∧l.length=l'.length∧∀(i:Nat) (p q:Core),l[i]?=some p→l'[i]?=some q→RA H [] (tE p) (tE q)
 | 0,c,c',h,_,_=>by have:=c9 c;omega
 | k+1,.mk f n nm t ks bs al,.mk f' n' nm' t' ks' bs' al',h,I,J=>by
  intro s l hg;obtain⟨Y,_⟩:= @eQ f n nm t ks bs al;obtain⟨_,Z,_⟩:=aT.1 I;rcases J.inv with J | ⟨_,J⟩ | ⟨_,J⟩
  ·have:=hh _ _ J;rw[aUe,hg] at this;cases this
  ·exact J.nil.elim
  obtain⟨rfl,rfl,hs,lk,lb,la,hk,_⟩:=J;rw[gvC] at hg ⊢;by_cases h2:f=2
  ·rw[ξ h2] at hg ⊢;obtain⟨rfl,rfl⟩:=Prod.mk.inj (Option.some.inj hg);rw[hs.resolve_left (by omega) |>.resolve_left (by omega)];exact⟨[],rfl,rfl,fun i p q hp=>by cases hp⟩
  rw[φ h2] at hg ⊢;by_cases h4:f=4
  ·rw[ξ h4] at hg ⊢;obtain⟨⟨a,b,rfl⟩,rfl,rfl⟩:=iN I (.inl h4);have N:gvN f nm []=[]:=by unfold gvN;rw[φ (by omega)];rfl
   rw[N] at hk
   match ks',lk with
   | [O,b'],_=>
    have ra:=hk 0 a O rfl rfl;have rb:=hk 1 b b' rfl rfl;rw[gvH] at hg ⊢;cases e:gvC a with
    | none=>rw[e] at hg;cases hg
    | some p=>
     rw[e] at hg;obtain⟨s1,W⟩:=p;obtain⟨l2,e1,e2,e3⟩:=RA.gv hh k a O (by have:=Y a ζ;omega) (Z a ζ) ra s1 W e;have hg:=Option.some.inj hg;obtain⟨rfl,rfl⟩:=Prod.mk.inj hg;rw[e1];refine⟨l2++[b'],rfl,by simp[e2],fun i p q hp I=>?_⟩;by_cases hi:i<W.length
     ·have hp:(W++[b])[i]?=some p:=hp;rw[A9 hi] at hp;rw[A9 (by omega)] at I;exact e3 i p q hp I
     ·have hp:(W++[b])[i]?=some p:=hp;rw[A3 (by omega)] at hp;rw[A3 (by omega),←e2] at I;cases hj:i-W.length with
      | zero=>
       rw[hj] at hp I;obtain rfl:=Option.some.inj hp;obtain rfl:=Option.some.inj I;exact rb
      | succ j=>rw[hj] at hp;cases hp
  rw[φ h4] at hg ⊢;by_cases h6:f=6
  ·rw[ξ h6] at hg ⊢;obtain⟨⟨a,rfl⟩,rfl,rfl⟩:=cO I (.inr (.inl h6));have N:gvN f nm []=[]:=by unfold gvN;rw[φ (by omega)];rfl
   rw[N] at hk
   match ks',lk with
   | [O],_=>
    rw[gvH] at hg ⊢;exact RA.gv hh k a O (by have:=Y a ζ;omega) (Z a ζ) (hk 0 a O rfl rfl) s l hg
  ·rw[φ h6] at hg;cases hg
theorem n3 {c:Core}:shC c=true↔c.form=5∨c.form=7∨c.form=3∨∃p,gvC c=some p:=by
 unfold shC;rw[Bool.or_eq_true,Bool.or_eq_true,Bool.or_eq_true,decide_eq_true_iff,decide_eq_true_iff,decide_eq_true_iff,Option.isSome_iff_exists]
theorem RA.sh (hh:∀b x,H b x→shC b=false) {c c':Core}(I:cE (QL 403) c) (h:RA H [] (tE c) (tE c')) (hs:shC c=true):shC c'=true∧c.form=c'.form∧c.n=c'.n:=by
 have q:∀b x,H b x→gvC b=none:=fun b x h=>by
  have:=hh b x h;cases e:gvC b with
  | none=>rfl
  | some p=>rw[n3.2 (.inr (.inr (.inr ⟨p,e⟩)))] at this;cases this
 have g:=RA.gv q _ c c' (le_refl _) I h;obtain⟨f,n,s,t,ks,bs,al⟩:=c;obtain⟨f',n',s',t',ks',bs',al'⟩:=c';rcases h.inv with h | ⟨_,h⟩ | ⟨_,h⟩
 ·have:=hh _ _ h;rw[aTf,hs] at this;cases this
 ·exact h.nil.elim
 obtain⟨rfl,rfl,_⟩:=h;refine⟨n3.2 ?_,rfl,rfl⟩;rcases n3.1 hs with h | h | h | ⟨⟨s,l⟩,h⟩
 ·exact .inl h
 ·exact .inr (.inl h)
 ·exact .inr (.inr (.inl h))
 ·obtain⟨l',e,_⟩:=g s l h;exact .inr (.inr (.inr ⟨_,e⟩))
end
inductive Val where
 | mk (form n:Int) (name:Str) (kids:List Val)
def Val.form:Val→Int | .mk f _ _ _=>f
def Val.n:Val→Int | .mk _ n _ _=>n
def Val.name:Val→Str | .mk _ _ s _=>s
mutual
def aF1:Val→List (List C)
 | .mk _ _ _ l=>lU l
def lU:List Val→List (List C)
 | []=>[]
 | v::l=>[.int .i64 v.form,.int .i64 v.n,.str v.name,.sl 4 (aF1 v)]::lU l
end
def kP (v:Val):List C:=[.int .i64 v.form,.int .i64 v.n,.str v.name,.sl 4 (aF1 v)]
theorem j7:∀l:List Val,lU l=l.map kP
 | []=>by simp[lU]
 | v::l=>by rw[lU,j7 l];rfl
def zV:Val:=.mk 0 0 [] []
noncomputable def bN (bd:List Bind):Nat→Nat→Core→Core×Nat×Int
 | 0,n,c=>if shC c=true then(c,n,0) else(zC,0,3)
 | k+1,n,c=>if shC c=true then(c,n,0) else
  if(dC bd (m30 c) c).2=0 then(if 6000<dQ (dC bd (m30 c) c).1 then(zC,0,2) else bN bd k (n+1) (dC bd (m30 c) c).1) else(zC,0,(dC bd (m30 c) c).2)
abbrev VE:Type:=Val×Nat×Int
def dB (f:Nat→Core→VE):Nat→List Core→List Val×Nat×Int
 | F,[]=>([],F,0)
 | F,c::l=>
  if(f F c).2.2=0 then
   (if(dB f (f F c).2.1 l).2.2=0 then((f F c).1::(dB f (f F c).2.1 l).1,(dB f (f F c).2.1 l).2.1,0) else([],(dB f (f F c).2.1 l).2.1,(dB f (f F c).2.1 l).2.2))
  else([],(f F c).2.1,(f F c).2.2)
def aZx:Val:=.mk 4 0 [] []
def aZz:Val:=.mk 3 0 [] []
def aZy (n:Int):Val:=.mk 2 n [] []
def aBy (fs:List Fld) (f:Nat→Core→VE) (F:Nat):Option (Str×List Core)→VE
 | none=>(aZz,F,0)
 | some (s,l)=>match fs.find? fun x=>decide (x.name=s) with
  | none=>(aZz,F,0)
  | some x=>if ¬(l.length:Int)=x.arity then(aZz,F,0) else
   if(dB f F l).2.2=0 then(.mk 1 0 s (dB f F l).1,(dB f F l).2.1,0) else(zV,(dB f F l).2.1,(dB f F l).2.2)
noncomputable def eO (md:Mod):Nat→Nat→Nat→Core→VE
 | 0,_,F,_=>(zV,F,3)
 | g+1,d,F,c=>
  if d=0 then(aZx,F,0)
  else if ¬(bN md.binds F 0 c).2.2=0 then(zV,F,(bN md.binds F 0 c).2.2)
  else if(bN md.binds F 0 c).1.form=3 then(aZy (bN md.binds F 0 c).1.n,F-(bN md.binds F 0 c).2.1,0)
  else if(bN md.binds F 0 c).1.form=7 then eO md g d (F-(bN md.binds F 0 c).2.1) ((bN md.binds F 0 c).1.kids.headD zC)
  else aBy md.fields (fun F c=>eO md g (d-1) F c) (F-(bN md.binds F 0 c).2.1) (gvC (bN md.binds F 0 c).1)
theorem vS {bd:List Bind}:∀(k n:Nat) (c:Core),(bN bd k n c).2.2=0→n≤(bN bd k n c).2.1∧(bN bd k n c).2.1≤n+k
 | 0,n,c,h=>by
  rw[bN] at h ⊢;by_cases hs:shC c=true
  ·rw[ξ hs];exact⟨le_refl _,le_refl _⟩
  ·rw[φ hs] at h;cases h
 | k+1,n,c,h=>by
  rw[bN] at h ⊢;by_cases hs:shC c=true
  ·rw[ξ hs];exact⟨le_refl _,Nat.le_add_right _ _⟩
  rw[φ hs] at h ⊢;by_cases h1:(dC bd (m30 c) c).2=0
  ·rw[ξ h1] at h ⊢;by_cases h2:6000<dQ (dC bd (m30 c) c).1
   ·rw[ξ h2] at h;cases h
   ·rw[φ h2] at h ⊢;have:=vS k (n+1) _ h;omega
  ·rw[φ h1] at h;exact absurd h h1
theorem vZ {f:Nat→Core→VE}(hf:∀F c,(f F c).2.1≤F):∀(l:List Core) (F:Nat),(dB f F l).2.1≤F
 | [],F=>le_refl _
 | c::l,F=>by
  rw[dB];have h1:=hf F c;have h2:=vZ hf l (f F c).2.1;by_cases q:(f F c).2.2=0
  ·rw[ξ q];by_cases I:(dB f (f F c).2.1 l).2.2=0
   ·rw[ξ I];exact le_trans h2 h1
   ·rw[φ I];exact le_trans h2 h1
  ·rw[φ q];exact h1
theorem w3 {md:Mod}:∀(g d F:Nat) (c:Core),(eO md g d F c).2.1≤F
 | 0,d,F,c=>le_refl _
 | g+1,d,F,c=>by
  rw[eO];by_cases hd:d=0
  ·rw[ξ hd];exact le_refl _
  rw[φ hd];by_cases h0:¬(bN md.binds F 0 c).2.2=0
  ·rw[ξ h0];exact le_refl _
  rw[φ h0];by_cases h3:(bN md.binds F 0 c).1.form=3
  ·rw[ξ h3];exact sub_le _ _
  rw[φ h3];by_cases h7:(bN md.binds F 0 c).1.form=7
  ·rw[ξ h7];exact le_trans (w3 g d _ _) (sub_le _ _)
  rw[φ h7];refine le_trans (m:=F-(bN md.binds F 0 c).2.1) ?_ (sub_le _ _);generalize F-(bN md.binds F 0 c).2.1=F';cases gvC (bN md.binds F 0 c).1 with
  | none=>exact le_refl _
  | some p=>
   obtain⟨s,l⟩:=p;unfold aBy;dsimp only;cases hx:md.fields.find? fun x=>decide (x.name=s) with
   | none=>exact le_refl _
   | some x=>
    dsimp only;have hl:=vZ (fun F c=>w3 (md:=md) g (d-1) F c) l F';split
    ·exact le_refl _
    ·split
     ·exact hl
     ·exact hl
structure HOK (H:Core→Core→Prop) (bd:List Bind):Prop where
 cl:∀b x,H b x→pfR b=[]∧pfR x=[]
 sh:∀b x,H b x→shC b=false
 st:∀(c c':Core) (k:Nat),H (tE c) (tE c')→cE (QL 403) c→m30 c≤k→(dC bd k c).2=0∧RA H [] (tE (dC bd k c).1) (tE c')
def SO (H:Core→Core→Prop) (p p':CE) (c':Core):Prop:=(shC c'=false∧p.2=p'.2∧(p.2=0→RA H [] (tE p.1) (tE p'.1)))∨((∃b x,H b x)∧p.2=0∧RA H [] (tE p.1) (tE c'))
theorem aEj {α:Type}:∀{l:List α}{j:Nat}{y:α},l[j]?=some y→l.set j y=l
 | x::l,0,y,h=>by rw[List.set_cons_zero];congr 1;exact(Option.some.inj h).symm
 | x::l,j+1,y,h=>by rw[Cq,aEj (l:=l) (j:=j) (by simpa using h)]
 | [],j,y,h=>by cases h
section
variable {H:Core→Core→Prop}{f n:Int}{s:Str}{t:Ty}{ks:List Core}{bs:List Bind}{al:List Alt}{f' n':Int}{s':Str}{t':Ty}{ks':List Core}{bs':List Bind}{al':List Alt}{j:Nat}{x y r r':Core}{p':CE}{st st':Core→CE}
theorem ND.set (h:ND H [] f n s ks bs al f' n' s' ks' bs' al') (hg:gvN f s bs=[]) (J:RA H [] (tE r) (tE r')):ND H [] f n s (ks.set j r) bs al f' n' s' (ks'.set j r') bs' al':=by
 obtain⟨N,O,hs,lk,lb,la,k,b,a⟩:=h;refine⟨N,O,hs,by rw[B3,B3];exact lk,lb,la,fun i p q hp I=>?_,b,a⟩;by_cases e:j=i
 ·subst e;rw[Cj (by have:=(Ab.1 hp).1;rwa [B3] at this)] at hp;rw[Cj (by have:=(Ab.1 I).1;rwa [B3] at this)] at I;obtain rfl:=Option.some.inj hp;obtain rfl:=Option.some.inj I;rw[hg];exact J
 ·rw[List.getElem?_set_ne e] at hp I;exact k i p q hp I
theorem SO.kidB (h1:¬f=1) (h:ND H [] f n s ks bs al f' n' s' ks' bs' al') (hg:gvN f s bs=[]) (hx:ks[j]?=some x) (hy:ks'[j]?=some y) (hs:shC x=false) (he:∃b x,H b x) (h0:(st x).2=0) (q:RA H [] (tE (st x).1) (tE y)):
  SO H (nB st (.mk f n s t ks bs al) j) p' (.mk f' n' s' t' ks' bs' al'):=by
 have e:nB st (.mk f n s t ks bs al) j=(.mk f n s t (ks.set j (st x).1) bs al,0):=by
  unfold nB;rw[show(Core.mk f n s t ks bs al).kids[j]?=some x from hx];unfold aHm aH5;dsimp only;rw[hs,φ Aw,ξ h0]
 rw[e];have:=(h.set (j:=j) hg q).ra (t:=t) (t':=t') h1;rw[aEj hy] at this;exact .inr ⟨he,rfl,this⟩
theorem SO.kidA (h1:¬f=1) (h:ND H [] f n s ks bs al f' n' s' ks' bs' al') (hg:gvN f s bs=[]) (hx:ks[j]?=some x) (hy:ks'[j]?=some y) (hs:shC x=false) (q:shC y=false) (h0:(st x).2=(st' y).2) (I:(st x).2=0→RA H [] (tE (st x).1) (tE (st' y).1))
  (hc:shC (.mk f' n' s' t' ks' bs' al')=false):SO H (nB st (.mk f n s t ks bs al) j) (nB st' (.mk f' n' s' t' ks' bs' al') j) (.mk f' n' s' t' ks' bs' al'):=by
 refine .inl ⟨hc,?_⟩;unfold nB;rw[show(Core.mk f n s t ks bs al).kids[j]?=some x from hx,show(Core.mk f' n' s' t' ks' bs' al').kids[j]?=some y from hy];unfold aHm aH5;dsimp only;rw[hs,q,φ Aw,φ Aw,←h0];by_cases e:(st x).2=0
 ·rw[ξ e,ξ e];exact⟨rfl,fun _=>(h.set (j:=j) hg (I e)).ra (t:=t) (t':=t') h1⟩
 ·rw[φ e,φ e];exact⟨rfl,fun h=>absurd h e⟩
theorem SO.kidS (hx:ks[j]?=some x) (hy:ks'[j]?=some y) (hs:shC x=true) (q:shC y=true) (hc:shC (.mk f' n' s' t' ks' bs' al')=false):
  SO H (nB st (.mk f n s t ks bs al) j) (nB st' (.mk f' n' s' t' ks' bs' al') j) (.mk f' n' s' t' ks' bs' al'):=by
 refine .inl ⟨hc,?_⟩;unfold nB;rw[show(Core.mk f n s t ks bs al).kids[j]?=some x from hx,show(Core.mk f' n' s' t' ks' bs' al').kids[j]?=some y from hy];unfold aHm;dsimp only;rw[hs,q,ξ rfl,ξ rfl];exact⟨rfl,fun h=>by cases h⟩
theorem RA.leaf {ρ:List (Str×Str)}(h1:¬f=1):RA H ρ (tE (.mk f n s t [] [] [])) (tE (.mk f n s t' [] [] [])):=by
 refine ND.ra h1 ⟨rfl,rfl,.inr (.inr rfl),rfl,rfl,rfl,?_,?_,?_⟩
 ·intro i x y hx;cases hx
 ·intro i x y hx;cases hx
 ·intro i x y hx;cases hx
theorem RA.int {ρ:List (Str×Str)}{m:Int}:RA H ρ (tE (jS m)) (tE (jS m)):=RA.leaf (by decide)
theorem RA.tru {ρ:List (Str×Str)}{m:Bool}:RA H ρ (tE (aQ1 m)) (tE (aQ1 m)):=RA.leaf (by decide)
theorem aTz {a b:Int}(h:(mZ s a b).2=0):RA H [] (tE (mZ s a b).1) (tE (mZ s a b).1):=by
 unfold mZ at h ⊢;by_cases h1:s=aCj
 ·rw[ξ h1];exact .int
 rw[φ h1] at h ⊢;by_cases h1:s=aXq
 ·rw[ξ h1];exact .int
 rw[φ h1] at h ⊢;by_cases h1:s=aVz
 ·rw[ξ h1];exact .int
 rw[φ h1] at h ⊢;by_cases h1:s=aPb
 ·rw[ξ h1] at h ⊢;by_cases h0:b=0
  ·rw[ξ h0] at h;cases h
  ·rw[φ h0];exact .int
 rw[φ h1] at h ⊢;by_cases h1:s=nEq
 ·rw[ξ h1];exact .tru
 rw[φ h1] at h ⊢;by_cases h1:s=nLt
 ·rw[ξ h1];exact .tru
 ·rw[φ h1] at h;cases h
theorem aCo {c:Core}(h:c.form=5∨c.form=7∨c.form=3):gvC c=none:=by
 obtain⟨f,n,s,t,ks,bs,al⟩:=c;have h:f=5∨f=7∨f=3:=h;rw[gvC,φ (by omega),φ (by omega),φ (by omega)]
theorem aTg {c:Core}(h:shC c=false):gvC c=none:=by
 cases e:gvC c with
 | none=>rfl
 | some p=>rw[n3.2 (.inr (.inr (.inr ⟨p,e⟩)))] at h;cases h
theorem aB5 {c:Core}(h:shC c=false):¬c.form=5∧¬c.form=7∧¬c.form=3:=by
 refine⟨fun e=>?_,fun e=>?_,fun e=>?_⟩
 ·rw[n3.2 (.inl e)] at h;cases h
 ·rw[n3.2 (.inr (.inl e))] at h;cases h
 ·rw[n3.2 (.inr (.inr (.inl e)))] at h;cases h
theorem aWw {c:Core}(h:¬c.form=5∧¬c.form=7∧¬c.form=3) (hg:gvC c=none):shC c=false:=by
 cases e:shC c with
 | false=>rfl
 | true=>
  rcases n3.1 e with q | q | q | ⟨p,q⟩
  ·exact absurd q h.1
  ·exact absurd q h.2.1
  ·exact absurd q h.2.2
  ·rw[hg] at q;cases q
theorem aS1 {names I:List Str}{l l':List Core}{c c':Core}(hc:∀b x,H b x→pfR b=[]∧pfR x=[]) (h12:l.length≤1000) (h1:names.length=l.length) (h2:I.length=l'.length) (h3:names.length=I.length)
  (hn:∀x∈names,nh x) (O:∀x∈I,nh x) (J:cE (QL 403) c) (W:cE (QL 403) c') (hl:∀b∈l,cE (QL 403) b) (Y:∀b∈l',cE (QL 403) b)
  (Z:RA H (names.zip I) (tE c) (tE c')) (N:∀(i:Nat) (p q:Core),l[i]?=some p→l'[i]?=some q→RA H [] (tE p) (tE q)):RA H [] (tE (zB c names l)) (tE (zB c' I l')):=by
 obtain⟨g1,g2⟩:=Z.free hc;rw[oU,zip_fst h3] at g1;rw[oU,iW h3] at g2;have ll:l.length=l'.length:=by omega
 rw[aQ7 (X:=403) (by decide) h1 (by omega) hn (tZ _ c (le_refl _) J) (fun x hx=>hn x (g1 x hx)) fun b hb=>?_,aQ7 (X:=403) (by decide) h2 (by omega) O (tZ _ c' (le_refl _) W) (fun x hx=>O x (g2 x hx)) fun b hb=>?_]
 ·refine RA.fS hc (by rw[θ];exact h1) (by rw[θ];exact h2) h3 (fun i p q hp J=>?_) (by rw[A0];exact Z);obtain⟨p,kp,rfl⟩:=cV hp;obtain⟨q,kq,rfl⟩:=cV J;exact N i p q kp kq
 ·obtain⟨i,hi⟩:=List.mem_iff_getElem?.1 hb;obtain⟨p,hp⟩:=eZ ll.symm hi;exact⟨tZ _ b (le_refl _) (Y b hb),((N i p b hp hi).closed hc).2⟩
 ·obtain⟨i,hi⟩:=List.mem_iff_getElem?.1 hb;obtain⟨q,J⟩:=eZ ll hi;exact⟨tZ _ b (le_refl _) (hl b hb),((N i b q hi J).closed hc).1⟩
end
theorem aNu {i:Int}{s:Str}{t:Ty}{ks:List Core}{bs:List Bind}{al:List Alt}(h:cE (QL 403) (.mk 8 i s t ks bs al)) {b:Bind}(hb:b∈bs):cE (QL 403) (n0 bs b):=by
 obtain⟨⟨g1,g2,g3,g4,g5,g6,g7,g8⟩,_,q,_⟩:=aT.1 h;have I:w30 ([]:Str)=30:=rfl;unfold n0;refine aT.2 ⟨⟨by simp[okF],fun e=>absurd e (by decide),rfl,g4,?_,fun e=>absurd e (by decide),g7,by simp⟩,by simpa using q b hb,q,by simp⟩;unfold lw at g5 ⊢;rw[I];have:=kT s;simp only[Bs,sum_nil];omega
section
variable {H:Core→Core→Prop}
theorem aQr (hc:∀b x,H b x→pfR b=[]∧pfR x=[]) (hh:∀b x,H b x→shC b=false) {c c':Core}(O:cE (QL 403) c) (W:RA H [] (tE c) (tE c')) (hs:shC c=true)
  (Y:∀s l,gvC c=some (s,l)→∀x∈l,cE (QL 403) x) (J:∀s l,gvC c'=some (s,l)→∀x∈l,cE (QL 403) x)
  {a q:Alt} (h12:a.vars.length≤1000) (hn:∀x∈a.vars,nh x) (Z:∀x∈q.vars,nh x) (aa:cE (QL 403) a.body) (N:cE (QL 403) q.body) (ha:AH a q) (hb:RA H (a.vars.zip q.vars) (tE a.body) (tE q.body)):
  (gJ a c=none∧gJ q c'=none)∨∃r r',gJ a c=some r∧gJ q c'=some r'∧RA H [] (tE r) (tE r'):=by
 obtain⟨s1,s2,s3⟩:=RA.sh hh O W hs;have ab:∀b x,H b x→gvC b=none:=fun b x h=>aTg (hh b x h)
 have g:=RA.gv ab _ c c' (le_refl _) O W;obtain⟨a1,a2,a3,a4,a5⟩:=ha;have I:¬a.form=1→RA H [] (tE a.body) (tE q.body):=fun h1=>by
  have e:=a5.resolve_left h1;rw[e] at hb;exact hb
 unfold gJ;rw[←a1];by_cases h3:a.form=3
 ·rw[ξ h3,ξ h3];exact .inr ⟨_,_,rfl,rfl,I (by omega)⟩
 rw[φ h3,φ h3];by_cases h2:a.form=2
 ·rw[ξ h2,ξ h2,←s2,←s3,←a2];by_cases e:c.form=3∧c.n=a.n
  ·rw[ξ e,ξ e];exact .inr ⟨_,_,rfl,rfl,I (by omega)⟩
  ·rw[φ e,φ e];exact .inl ⟨rfl,rfl⟩
 rw[φ h2,φ h2];cases hg:gvC c with
 | none=>
  have hf:c.form=5∨c.form=7∨c.form=3:=by
   rcases n3.1 hs with h | h | h | ⟨p,h⟩
   ·exact .inl h
   ·exact .inr (.inl h)
   ·exact .inr (.inr h)
   ·rw[hg] at h;cases h
  rw[s2] at hf;rw[aCo hf];exact .inl ⟨rfl,rfl⟩
 | some p=>
  obtain⟨s,l⟩:=p;obtain⟨l',g1,g2,g3⟩:=g s l hg;rw[g1];dsimp only;rw[←a3,←a4,←g2];by_cases e:s=a.name∧l.length=a.vars.length
  ·rw[ξ e,ξ e];exact .inr ⟨_,_,rfl,rfl,aS1 hc (by omega) e.2.symm (by omega) a4 hn Z aa N (Y s l hg) (J s l' g1) hb g3⟩
  ·rw[φ e,φ e];exact .inl ⟨rfl,rfl⟩
theorem aFx {α β:Type}{R:β→β→Prop}{g g':α→Option β}:∀{l l':List α},l.length=l'.length→(∀(i:Nat) (x y:α),l[i]?=some x→l'[i]?=some y→(g x=none∧g' y=none)∨∃r r',g x=some r∧g' y=some r'∧R r r')→
  (l.findSome? g=none∧l'.findSome? g'=none)∨∃r r',l.findSome? g=some r∧l'.findSome? g'=some r'∧R r r'
 | [],[],_,_=>.inl ⟨rfl,rfl⟩
 | [],_::_,h,_=>by cases h
 | _::_,[],h,_=>by cases h
 | x::l,y::l',h,hg=>by
  rcases hg 0 x y rfl rfl with⟨h1,h2⟩ | ⟨r,r',h1,h2,h3⟩
  ·rw[Cr,Cr,h1,h2];exact aFx (by simpa using h) fun i x y hx hy=>hg (i+1) x y hx hy
  ·rw[Cr,Cr,h1,h2];exact .inr ⟨r,r',rfl,rfl,h3⟩
theorem aPr:∀(k:Nat) (c:Core),b7 c≤k→cE (QL 403) c→∀(s:Str) (l:List Core),gvC c=some (s,l)→∀x∈l,cE (QL 403) x
 | 0,c,h,_=>by have:=c9 c;omega
 | k+1,.mk f n nm t ks bs al,h,q=>by
  intro s l hg;obtain⟨J,_⟩:= @eQ f n nm t ks bs al;obtain⟨_,I,_⟩:=aT.1 q;rw[gvC] at hg;by_cases h2:f=2
  ·rw[ξ h2] at hg;obtain⟨rfl,rfl⟩:=Prod.mk.inj (Option.some.inj hg);intro x hx;cases hx
  rw[φ h2] at hg;by_cases h4:f=4
  ·rw[ξ h4] at hg;obtain⟨⟨a,b,rfl⟩,rfl,rfl⟩:=iN q (.inl h4);rw[gvH] at hg;cases e:gvC a with
   | none=>rw[e] at hg;cases hg
   | some p=>
    rw[e] at hg;obtain⟨s1,N⟩:=p;have g:=aPr k a (by have:=J a ζ;omega) (I a ζ) s1 N e;obtain⟨rfl,rfl⟩:=Prod.mk.inj (Option.some.inj hg);intro x hx;rcases χ.1 hx with hx | hx
    ·exact g x hx
    ·exact I x (κ _ hx)
  rw[φ h4] at hg;by_cases h6:f=6
  ·rw[ξ h6] at hg;obtain⟨⟨a,rfl⟩,rfl,rfl⟩:=cO q (.inr (.inl h6));rw[gvH] at hg;exact aPr k a (by have:=J a ζ;omega) (I a ζ) s l hg
  ·rw[φ h6] at hg;cases hg
end
section
variable {H:Core→Core→Prop}{bd bd':List Bind}
theorem uT {c:Core}(hs:shC c=true) (hg:gvC c=none):c.form=5∨c.form=7∨c.form=3:=by
 rcases n3.1 hs with h | h | h | ⟨p,h⟩
 ·exact .inl h
 ·exact .inr (.inl h)
 ·exact .inr (.inr h)
 ·rw[hg] at h;cases h
noncomputable def apS (st:Core→CE) (f:Int) (c x b:Core) (t:Ty):CE:=if f=4∧x.form=5 then(cB (m30 (x.kids.headD zC)) (x.kids.headD zC) x.name b,0) else if f=6∧x.form=7 then(sTR (m30 (x.kids.headD zC)) (x.kids.headD zC) x.name t,0) else nB st c 0
noncomputable def csS (st:Core→CE) (c x:Core) (al:List Alt):CE:=if shC x=true then(match al.findSome? fun a=>gJ a x with | some r=>(r,0) | none=>(zC,52)) else nB st c 0
noncomputable def prS (st:Core→CE) (c x z:Core) (s:Str):CE:=if ¬shC x=true then nB st c 0 else if ¬shC z=true then nB st c 1 else if x.form=3∧z.form=3 then mZ s x.n z.n else(zC,51)
theorem wK {k k':Nat}(N:∀(c c':Core) (k':Nat),m30 c≤k→m30 c'≤k'→cE (QL 403) c→cE (QL 403) c'→RA H [] (tE c) (tE c')→shC c=false→SO H (dC bd k c) (dC bd' k' c') c')
  {f n:Int} {s:Str} {t:Ty} {ks:List Core} {bs:List Bind} {al:List Alt} {f' n':Int} {s':Str} {t':Ty} {ks':List Core} {bs':List Bind} {al':List Alt} {j:Nat} {x y:Core} {p':CE}
  (h1:¬f=1) (h:ND H [] f n s ks bs al f' n' s' ks' bs' al') (hg:gvN f s bs=[]) (hx:ks[j]?=some x) (hy:ks'[j]?=some y) (hk:m30 x≤k) (q:m30 y≤k') (O:cE (QL 403) x) (I:cE (QL 403) y) (hs:shC x=false)
  (hp:shC y=false→p'=nB (dC bd' k') (.mk f' n' s' t' ks' bs' al') j∧shC (.mk f' n' s' t' ks' bs' al')=false):
  SO H (nB (dC bd k) (.mk f n s t ks bs al) j) p' (.mk f' n' s' t' ks' bs' al'):=by
 have J:=h.kk j x y hx hy;have e:(gvN f s bs).zip (gvN f s' bs')=[]:=by rw[hg];rfl
 rw[e] at J;rcases N x y k' hk q O I J hs with⟨g1,g2,g3⟩ | ⟨g0,g1,g2⟩
 ·obtain⟨e,hc⟩:=hp g1;rw[e];exact SO.kidA h1 h hg hx hy hs g1 g2 g3 hc
 ·exact SO.kidB h1 h hg hx hy hs g0 g1 g2
theorem aOm (hH:HOK H bd):∀(k:Nat) (c c':Core) (k':Nat),m30 c≤k→m30 c'≤k'→cE (QL 403) c→cE (QL 403) c'→RA H [] (tE c) (tE c')→shC c=false→SO H (dC bd k c) (dC bd' k' c') c':=by
 intro k
 induction k with
 | zero=>intro c c' k' h;have:=dF c;omega
 | succ k ih=>
 intro c c' k' hk hk' N O hr hs;obtain⟨k',rfl⟩:∃j,k'=j+1:=⟨k'-1,by have:=dF c';omega⟩
 obtain⟨f,n,s,t,ks,bs,al⟩:=c;obtain⟨f',n',s',t',ks',bs',al'⟩:=c';rcases hr.inv with hh | ⟨_,h⟩ | ⟨h1,h⟩
 ·obtain⟨g1,g2⟩:=hH.st _ _ (k+1) hh N hk;exact .inr ⟨⟨_,_,hh⟩,g1,g2⟩
 ·exact h.nil.elim
 have hnd:=h;obtain⟨rfl,rfl,es,lk,lb,la,kk,kb,ka⟩:=h;have hm:∀x∈ks,m30 x≤k:=fun x hx=>by have:=fJ hx;rw[m30] at hk;omega
 have hm':∀x∈ks',m30 x≤k':=fun x hx=>by have:=fJ hx;rw[m30] at hk';omega
 obtain⟨_,q1,q2,q3⟩:=aT.1 N;obtain⟨_,q1',q2',q3'⟩:=aT.1 O;obtain⟨b1,b2⟩:=aNv N;obtain⟨b1',b2'⟩:=aNv O;have hf:=aB5 hs;have Y:=aTg hs;have hf:¬f=5∧¬f=7∧¬f=3:=hf;have f2:¬f=2:=fun e=>by rw[gvC,ξ e] at Y;cases Y
 have shn:(f=4∨f=6→gvH ks'=none)→shC (.mk f n s' t' ks' bs' al')=false:=fun hg=>aWw hf (by
  rw[gvC,φ f2];by_cases h4:f=4
  ·rw[ξ h4,hg (.inl h4)];rfl
  rw[φ h4];by_cases h6:f=6
  ·rw[ξ h6,hg (.inr h6)]
  ·rw[φ h6])
 have ss:s=s':=es.resolve_left hf.1 |>.resolve_left hf.2.1;subst ss;rw[nQ,nQ,φ h1,φ h1];by_cases Z:f=4∨f=6
 ·rw[ξ Z,ξ Z];have hb0:bs=[]∧bs'=[]:=by
   rcases Z with h4 | h6
   ·exact⟨(iN N (.inl h4)).2.1,(iN O (.inl h4)).2.1⟩
   ·exact⟨(cO N (.inr (.inl h6))).2.1,(cO O (.inr (.inl h6))).2.1⟩
  obtain⟨rfl,rfl⟩:=hb0;have hg0:gvN f s []=[]:=by unfold gvN;rw[φ (show ¬f=5 from hf.1)];rfl
  obtain⟨x,l,rfl⟩:∃x l,ks=x::l:=by
   rcases Z with h4 | h6
   ·obtain⟨⟨a,b,e⟩,_⟩:=iN N (.inl h4);exact⟨a,[b],e⟩
   ·obtain⟨⟨a,e⟩,_⟩:=cO N (.inr (.inl h6));exact⟨a,[],e⟩
  obtain⟨y,l',rfl⟩:∃y l',ks'=y::l':=by
   cases ks' with
   | nil=>cases lk
   | cons y l'=>exact⟨y,l',rfl⟩
  have I:=kk 0 x y rfl rfl;rw[hg0] at I;have I:RA H [] (tE x) (tE y):=I;have W:=q1 x ζ;have qy:=q1' y ζ;show SO H (apS (dC bd k) f (.mk f n s t (x::l) [] al) x ((x::l).getD 1 zC) t) (apS (dC bd' k') f (.mk f n s t' (y::l') [] al') y ((y::l').getD 1 zC) t') _;unfold apS;have hgx:gvC x=none:=by
   rw[gvC,φ f2] at Y;rcases Z with h4 | h6
   ·rw[ξ h4,gvH] at Y;cases e:gvC x with
    | none=>rfl
    | some p=>rw[e] at Y;cases Y
   ·rw[φ (by omega),ξ h6,gvH] at Y;exact Y
  cases J:shC x with
  | false=>
   have nx:=aB5 J;rw[φ (fun e=>nx.1 e.2),φ (fun e=>nx.2.1 e.2)];refine wK ih h1 hnd hg0 (j:=0) (x:=x) (y:=y) rfl rfl (hm x ζ) (hm' y ζ) W qy J fun hy=>?_
   have ny:=aB5 hy;rw[φ (fun e=>ny.1 e.2),φ (fun e=>ny.2.1 e.2)];exact⟨rfl,shn fun _=>aTg hy⟩
  | true=>
   obtain⟨hsy,exy,_⟩:=RA.sh hH.sh W I J;have hfx:=uT J hgx;have hc:shC (.mk f n s t' (y::l') [] al')=false:=shn fun _=>aCo (by rw[←exy];exact hfx)
   rw[←exy];by_cases ha:f=4∧x.form=5
   ·rw[ξ ha,ξ ha];obtain⟨rfl,hx5⟩:=ha;obtain⟨⟨a0,b,e⟩,_,rfl⟩:=iN N (.inl rfl);obtain⟨⟨a0',b',e'⟩,_,rfl⟩:=iN O (.inl rfl);obtain⟨rfl,rfl⟩:=List.cons.inj e;obtain⟨rfl,rfl⟩:=List.cons.inj e';have hbb:=kk 1 b b' rfl rfl;rw[hg0] at hbb;have hbb:RA H [] (tE b) (tE b'):=hbb;obtain⟨fx,nx,sx,tx,kx,bx,ax⟩:=x;obtain⟨fy,ny,sy,ty',ky,by',ay⟩:=y;have hx5:fx=5:=hx5;have hy5:fy=5:=by have:fx=fy:=exy;omega
    subst hx5 hy5;obtain⟨⟨u,rfl⟩,rfl,rfl⟩:=cO W (.inl rfl);obtain⟨⟨u',rfl⟩,rfl,rfl⟩:=cO qy (.inl rfl);rcases I.inv with hh | ⟨h0,_⟩ | ⟨_,hxn⟩
    ·have:=hH.sh _ _ hh;rw[aTf,J] at this;cases this
    ·cases h0
    have huu:=hxn.kk 0 u u' rfl rfl;have huu:RA H [(sx,sy)] (tE u) (tE u'):=huu;obtain⟨cb,cb'⟩:=hbb.closed hH.cl;have qu:=(aT.1 W).2.1 u ζ;have qu':=(aT.1 qy).2.1 u' ζ;refine .inl ⟨hc,rfl,fun _=>?_⟩;show RA H [] (tE (cB (m30 u) u sx b)) (tE (cB (m30 u') u' sy b'));rw[wA (X:=403) (by rw[cb];simp) (tZ _ u (le_refl _) qu),wA (X:=403) (by rw[cb'];simp) (tZ _ u' (le_refl _) qu')];exact RA.nS hH.cl hbb huu
   rw[φ ha,φ ha];by_cases hb:f=6∧x.form=7
   ·rw[ξ hb,ξ hb];obtain⟨rfl,hx7⟩:=hb;obtain⟨fx,nx,sx,tx,kx,bx,ax⟩:=x;obtain⟨fy,ny,sy,ty',ky,by',ay⟩:=y;have hx7:fx=7:=hx7;have hy7:fy=7:=by have:fx=fy:=exy;omega
    subst hx7 hy7;obtain⟨⟨u,rfl⟩,rfl,rfl⟩:=cO W (.inr (.inr rfl));obtain⟨⟨u',rfl⟩,rfl,rfl⟩:=cO qy (.inr (.inr rfl));rcases I.inv with hh | ⟨h0,_⟩ | ⟨_,hxn⟩
    ·have:=hH.sh _ _ hh;rw[aTf,J] at this;cases this
    ·cases h0
    have huu:=hxn.kk 0 u u' rfl rfl;have huu:RA H [] (tE u) (tE u'):=huu;refine .inl ⟨hc,rfl,fun _=>?_⟩;show RA H [] (tE (sTR (m30 u) u sx t)) (tE (sTR (m30 u') u' sy t'));rw[wB,wB];exact huu
   rw[φ hb,φ hb];exact SO.kidS rfl rfl J hsy hc
 rw[φ Z,φ Z];have hc:shC (.mk f n s t' ks' bs' al')=false:=shn fun e=>absurd e Z
 by_cases h8:f=8
 ·rw[ξ h8,ξ h8];subst h8;obtain⟨⟨x,rfl⟩,rfl,l12⟩:=vP N;obtain⟨⟨y,rfl⟩,rfl,l12'⟩:=vP O;have eg:∀l:List Bind,gvN 8 s l=l.map Bind.name:=fun l=>rfl
  have I:=kk 0 x y rfl rfl;rw[eg,eg,A0] at I;have lbl:(bs.map Bind.name).length=(bs'.map Bind.name).length:=by rw[θ,θ];exact lb
  refine .inl ⟨hc,rfl,fun _=>?_⟩;refine aS1 hH.cl (by rw[θ];omega) (by rw[θ,θ]) (by rw[θ,θ]) lbl b1 b1' (q1 x ζ) (q1' y ζ) (fun b hb=>?_) (fun b hb=>?_) I fun i p q hp N=>?_
  ·obtain⟨b,kb,rfl⟩:=Ad.1 hb;exact aNu N kb
  ·obtain⟨b,kb,rfl⟩:=Ad.1 hb;exact aNu O kb
  ·obtain⟨b,kp,rfl⟩:=cV hp;obtain⟨b',kq,rfl⟩:=cV N;refine ND.ra (by decide) ⟨rfl,rfl,.inr (.inr rfl),rfl,lb,rfl,fun i x y hx hy=>?_,fun i x y hx hy=>kb i x y hx hy,fun i x y hx=>by cases hx⟩;cases i with
   | zero=>
    obtain rfl:=Option.some.inj hx;obtain rfl:=Option.some.inj hy;exact kb _ b b' kp kq
   | succ i=>cases hx
 rw[φ h8,φ h8];by_cases h9:f=9
 ·rw[ξ h9,ξ h9];subst h9;obtain⟨⟨x,rfl⟩,rfl,l12,v12⟩:=y9 N;obtain⟨⟨y,rfl⟩,rfl,_,_⟩:=y9 O;have I:=kk 0 x y rfl rfl;have I:RA H [] (tE x) (tE y):=I;have W:=q1 x ζ;have qy:=q1' y ζ;show SO H (csS (dC bd k) (.mk 9 n s t [x] [] al) x al) (csS (dC bd' k') (.mk 9 n s t' [y] [] al') y al') _;unfold csS;cases J:shC x with
  | false=>
   rw[φ Aw];refine wK ih h1 hnd rfl (j:=0) (x:=x) (y:=y) rfl rfl (hm x ζ) (hm' y ζ) W qy J fun hy=>?_
   rw[hy,φ Aw];exact⟨rfl,hc⟩
  | true=>
   obtain⟨hsy,_⟩:=RA.sh hH.sh W I J;rw[hsy,ξ rfl,ξ rfl];have ht:=aFx (R:=fun r r'=>RA H [] (tE r) (tE r')) (g:=fun a=>gJ a x) (g':=fun a=>gJ a y) la fun i a a' ha ha'=>aQr hH.cl hH.sh W I J (aPr _ x (le_refl _) W) (aPr _ y (le_refl _) qy) (by have:=v12 a (η ha);omega) (b2 a (η ha)) (b2' a' (η ha'))
    (q3 a (η ha)) (q3' a' (η ha')) (ka i a a' ha ha').1 (by have:=(ka i a a' ha ha').2;rwa [A0] at this)
   rcases ht with⟨e1,e2⟩ | ⟨r,r',e1,e2,e3⟩
   ·rw[e1,e2];exact .inl ⟨hc,rfl,fun h=>by cases h⟩
   ·rw[e1,e2];exact .inl ⟨hc,rfl,fun _=>e3⟩
 rw[φ h9,φ h9];by_cases h10:f=10
 ·rw[ξ h10,ξ h10];subst h10;obtain⟨⟨x,z,rfl⟩,rfl,rfl⟩:=iN N (.inr rfl);obtain⟨⟨y,w,rfl⟩,rfl,rfl⟩:=iN O (.inr rfl);have I:=kk 0 x y rfl rfl;have I:RA H [] (tE x) (tE y):=I;have hzw:=kk 1 z w rfl rfl;have hzw:RA H [] (tE z) (tE w):=hzw;have W:=q1 x ζ;have qy:=q1' y ζ;have qz:=q1 z (κ _ ζ);have qw:=q1' w (κ _ ζ);show SO H (prS (dC bd k) (.mk 10 n s t [x,z] [] []) x z s) (prS (dC bd' k') (.mk 10 n s t' [y,w] [] []) y w s) _;unfold prS;cases J:shC x with
  | false=>
   rw[ξ Aw];refine wK ih h1 hnd rfl (j:=0) (x:=x) (y:=y) rfl rfl (hm x ζ) (hm' y ζ) W qy J fun hy=>?_
   rw[hy,ξ Aw];exact⟨rfl,hc⟩
  | true=>
   obtain⟨hsy,e1,e2⟩:=RA.sh hH.sh W I J;rw[hsy,φ (show ¬¬(true=true) from fun h=>h rfl),φ (show ¬¬(true=true) from fun h=>h rfl)];cases hsz:shC z with
   | false=>
    rw[ξ Aw];refine wK ih h1 hnd rfl (j:=1) (x:=z) (y:=w) rfl rfl (hm z (κ _ ζ)) (hm' w (κ _ ζ)) qz qw hsz fun hy=>?_
    rw[hy,ξ Aw];exact⟨rfl,hc⟩
   | true=>
    obtain⟨hsw,e3,e4⟩:=RA.sh hH.sh qz hzw hsz;rw[hsw,φ (show ¬¬(true=true) from fun h=>h rfl),φ (show ¬¬(true=true) from fun h=>h rfl),←e1,←e2,←e3,←e4];by_cases h33:x.form=3∧z.form=3
    ·rw[ξ h33];exact .inl ⟨hc,rfl,fun h=>aTz h⟩
    ·rw[φ h33];exact .inl ⟨hc,rfl,fun h=>by cases h⟩
 rw[φ h10,φ h10];by_cases h11:f=11
 ·rw[ξ h11];exact .inl ⟨hc,rfl,fun h=>by cases h⟩
 ·rw[φ h11];exact .inl ⟨hc,rfl,fun h=>by cases h⟩
end
def nm6:List Str:=nmL++[[112]]
theorem aKn:∀s∈nm6,s.length≤3:=by decide
def mO (l:List Int) (left:Int):List (Nat×AObj):=[(700,.var 71 [.c (.sl 1 (l.map aN4)),.c (.int .i64 left)])]
def tK (l:List Int) (k:Int):Int×List Int:=match l with
 | []=>(0,[])
 | x::l=>(pW x k,l)
structure Ok (l:List Int):Prop where
 nums:aS2 l
 fits:Fits l
theorem aE4 (l:List Int) {k:Int}(hk:0<k):0≤(tK l k).1∧(tK l k).1<k:=by
 cases l with
 | nil=>exact⟨Int.le_refl _,hk⟩
 | cons x l=>exact aA8 x hk
theorem qO {l:List Int}(h:Ok l) (k:Int):Ok (tK l k).2:=by
 cases l with
 | nil=>exact h
 | cons x l=>exact⟨h.nums.suf ⟨[x],rfl⟩,h.fits.suf ⟨[x],rfl⟩⟩
theorem aMm (l:List Int) (left k:Int) (hk:1≤k) (h:Ok l):aU Tryz.prog 25 [.one (.vp 700 0),I .i64 k] (mO l left) (I .i64 (tK l k).1) (mO (tK l k).2 left):=by
 obtain⟨hl,hf⟩:=h;unfold Fits at hf;refine bO (n:=29) tok Tryz.func25 rfl rfl rfl ?_;refine sg rfl (a8 (sg rfl ?_));cases l with
 | nil=>
  exact aA rfl (fun hb=>sg rfl (aI rtT)) (fun hb=>by simp at hb)
 | cons x l=>
  refine aA rfl (fun hb=>by simp at hb;omega) (fun hb=>aD (sk 7 rfl (kc (aGf x k (hl x (by simp)) hk) ?_)));exact kz 1 rfl (sg rfl (sg rfl (aI rtT)))
theorem jI (l:List Int) (left k:Int) (hk:1≤k) (h:Ok l):∃(i:Nat) (l':List Int),(i:Int)<k∧Ok l'∧aU Tryz.prog 25 [.one (.vp 700 0),I .i64 k] (mO l left) (I .i64 i) (mO l' left):=by
 obtain⟨i,hi⟩:=Int.eq_ofNat_of_zero_le (aE4 l (k:=k) (by omega)).1;have h1:=(aE4 l (k:=k) (by omega)).2
 have h2:=aMm l left k hk h;rw[hi] at h1 h2;exact⟨i,_,h1,qO h k,h2⟩
def tvN:List Str:=[[97],[97,39],[98,39],[99,39]]
theorem aZn:∀s∈tvN,s.length≤8:=by decide
inductive GT:Nat→Ty→Prop
 | var (s:Str) (h:s∈tvN):GT 1 (.mk 2 0 s [])
 | con (s:Str) (h:s.length≤8):GT 1 (.mk 3 0 s [])
 | app {m n:Nat} {a b:Ty} (ha:GT m a) (hb:GT n b):GT (m+n+1) (.mk 4 0 [] [a,b])
theorem GT.fn {m n:Nat}{a b:Ty}(ha:GT m a) (hb:GT n b):GT (m+n+3) (jA a b):=by
 have h:=GT.app (GT.app (GT.con arrow (by decide)) ha) hb;rw[show m+n+3=1+m+1+n+1 by omega];exact h
theorem hJ (s:Str):aU Tryz.prog 44 [Go.AM.T s] [] (tyV (.mk 3 0 s [])) []:=by
 refine bO (n:=5) tok Tryz.func44 rfl rfl rfl ?_;exact sg rfl (sg rfl (aI ⟨.inr rfl,⟨_,_,.cell rfl (tg rfl) rfl rfl rfl .nil,.cons (.pa (.c .refl (.c .refl (.c .refl (.c .nl .nil))))) .nil,rfl⟩,trivial,rfl⟩))
def sP (x:Str×Ty):List C:=.str x.1::b8 x.2
structure Gv where
 l:List (Str×Ty)
 vars:List Str
 deep:Int
def xR (v:Gv):List C:=[.sl 5 (v.l.map sP),.sl 1 (v.vars.map bD),.int .i64 v.deep]
def dI (v:Gv) (s:Str) (t:Ty):Gv:=⟨v.l++[(s,t)],v.vars,v.deep+1⟩
theorem xX (v:Gv) (s:Str) (t:Ty) (hl:v.l.length≤1000000) (hd:0≤v.deep∧v.deep≤1000000):aU Tryz.prog 60 [.pa (xR v),Go.AM.T s,tyV t] [] (.pa (xR (dI v s t))) []:=by
 obtain⟨f,n,x,a⟩:=t;obtain⟨L,vs,d⟩:=v;dsimp only at hl hd;refine bO (n:=24) tok Tryz.func60 rfl rfl rfl ?_;refine sg rfl (sg rfl (sgh [(3,.all)] rfl (sg rfl (sg rfl (sg rfl (AWp.sub (Sub.freeze (id:=11) rfl) ?_))))))
 rw[show xR (dI ⟨L,vs,d⟩ s (.mk f n x a))=[.sl 5 (L.map sP++[sP (s,.mk f n x a)]),.sl 1 (vs.map bD),.int .i64 (d+1)] by
  unfold xR dI
  rw[Ar];rfl]
 exact aI (rtC trw)
theorem gG (a b:Core):aU Tryz.prog 61 [.pa (aB a),.pa (aB b)] [] (.pa (aB (.mk 4 0 [] zTy [a,b] [] []))) []:=by
 obtain⟨f,n,s,⟨tf,tn,ts,O⟩,ks,bs,al⟩:=a;obtain⟨f',n',s',⟨q,I,J,N⟩,ks',bs',al'⟩:=b;refine bO (n:=9) tok Tryz.func61 rfl rfl rfl ?_;refine sg rfl (sg rfl (AWp.sub (Sub.freeze (id:=7) rfl) ?_));exact aI (rtC trw)
def iK (s:Str) (l:List Ty):Core:=l.foldl (fun c t=>.mk 6 0 [] t [c] [] []) (.mk 2 0 s zTy [] [] [])
theorem oG (s:Str) (l:List Ty) (hl:l.length≤1000000):aU Tryz.prog 65 [Go.AM.T s,.one (.c (.sl 4 (l.map b8)))] [] (.pa (aB (iK s l))) []:=by
 refine bO (n:=23) tok Tryz.func65 rfl rfl rfl ?_;refine sg rfl (sg rfl (a8 (sg rfl ?_)));have q:(l.map b8).length=l.length:=θ _;refine AWp.sub (vp 4 (aB aV8)) ?_;refine AWp.sub (vp 5 (aB (iK s []))) ?_;refine aC (aL (fun i:Nat=>mk [(0,Go.AM.T s),(1,.one (.c (.sl 4 (l.map b8)))),(4,.one (.vp 4 0)),(5,.one (.vp 5 0)),(6,I .i64 i)] [(4,.var 37 (bA aV8)),(5,.var 37 (bA (iK s (l.take i))))]) (fun i=>i≤l.length) (fun i=>l.length-i) 0 (Aj _) sl ?_);intro i hi;refine a8 (sg rfl (aA rfl (fun hb=>?_) (fun hb=>?_)))
 ·have J:=ltD hb q;obtain⟨t,ht⟩:=aJ J;have ht':=bM b8 ht;refine aD ?_;obtain⟨tf,tn,ts,O⟩:=t;refine a8 (aC (ag [(2,.row i (b8 (.mk tf tn ts O)))] rfl ?_));have N:iK s (l.take (i+1))=.mk 6 0 [] (.mk tf tn ts O) [iK s (l.take i)] [] []:=by
   unfold iK;rw[Bh,ht,B4];rfl
  generalize iK s (l.take i)=g at N ⊢;obtain⟨gf,gn,gs,⟨W,Y,Z,aa⟩,gk,gb,ga⟩:=g;refine AWp.sub (Sub.freeze (id:=20) rfl) ?_;refine AWp.sub (vp 5 (aB (.mk 6 0 [] (.mk tf tn ts O) [.mk gf gn gs (.mk W Y Z aa) gk gb ga] [] []))) ?_;refine ag [] rfl ⟨i+1,J,by dsimp only;omega,?_⟩;dsimp only;rw[N];exact sl
 ·have ab:=geD hb q hi;subst ab;rw[An];exact aO (sg rfl (aI (rtC trw)))
theorem u4 {f n:Int}{s:Str}{a:List Ty}(hf:¬f=4):aU Tryz.prog 64 [tyV (.mk f n s a)] [] (.tup [tyV (.mk f n s a),.one (.hs 510 0 0 0)]) [(510,.arr 33 4 [] 2)]:=by
 refine bO (n:=26) tok Tryz.func64 rfl rfl rfl ?_;refine sg rfl (a8 (sg rfl (aA rfl (fun _=>sg rfl (AWp.sub (Sub.own (t:=3) (id:=510) 33 4 rfl rfl) (AWp.sub (Sub.freeze (id:=510) rfl) ?_))) (fun hb=>by simp[Ty.form,hf] at hb))));exact aI ⟨.inr rfl,⟨_,_,.cell rfl (tg rfl) rfl rfl rfl (.tmp rfl .nil),.cons .refl (.cons .refl .nil),rfl⟩,⟨⟨_,rfl,.arr⟩,trivial⟩,rfl⟩
def GTs:Nat→List Ty→Prop
 | _,[]=>True
 | n,x::l=>∃k m,GT k x∧GTs m l∧k+m+1≤n
theorem GTs.snoc {k:Nat}{b:Ty}(hb:GT k b):∀{l:List Ty}{n:Nat},GTs n l→GTs (n+k+1) (l++[b])
 | [],n,_=>⟨k,0,hb,trivial,by omega⟩
 | x::l,n,h=>by
  obtain⟨j,m,h1,h2,h3⟩:=h;exact⟨j,m+k+1,h1,GTs.snoc hb h2,by omega⟩
theorem aL8 {n:Nat}{t:Ty}(h:GT n t) (hn:n≤100000):∃(hd:Ty) (l:List Ty),GTs (n-1) l∧l.length≤n∧
  aU Tryz.prog 64 [tyV t] [] (.tup [tyV hd,.one (.hs 510 0 l.length l.length)]) [(510,.arr 33 4 (l.map b8) 2)]:=by
 induction h with
 | var s hs=>exact⟨.mk 2 0 s [],[],trivial,by simp,u4 (by decide)⟩
 | con s hs=>exact⟨.mk 3 0 s [],[],trivial,by simp,u4 (by decide)⟩
 | @app m n a b ha hb q Y=>
  obtain⟨hd,l,h1,h2,h3⟩:=q (by omega);have Z:l.length≤100000:=by omega
  have ab:1≤m:=by cases ha<;>omega
  refine⟨hd,l++[b],?_,by rw[ω];simp;omega,?_⟩
  ·have:=GTs.snoc hb h1;rw[show m-1+n+1=m+n+1-1 by omega] at this;exact this
  ·obtain⟨ac,ad,ae,ah⟩:=hd;obtain⟨af,an,I,J⟩:=a;obtain⟨N,O,sb,W⟩:=b;refine bO (n:=26) tok Tryz.func64 rfl rfl rfl ?_;refine sg rfl (a8 (sg rfl (aA rfl (fun hb=>by simp[Ty.form] at hb) (fun _=>aD (skh 4 [(2,.row 0 (b8 (.mk af an I J)))] rfl (kc h3 ?_))))));refine kz 6 rfl (sgh [(4,.row 1 (b8 (.mk N O sb W)))] rfl (AWp.sub (Sub.freeze (id:=510) rfl) ?_));exact aI ⟨.inr rfl,⟨_,_,.cell rfl (tg rfl) rfl rfl rfl (.tmp rfl .nil),.cons .refl (.cons .refl .nil),by rw[θ,ω];rfl⟩,⟨⟨_,rfl,by rw[Ar];exact .arr⟩,trivial⟩,rfl⟩
theorem uZ {n:Nat}{t:Ty}(h:GT n t):(∃(m1 m2:Nat) (a b:Ty),GT m1 a∧GT m2 b∧n=m1+m2+3∧t=jA a b∧aU Tryz.prog 66 [tyV t] [] (B true) [])∨aU Tryz.prog 66 [tyV t] [] (B false) []:=by
 cases h with
 | var s hs=>
  refine .inr ?_;refine bO (n:=28) tok Tryz.func66 rfl rfl rfl ?_;exact sg rfl (a8 (sg rfl (aA rfl (fun _=>sg rfl (aI rtT)) (fun hb=>by simp[Ty.form] at hb))))
 | con s hs=>
  refine .inr ?_;refine bO (n:=28) tok Tryz.func66 rfl rfl rfl ?_;exact sg rfl (a8 (sg rfl (aA rfl (fun _=>sg rfl (aI rtT)) (fun hb=>by simp[Ty.form] at hb))))
 | @app m k a b ha hb=>
  cases ha with
  | var s hs=>
   refine .inr ?_;refine bO (n:=28) tok Tryz.func66 rfl rfl rfl ?_;exact sg rfl (a8 (sg rfl (aA rfl (fun hb=>by simp[Ty.form] at hb) (fun _=>aD (a8 (sgh [(2,.row 0 (b8 (.mk 2 0 s [])))] rfl (aA rfl (fun _=>sg rfl (aI rtT)) (fun hb=>by simp[Ty.form] at hb))))))))
  | con s hs=>
   refine .inr ?_;refine bO (n:=28) tok Tryz.func66 rfl rfl rfl ?_;exact sg rfl (a8 (sg rfl (aA rfl (fun hb=>by simp[Ty.form] at hb) (fun _=>aD (a8 (sgh [(2,.row 0 (b8 (.mk 3 0 s [])))] rfl (aA rfl (fun _=>sg rfl (aI rtT)) (fun hb=>by simp[Ty.form] at hb))))))))
  | @app m' k' f q hf ha'=>
   have run:∀r:Bool,(bif decide (f.form=3) then decide (f.name=arrow) else false)=r→aU Tryz.prog 66 [tyV (.mk 4 0 [] [.mk 4 0 [] [f,q],b])] [] (B r) []:=by
    intro r N;obtain⟨I,fn,fs,J⟩:=f;refine bO (n:=28) tok Tryz.func66 rfl rfl rfl ?_;refine sg rfl (a8 (sg rfl (aA rfl (fun hb=>by simp[Ty.form] at hb) (fun _=>aD (a8 (sgh [(2,.row 0 (b8 (.mk 4 0 [] [.mk I fn fs J,q])))] rfl (aA rfl (fun hb=>by simp[Ty.form] at hb) (fun _=>aD (sgh [(2,.row 0 (b8 (.mk 4 0 [] [.mk I fn fs J,q]))),(5,.row 0 (b8 (.mk I fn fs J)))] rfl (a8 (agF 4 [] rfl rfl rfl ?_)))))))))));subst N;exact aI rtT
   cases hf with
   | var s hs=>exact .inr (run false rfl)
   | con s hs=>
    by_cases h1:s=arrow
    ·subst h1;exact .inl ⟨_,_,q,b,ha',hb,by omega,rfl,run true rfl⟩
    ·exact .inr (run false (by simp[Ty.form,Ty.name,h1]))
   | app h1 h2=>exact .inr (run false rfl)
theorem uY {n:Nat}{t:Ty}(h:GT n t) (hn:n≤100000):∃s:Str,s.length≤16*n∧aU Tryz.prog 91 [tyV t,.one (.c .nl)] [] (Go.AM.T s) []:=by
 have hM:1000000000≤maxLen:=by decide
 induction h with
 | var s hs=>
  have hs:=aZn s hs;refine⟨39::s,by rw[Ag];omega,?_⟩;refine bO (n:=91) tok Tryz.func91 rfl rfl rfl ?_;refine sg rfl (a8 (sg rfl (aC (sg rfl (aA rfl (fun hb=>by simp[Ty.form] at hb) (fun _=>sg rfl (aA rfl (fun _=>a8 (sg rfl (aC (aL (fun _:Unit=>mk [(1,.one (.c .nl)),(2,.one (.vp 2 0)),(5,I .i64 (-1))] [(2,.var 33 ((b8 (.mk 2 0 s [])).map R.c))]) (fun _=>True) (fun _=>0) () trivial sl ?_)))) (fun hb=>by simp[Ty.form] at hb))))))));intro _ _;refine a8 (sg rfl (aA rfl (fun hb=>by simp at hb) (fun _=>aO (sg rfl ?_ (hc:=by repeat (first | exact trivial | refine⟨by first | rfl | omega | (simp;omega) | (unfold Ty.name;simp;omega) | (simp;done),?_⟩))))));exact aI rtT
 | con s hs=>
  refine⟨s,by omega,?_⟩;refine bO (n:=91) tok Tryz.func91 rfl rfl rfl ?_;exact sg rfl (a8 (sg rfl (aC (sg rfl (aA rfl (fun hb=>by simp[Ty.form] at hb) (fun _=>sg rfl (aA rfl (fun hb=>by simp[Ty.form] at hb) (fun _=>sg rfl (aA rfl (fun _=>sg rfl (aI rtT)) (fun hb=>by simp[Ty.form] at hb))))))))))
 | @app m k a b ha hb q J=>
  obtain⟨s1,h1,N⟩:=q (by omega);obtain⟨s2,h2,O⟩:=J (by omega);refine⟨[40]++s1++[32]++s2++[41],by simp;omega,?_⟩;obtain⟨af,an,W,Y⟩:=a;obtain⟨Z,bn,sb,ba⟩:=b;refine bO (n:=91) tok Tryz.func91 rfl rfl rfl ?_;refine sg rfl (a8 (sg rfl (aC (sg rfl (aA rfl (fun hb=>by simp[Ty.form] at hb) (fun _=>sg rfl (aA rfl (fun hb=>by simp[Ty.form] at hb) (fun _=>sg rfl (aA rfl (fun hb=>by simp[Ty.form] at hb) (fun _=>sg rfl (aA rfl (fun hb=>by simp[Ty.form] at hb) (fun _=>aD (a8 (a8 (agF 4 [] rfl rfl rfl (aA rfl (fun hb=>by simp[Ty.form,gD,eE] at hb) (fun _=>aD (skh 5 [(2,.row 0 (b8 (.mk af an W Y)))] rfl (kc N ?_)))))))))))))))))));refine ak 7 [(10,.row 1 (b8 (.mk Z bn sb ba)))] rfl ?_ (hc:=by repeat (first | exact trivial | refine⟨by first | rfl | omega | (simp;omega) | (unfold Ty.name;simp;omega) | (simp;done),?_⟩));refine kc O ?_;refine ak 3 [] rfl ?_ (hc:=by repeat (first | exact trivial | refine⟨by first | rfl | omega | (simp;omega) | (unfold Ty.name;simp;omega) | (simp;done),?_⟩));exact az (aI rtT)
theorem aYl {n m:Nat}{a b:Ty}(ha:GT n a) (hb:GT m b) (hn:n≤100000) (hm:m≤100000):∃r:Bool,aU Tryz.prog 101 [tyV a,tyV b] [] (B r) []:=by
 obtain⟨s1,h1,q⟩:=uY ha hn;obtain⟨s2,h2,I⟩:=uY hb hm;refine⟨decide (s1=s2),?_⟩;obtain⟨af,an,J,N⟩:=a;obtain⟨O,W,sb,Y⟩:=b;refine bO (n:=10) tok Tryz.func101 rfl rfl rfl ?_;refine sg rfl (sk 1 rfl (kc q ?_));refine ak 1 [] rfl (kc I ?_);exact kz 2 rfl (aI rtT)
theorem aUq (L:List (Str×Ty)) (i:Nat) (hi:i<L.length) (hl:L.length≤1000000):∃r:Bool,aU Tryz.prog 102 [.one (.c (.sl 5 (L.map sP))),I .i64 i] [] (B r) []:=by
 obtain⟨x,hx⟩:=aJ hi;have O:=bM sP hx;have q:(L.map sP).length=L.length:=θ _;refine⟨@decide (∀(j:Nat) (y:Str×Ty),i<j→L[j]?=some y→¬y.1=x.1) (Classical.propDecidable _),?_⟩;generalize N: @decide (∀(j:Nat) (y:Str×Ty),i<j→L[j]?=some y→¬y.1=x.1) (Classical.propDecidable _)=r;refine bO (n:=25) tok Tryz.func102 rfl rfl rfl ?_;refine sg rfl (a8 (a8 (agN [] rfl ?_ (hc:=by repeat (first | exact trivial | refine⟨by first | rfl | omega | (simp;omega) | (unfold Ty.name;simp;omega) | (simp;done),?_⟩)))));refine aC (aL (fun k:Nat=>mk [(0,.one (.c (.sl 5 (L.map sP)))),(1,I .i64 i),(4,B false),(5,I .i64 k)] []) (fun k=>i<k∧k≤L.length∧∀(j:Nat) (y:Str×Ty),i<j→j<k→L[j]?=some y→¬y.1=x.1) (fun k=>L.length-k) (i+1) ⟨by omega,by omega,fun j y h1 h2=>by omega⟩ sl ?_);intro k ⟨h1,h2,h3⟩;refine a8 (sg rfl (aA rfl (fun hb=>?_) (fun hb=>?_)))
 ·have J:=ltD hb q;obtain⟨y,hy⟩:=aJ J;have W:=bM sP hy;refine aD (a8 (aC (sgh [(2,.row k (sP y)),(7,.row i (sP x))] rfl (aA rfl (fun hb=>?_) (fun hb=>?_)))))
  ·have he:y.1=x.1:=by simpa using hb
   refine sg rfl ?_;have:r=false:=by
    rw[←N];simp only[Ct];exact fun h=>h k y h1 hy he
   rw[this];exact aI rtT
  ·have he:¬y.1=x.1:=by simpa using hb
   refine aD (ag [] rfl ⟨k+1,⟨by omega,J,fun j z g1 g2 g3=>?_⟩,by dsimp only;omega,sl⟩);by_cases hj:j=k
   ·rw[hj,hy,Option.some.injEq] at g3;rw[←g3];exact he
   ·exact h3 j z g1 (by omega) g3
 ·have Y:=geD hb q h2;refine aO (sg rfl ?_);have:r=true:=by
   rw[←N];simp only[decide_eq_true_eq];exact fun j y g1 g2=>h3 j y g1 (by have:=(Ab.1 g2).1;omega) g2
  rw[this];exact aI rtT
theorem aF2 (l:List Int) (left:Int) (v:Gv) (h:Ok l):∃(s:Str) (l':List Int),s∈nmL∧Ok l'∧aU Tryz.prog 59 [.one (.vp 700 0),.pa (xR v)] (mO l left) (Go.AM.T s) (mO l' left):=by
 obtain⟨i,l',hi,q,hc⟩:=jI l left 5 (by decide) h;have hi:i<5:=by omega
 obtain⟨s,hs⟩:∃s,([[120],[121],[122,64,49],[97],[98]]:List Str)[i]?=some s:=aJ (by simpa using hi);have I:=bM bD hs;refine⟨s,l',?_,q,?_⟩
 ·have:i=0∨i=1∨i=2∨i=3∨i=4:=by omega
  rcases this with rfl | rfl | rfl | rfl | rfl<;>(simp at hs;subst hs;decide)
 ·refine bO (n:=10) tok Tryz.func59 rfl rfl rfl ?_;refine sg rfl (sk 2 rfl (kc hc ?_));exact ak 3 [(3,.row i []),(4,.row i (bD s))] rfl (az (aI rtT))
def aTb:Ty:=.mk 3 0 [66,111,111,108] []
def aZ3 (l:List Str):V:=.one (.c (.sl 1 (l.map bD)))
def Sh8 (l:List Str):Prop:=∀s∈l,s∈tvN
def tsz:Nat→Nat
 | 0=>1
 | f+1=>2*tsz f+3
def aVu (vars:List Str) (dp:Int) (m:Nat):Prop:=∀(l:List Int) (left:Int),Ok l→
  ∃(t:Ty) (l':List Int) (n:Nat),GT n t∧n≤m∧Ok l'∧aU Tryz.prog 24 [.one (.vp 700 0),aZ3 vars,I .i64 dp] (mO l left) (tyV t) (mO l' left)
theorem GT.nm {s:Str}(h:s.length≤8):GT 1 (.mk 3 0 s []):=.con s h
theorem aDo (vars:List Str) (hv:Sh8 vars) (hvl:vars.length≤1000000) (q:Int) (h0:0≤q) (hd3:q≤3) (m M:Nat) (h1:1≤M) (hM:q≤2→2*m+3≤M) (ih:q≤2→aVu vars (q+1) m):aVu vars q M:=by
 intro l left h;obtain⟨i,l1,hi,J,hc⟩:=jI l left 8 (by decide) h;have hi:i<8:=by omega
 have hvk:(vars.map bD).length=vars.length:=θ _;by_cases hA:5<i∧0<vars.length
 ·obtain⟨j,O,hj,I,Z⟩:=jI l1 left vars.length (by omega) J;have hj:j<vars.length:=by omega
  obtain⟨x,hx⟩:=aJ hj;have hx':=bM bD hx;refine⟨.mk 2 0 x [],O,1,.var x (hv x (η hx)),by omega,I,?_⟩;refine bO (n:=68) tok Tryz.func24 rfl rfl rfl ?_;refine sg rfl (sk 1 rfl (kc hc ?_));refine kz 1 rfl (a8 (a8 (agF 3 [] rfl rfl rfl ?_)));have g1:(5:Int)<i:=by omega
  have g2:(0:Int)<((vars.map bD).length:Nat):=by omega
  refine aA rfl (fun _=>sk 4 rfl ?_) (fun hb=>by rw[Ak g1,Ak g2] at hb;cases hb);rw[←hvk] at Z;refine kc Z ?_;exact ak 4 [(5,.row j (bD x))] rfl (az (aI (rtC trw)))
 ·by_cases hB:i<3∨2<q
  ·have N:∃(k:Nat) (t:Ty),k<2∧(i:Int)%2=k∧GT 1 t∧[b8 aH4,b8 aTb][k]?=some (b8 t):=by
    have:i%2=0∨i%2=1:=by omega
    rcases this with e | e
    ·exact⟨0,aH4,by omega,by omega,.con _ (by decide),rfl⟩
    ·exact⟨1,aTb,by omega,by omega,.con _ (by decide),rfl⟩
   obtain⟨k,t,hk,hik,ht,N⟩:=N;refine⟨t,l1,1,ht,by omega,J,?_⟩;obtain⟨tf,tn,ts,ta⟩:=t;refine bO (n:=68) tok Tryz.func24 rfl rfl rfl ?_;refine sg rfl (sk 1 rfl (kc hc ?_));refine kz 1 rfl (a8 (a8 (agF 3 [] rfl rfl rfl (aA rfl (fun hb=>by simp at hb;omega) (fun _=>aD (a8 (a8 (agF 3 [] rfl rfl rfl (aA rfl (fun _=>a8 (aE mixed (kc (hJ [73,110,116]) ?_))) (fun hb=>by simp at hb;omega))))))))));refine kc (hJ [66,111,111,108]) ?_;exact ak 6 [(5,.row k []),(6,.row k (b8 (.mk tf tn ts ta)))] rfl (az (aI (rtC trw)))
  ·have hM:=hM (by omega);obtain⟨⟨af,an,W,Y⟩,O,na,ga,hna,I,ca⟩:=ih (by omega) l1 left J;by_cases hC:i=3
   ·refine⟨.mk 4 0 [] [.mk 3 0 [76] [],.mk af an W Y],O,1+na+1,.app (.nm (by decide)) ga,by omega,I,?_⟩;refine bO (n:=68) tok Tryz.func24 rfl rfl rfl ?_;refine sg rfl (sk 1 rfl (kc hc ?_));refine kz 1 rfl (a8 (a8 (agF 3 [] rfl rfl rfl (aA rfl (fun hb=>by simp at hb;omega) (fun _=>aD (a8 (a8 (agF 3 [] rfl rfl rfl (aA rfl (fun hb=>by simp at hb;omega) (fun _=>aD (sk 4 rfl ?_ (hc:=by repeat (first | exact trivial | refine⟨by first | rfl | omega | (simp;omega) | (unfold Ty.name;simp;omega) | (simp;done),?_⟩)))))))))))));refine kc ca ?_;refine kz 2 rfl (a8 (sg rfl (aA rfl (fun _=>a8 (aE mixed (kc (hJ [76]) ?_))) (fun hb=>by simp at hb;omega))));refine kz 4 rfl (AWp.sub (Sub.freeze (id:=49) rfl) ?_);exact aI (rtC trw)
   ·obtain⟨⟨bf,bn,sb,ba⟩,l3,nb,gb,hnb,ab,cb⟩:=ih (by omega) O left I;by_cases hD:i=4
    ·refine⟨jA (.mk af an W Y) (.mk bf bn sb ba),l3,na+nb+3,ga.fn gb,by omega,ab,?_⟩;refine bO (n:=68) tok Tryz.func24 rfl rfl rfl ?_;refine sg rfl (sk 1 rfl (kc hc ?_));refine kz 1 rfl (a8 (a8 (agF 3 [] rfl rfl rfl (aA rfl (fun hb=>by simp at hb;omega) (fun _=>aD (a8 (a8 (agF 3 [] rfl rfl rfl (aA rfl (fun hb=>by simp at hb;omega) (fun _=>aD (sk 4 rfl ?_ (hc:=by repeat (first | exact trivial | refine⟨by first | rfl | omega | (simp;omega) | (unfold Ty.name;simp;omega) | (simp;done),?_⟩)))))))))))));refine kc ca ?_;refine kz 2 rfl (a8 (sg rfl (aA rfl (fun hb=>by simp at hb;omega) (fun _=>aD (sk 4 rfl ?_ (hc:=by repeat (first | exact trivial | refine⟨by first | rfl | omega | (simp;omega) | (unfold Ty.name;simp;omega) | (simp;done),?_⟩)))))));refine kc cb ?_;refine kz 2 rfl (a8 (sg rfl (aA rfl (fun _=>sk 2 rfl (kc (tS (.mk af an W Y) (.mk bf bn sb ba)) ?_)) (fun hb=>by simp at hb;omega))));exact kz 1 rfl (aI (rtC trw))
    ·refine⟨.mk 4 0 [] [.mk 4 0 [] [.mk 3 0 [80] [],.mk af an W Y],.mk bf bn sb ba],l3,1+na+1+nb+1,.app (.app (.nm (by decide)) ga) gb,by omega,ab,?_⟩;refine bO (n:=68) tok Tryz.func24 rfl rfl rfl ?_;refine sg rfl (sk 1 rfl (kc hc ?_));refine kz 1 rfl (a8 (a8 (agF 3 [] rfl rfl rfl (aA rfl (fun hb=>by simp at hb;omega) (fun _=>aD (a8 (a8 (agF 3 [] rfl rfl rfl (aA rfl (fun hb=>by simp at hb;omega) (fun _=>aD (sk 4 rfl ?_ (hc:=by repeat (first | exact trivial | refine⟨by first | rfl | omega | (simp;omega) | (unfold Ty.name;simp;omega) | (simp;done),?_⟩)))))))))))));refine kc ca ?_;refine kz 2 rfl (a8 (sg rfl (aA rfl (fun hb=>by simp at hb;omega) (fun _=>aD (sk 4 rfl ?_ (hc:=by repeat (first | exact trivial | refine⟨by first | rfl | omega | (simp;omega) | (unfold Ty.name;simp;omega) | (simp;done),?_⟩)))))));refine kc cb ?_;refine kz 2 rfl (a8 (sg rfl (aA rfl (fun hb=>by simp at hb;omega) (fun _=>aD (a8 (aE mixed (kc (hJ [80]) ?_)))))));exact ak 7 [(2,.all),(5,.all)] rfl (az (aI (rtC trw)))
theorem aIt:∀f,1≤tsz f
 | 0=>le_refl _
 | f+1=>by rw[tsz];omega
theorem xS (vars:List Str) (hv:Sh8 vars) (I:vars.length≤1000000):∀(f:Nat) (q:Int),q+f=3→0≤q→aVu vars q (tsz f)
 | 0,q,hd,h0=>aDo vars hv I q h0 (by omega) 0 (tsz 0) (aIt 0) (fun h=>by omega) (fun h=>by omega)
 | f+1,q,hd,h0=>aDo vars hv I q h0 (by omega) (tsz f) (tsz (f+1)) (aIt _) (fun _=>le_refl _) (fun _=>xS vars hv I f (q+1) (by omega) (by omega))
end Go.Proofs.YtockgoadliilhaaGreatDoor
