/-
  Texts Ly5 to Ly16 in one.
-/
import Derived.Test.YtnjaiimffoninaaGreatDoorM9
import Derived.Shelf.Strconv.Itoa3
import Derived.Lib.LaidTab
open List (drop_left flatMap_append foldl_append length_append length_cons length_drop length_eq_one_iff length_eq_zero_iff length_map length_nil length_set length_take map_cons map_map map_nil map_set mem_append mem_cons mem_cons_of_mem mem_cons_self mem_flatMap mem_map mem_of_mem_drop mem_of_mem_take mem_singleton nil_append not_mem_nil sum_cons take_add_one take_left)
open Nat (le_add_right le_max_left le_refl le_trans lt_of_lt_of_le mul_add mul_one succ_mul zero_add zero_le)
namespace Go.Proofs.YtnjaiimffoninaaGreatDoor
open Go Go.AM
set_option maxRecDepth 20000
set_option maxHeartbeats 4000000
noncomputable def a8d:Core→List Str→Core
 | .mk f n nm t ks bs al,far=>if nm∈far then .mk f n (bE (far++ks.flatMap tyR)) t (ks.map fun x=>sTR (m30 x) x nm (vT (bE (far++ks.flatMap tyR)))) bs al else .mk f n nm t ks bs al
open Classical in
noncomputable def fR:Nat→Core→Str→Core→Core
 | 0,c,_,_=>c
 | k+1,c,s,b=>if c.form=1∧c.name=s then b else sJ (fR k) s b (if c.form=7∧s∈pfR c then a8d c (tyR b) else c)
structure RX (X:Nat) (b p r:Core):Prop where
 q:bU (QL X) r
 cw:∀(A:Alg) (E:Nat) (ρ:Str→Nat),cw A E r ρ≤max (cw A E p ρ) (cw A E b ρ)
 ty:∀x∈tyR r,x∈tyR p∨x∈tyR b
 tl:tlC r≤tlC p+tlC b
structure R0 (p q:Core):Prop where
 cw:∀(A:Alg) (E:Nat) (ρ:Str→Nat),cw A E q ρ≤cw A E p ρ
 ty:∀x∈tyR q,x∈tyR p
 tl:tlC q≤tlC p
 sz:m30 q≤m30 p
theorem R0.refl (p:Core):R0 p p:=⟨fun _ _ _=>le_refl _,fun _ h=>h,le_refl _,le_refl _⟩
theorem R0.trans {p q r:Core}(h:R0 p q) (k:R0 q r):R0 p r:=⟨fun A E ρ=>le_trans (k.cw A E ρ) (h.cw A E ρ),fun x hx=>h.ty x (k.ty x hx),le_trans k.tl h.tl,le_trans k.sz h.sz⟩
theorem R0.rx {X:Nat}{b p q r:Core}(h:R0 p q) (k:RX X b q r):RX X b p r:=
 ⟨k.q,fun A E ρ=>le_trans (k.cw A E ρ) (by have:=h.cw A E ρ;omega),fun x hx=>(k.ty x hx).imp (h.ty x) id,by have:=k.tl;have:=h.tl;omega⟩
structure TB (X:Nat) (c:Core) (s:Str) (b r:Core):Prop where
 imp:aW Tryz.prog 97 [.pa (aB c),Go.AM.T s,.pa (aB b)] [] (.pa (aB r)) []
 rx:RX X b c r
 sz:∀B,1≤B→m30 b≤31*B→m30 r≤m30 c*B
theorem a2f {z:Str}:tyR (vC z)=[]:=rfl
theorem a64 {z:Str}:tlC (vC z)=0:=rfl
theorem a79 {A:Alg}{E:Nat}{ρ:Str→Nat}{z:Str}:cw A E (vC z) ρ=A.k:=by
 refine Nat.le_antisymm (aRb.2 ⟨le_refl _,?_,fun x hx=>(by cases hx),fun x hx=>(by cases hx),fun x hx=>(by cases hx)⟩) (a84 _)
 exact Nat.le_of_eq (zK (tn zTy) zTy (le_refl _) fun x hx=>by
  have:tfR zTy=[]:=rfl
  rw[this] at hx;cases hx)
theorem TB.r0 {X:Nat}{c:Core}{s z:Str}{r:Core}(hz:z.length≤30) (h:TB X c s (vC z) r):R0 c r:=
 ⟨fun A E ρ=>by have:=h.rx.cw A E ρ;rw[a79] at this;have:=a84 (A:=A) (E:=E) (ρ:=ρ) c;omega,
  fun x hx=>(h.rx.ty x hx).resolve_right (by rw[a2f];exact C1),by have:=h.rx.tl;rw[a64] at this;omega,
  by have:=h.sz 1 (le_refl _) (by rw[a33 hz];exact le_refl _);rwa [mul_one] at this⟩
section
variable {sb:Core→Str→Core→Core}{P:Core→Prop}{X:Nat}{s:Str}{b:Core}
theorem aOs {ns:List Str}{ps:List Core}(Z:∀p∈ps,P p) (I:∀p,P p→bU (QL X) p) (hz:∀p n z,P p→z.length≤30→P (sb p n (vC z))∧R0 p (sb p n (vC z))) (hs:∀p,P p→RX X b p (sb p s b))
  (hl:(ps.flatMap pfR).length+2*ns.length+(pfR b).length≤540000000000):A2 (RX X b) ps (dV sb s b ns ps).2∧A2 NR ns (dV sb s b ns ps).1:=by
 obtain⟨⟨y,h1,h2⟩,h3⟩:=aAc (sb:=sb) (Rel:=fun p q=>P p→(P q∧R0 p q)) (fun p h=>⟨h,R0.refl p⟩)
  (fun p q r J O h=>by
   obtain⟨a1,a2⟩:=J h;obtain⟨b1,b2⟩:=O a1
   exact⟨b1,a2.trans b2⟩) (s:=s) (b:=b) (ns:=ns) (ps:=ps) (fun p n z Y h=>hz p n z h Y) hl
 have key:∀{ps y:List Core},A2 (fun p q=>P p→(P q∧R0 p q)) ps y→(∀p∈ps,P p)→A2 (RX X b) ps y∧A2 (RX X b) ps (y.map fun p=>sb p s b):=by
  intro ps y h
  induction h with
  | nil=>intro _;exact⟨.nil,.nil⟩
  | cons r _ ih=>
   intro hp;obtain⟨i1,i2⟩:=ih fun p h=>hp p (χ _ h)
   obtain⟨g1,g2⟩:=r (hp _ η);exact⟨.cons ⟨I _ g1,fun A E ρ=>le_trans (g2.cw A E ρ) (le_max_left ..),fun x hx=>.inl (g2.ty x hx),le_trans g2.tl (B6 _ _)⟩ i1,.cons (g2.rx (hs _ g1)) i2⟩
 obtain⟨k1,k2⟩:=key h1 Z;refine⟨?_,h3⟩;rcases h2 with h2 | h2
 ·rw[h2];exact k1
 ·rw[h2];exact k2
end
mutual
theorem nE:∀c:Core,oV (fun _=>True) c
 | .mk _ _ _ _ ks bs al=>⟨trivial,yZ ks,z6 bs,z7 al⟩
theorem yZ:∀l:List Core,aFy (fun _=>True) l
 | []=>trivial
 | c::l=>⟨nE c,yZ l⟩
theorem z6:∀l:List Bind,aFz (fun _=>True) l
 | []=>trivial
 | .mk _ _ c::l=>⟨trivial,nE c,z6 l⟩
theorem z7:∀l:List Alt,aF1 (fun _=>True) l
 | []=>trivial
 | .mk _ _ _ _ c::l=>⟨nE c,z7 l⟩
end
theorem mV:∀{ts:List Ty}{ns:List Str}{ps:List Core},ns.length=ts.length→ps.length=ts.length→(mkB ts ns ps).map Bind.name=ns
 | [],[],_,_,_=>by unfold mkB;rfl
 | t::ts,n::ns,p::ps,h1,h2=>by
  simp only[Ai] at h1 h2;rw[mkB,At,mV (ts:=ts) (by omega) (by omega)];rfl
section
variable {sb:Core→Str→Core→Core}{X:Nat}{s:Str}{b:Core}{f n:Int}{nm:Str}{t:Ty}{ks:List Core}{bs:List Bind}{al:List Alt}
theorem a1a (h7:f≠7) (hq:bU (QL X) (.mk f n nm t ks bs al)) (hg:A2 (RX X b) (ks++bs.map Bind.body) (dV sb s b (gvN f nm bs) (ks++bs.map Bind.body)).2) (hn:A2 NR (gvN f nm bs) (dV sb s b (gvN f nm bs) (ks++bs.map Bind.body)).1)
  (ha:∀a∈al,A2 (RX X b) [a.body] (dV sb s b a.vars [a.body]).2∧A2 NR a.vars (dV sb s b a.vars [a.body]).1):RX X b (.mk f n nm t ks bs al) (sJ sb s b (.mk f n nm t ks bs al)):=by
 obtain⟨⟨q1,q2,q3,q4,q5,q6,q7,q8⟩,qk,qb,qa⟩:=aM.1 hq;have hA:∀a∈al,RX X b a.body (kF sb s b a).body∧A2 NR a.vars (kF sb s b a).vars∧(kF sb s b a).name=a.name:=fun a I=>by
  obtain⟨g1,g2⟩:=ha a I;refine⟨?_,g2,rfl⟩;show RX X b a.body ((dV sb s b a.vars [a.body]).2.headD a.body);cases hx:(dV sb s b a.vars [a.body]).2 with
  | nil=>rw[hx] at g1;cases g1
  | cons y l'=>
   rw[hx] at g1;cases g1 with
   | cons h _=>exact h
 have hone:f=5→bs=[]:=fun h5=>(nH hq (.inl h5)).2.1
 rw[sJ];unfold zNm zKs zBs;generalize dV sb s b (gvN f nm bs) (ks++bs.map Bind.body)=r at hg hn ⊢;obtain⟨Y,Z⟩:=r;dsimp only at *;have hK:A2 (RX X b) ks (Z.take ks.length):=by
  have:=hg.take ks.length;rwa [take_left] at this
 have hB:A2 (RX X b) (bs.map Bind.body) (Z.drop ks.length):=by
  have:=hg.drop ks.length;rwa [drop_left] at this
 have hBl:(Z.drop ks.length).length=bs.length:=by rw[hB.length,φ]
 have hmB:∀x∈mkB (bs.map Bind.ty) Y (Z.drop ks.length),∃y∈bs,RX X b y.body x.body:=fun x hx=>by
  obtain⟨p,hp,h⟩:=hB.mem x.body (lK hx).1;obtain⟨y,J,rfl⟩:=Ah.1 hp;exact⟨y,J,h⟩
 have hmT:∀x∈mkB (bs.map Bind.ty) Y (Z.drop ks.length),∃y∈bs,y.ty=x.ty:=fun x hx=>Ah.1 (lK hx).2
 have O:=hn.length;have hbn:((mkB (bs.map Bind.ty) Y (Z.drop ks.length)).map fun x=>1+w30 x.name).sum≤(bs.map fun x=>1+w30 x.name).sum∧(mkB (bs.map Bind.ty) Y (Z.drop ks.length)).length=bs.length:=by
  by_cases h5:f=5
  ·have:=hone h5;subst this;show((mkB [] Y _).map _).sum≤_∧(mkB [] Y _).length=_;unfold mkB;exact⟨le_refl _,rfl⟩
  ·unfold gvN at hn O;rw[θ h5,A3] at hn O;rw[φ] at O;have e1:∀l:List Bind,(l.map fun x=>1+w30 x.name)=(l.map Bind.name).map fun v=>1+w30 v:=fun l=>by rw[Bn];rfl
   rw[e1,e1,mV (by rw[φ];exact O) (by rw[φ];exact hBl)];exact⟨aCl hn,by rw[uQ (by rw[φ];exact O) (by rw[φ];exact hBl),φ]⟩
 have hbh:∀x∈mkB (bs.map Bind.ty) Y (Z.drop ks.length),nh x.name:=fun x hx=>by
  by_cases h5:f=5
  ·have:=hone h5;subst this;have hx:x∈mkB [] Y (Z.drop ks.length):=hx;unfold mkB at hx;cases hx
  ·have hn2:=hn;unfold gvN at hn2 O;rw[θ h5,A3] at hn2 O;rw[φ] at O;have hxm:x.name∈(mkB (bs.map Bind.ty) Y (Z.drop ks.length)).map Bind.name:=Ah.2 ⟨x,hx,rfl⟩;rw[mV (by rw[φ];exact O) (by rw[φ];exact hBl)] at hxm;obtain⟨v,hv,hr⟩:=hn2.mem _ hxm;obtain⟨y,J,rfl⟩:=Ah.1 hv;exact hr.nh (q7 (bhd y) (Ah.2 ⟨y,J,rfl⟩))
 have hnm:w30 (if f=5 then Y.headD nm else nm)≤w30 nm:=by
  split
  ·rename_i hf;unfold gvN at hn;rw[κ hf] at hn;cases hn with
   | cons h _=>exact h.w
  ·exact le_refl _
 refine⟨aM.2 ⟨⟨?_,fun h=>absurd h h7,q3,fun p hp=>?_,?_,fun h5=>?_,fun p hp=>?_,fun p hp v hv=>?_⟩,fun x hx=>?_,fun x hx=>?_,fun x hx=>?_⟩,fun A E ρ=>?_,fun x hx=>?_,?_⟩
 ·rw[φ,φ,φ,hbn.2,hK.length];rw[φ,φ] at q1;exact q1
 ·obtain⟨x,hx,rfl⟩:=Ah.1 hp;obtain⟨y,J,e⟩:=hmT x hx;have:=q4 (bhd y) (Ah.2 ⟨y,J,rfl⟩);show wfS x.ty=true;rw[←e];exact this
 ·refine le_trans ?_ q5;unfold lw;rw[Bn,Bn,Bn,Bn,Bn];have ea:(al.map (((fun p:Str×List Str=>1+w30 p.1+(p.2.map fun v=>1+w30 v).sum)∘ahd)∘kF sb s b)).sum≤(al.map ((fun p:Str×List Str=>1+w30 p.1+(p.2.map fun v=>1+w30 v).sum)∘ahd)).sum:=by
   clear ha q1 q5 hq qa q8
   induction al with
   | nil=>exact le_refl _
   | cons a l ih=>
    have h1:=ih fun x hx=>hA x (χ _ hx)
    obtain⟨_,h2,h3⟩:=hA a η;have h2:=aCl h2;simp only[At,Da,Function.comp,ahd] at h1 ⊢;rw[h3];omega
  have eb:=hbn.1;have ec:∀l:List Bind,(l.map ((fun p:Str×Ty=>1+w30 p.1)∘bhd)).sum=(l.map fun x=>1+w30 x.name).sum:=fun l=>rfl
  rw[ec,ec];omega
 ·rw[κ h5];unfold gvN at hn;rw[κ h5] at hn;cases hn with
  | cons h _=>exact h.nh (q6 h5)
 ·obtain⟨x,hx,rfl⟩:=Ah.1 hp;exact hbh x hx
 ·obtain⟨a,I,rfl⟩:=Ah.1 hp;obtain⟨a0,ha0,rfl⟩:=Ah.1 I;obtain⟨w,hw,hr⟩:=(hA a0 ha0).2.1.mem v hv;exact hr.nh (q8 (ahd a0) (Ah.2 ⟨a0,ha0,rfl⟩) w hw)
 ·obtain⟨p,_,h⟩:=hK.mem x hx;exact h.q
 ·obtain⟨y,_,h⟩:=hmB x hx;exact h.q
 ·obtain⟨a,I,rfl⟩:=Ah.1 hx;exact(hA a I).1.q
 ·obtain⟨c0,c1,c2,c3,c4⟩:=aRb.1 (le_refl (cw A E (.mk f n nm t ks bs al) ρ));rw[θ h7] at c2;generalize cw A E (.mk f n nm t ks bs al) ρ=K at *;refine aRb.2 ⟨by omega,by omega,fun x hx=>?_,fun x hx=>⟨?_,?_⟩,fun x hx=>?_⟩
  ·obtain⟨p,hp,h⟩:=hK.mem x hx;rw[θ h7];have h1:=h.cw A E ρ;have h2:=c2 p hp;omega
  ·obtain⟨y,J,e⟩:=hmT x hx;rw[←e];have:=(c3 y J).1
   omega
  ·obtain⟨y,J,h⟩:=hmB x hx;have h1:=h.cw A E ρ;have h2:=(c3 y J).2
   omega
  ·obtain⟨a,I,rfl⟩:=Ah.1 hx;have h1:=(hA a I).1.cw A E ρ;have h2:=c4 a I;omega
 ·rcases rT.1 hx with h | ⟨y,J,h,_⟩ | ⟨y,J,h⟩ | ⟨y,J,h⟩
  ·exact .inl (rT.2 (.inl h))
  ·obtain⟨p,hp,g⟩:=hK.mem y J;exact(g.ty x h).imp (fun h=>rT.2 (.inr (.inl ⟨p,hp,h,.inl h7⟩))) id
  ·rcases h with h | h
   ·obtain⟨z,hz,e⟩:=hmT y J;exact .inl (rT.2 (.inr (.inr (.inl ⟨z,hz,.inl (by rw[e];exact h)⟩))))
   ·obtain⟨z,hz,g⟩:=hmB y J;exact(g.ty x h).imp (fun h=>rT.2 (.inr (.inr (.inl ⟨z,hz,.inr h⟩)))) id
  ·obtain⟨a,I,rfl⟩:=Ah.1 J;exact((hA a I).1.ty x h).imp (fun h=>rT.2 (.inr (.inr (.inr ⟨a,I,h⟩)))) id
 ·obtain⟨d1,d2,d3⟩:=a2k (f:=f) (n:=n) (s:=nm) (t:=t) (ks:=ks) (bs:=bs) (al:=al);rw[θ h7] at d1;generalize tlC (.mk f n nm t ks bs al)=K at *;have:=(aWu (K:=K+tlC b) (f:=f) (n:=n) (s:=(if f=5 then Y.headD nm else nm)) (t:=t) (ks:=Z.take ks.length) (bs:=mkB (bs.map Bind.ty) Y (Z.drop ks.length)) (al:=al.map (kF sb s b))).2 ⟨fun x hx=>?_,fun x hx=>?_,fun x hx=>?_⟩
  ·rwa [θ h7,Be] at this
  ·obtain⟨p,hp,h⟩:=hK.mem x hx;have:=h.tl;have:=d1 p hp;omega
  ·obtain⟨y,J,h⟩:=hmB x hx;have:=h.tl;have:=d2 y J;omega
  ·obtain⟨a,I,rfl⟩:=Ah.1 hx;have:=(hA a I).1.tl;have:=d3 a I;omega
end
theorem aAe {G:List Str}{x:Str}:∀{l o:List Str},x∈pfP G o l→x∈o∨(x∈l∧¬x∈G)
 | [],o,h=>.inl h
 | y::l,o,h=>by
  rcases aAe (l:=l) (o:=pfG G o y) h with h | ⟨h,q⟩
  ·unfold pfG at h;split at h
   ·exact .inl h
   ·rename_i I;rcases aJ4.1 h with h | h
    ·exact .inl h
    ·exact .inr ⟨by rw[h];exact η,by rw[h];exact I⟩
  ·exact .inr ⟨χ _ h,q⟩
theorem aJl {G:List Str}{x:Str}:∀{l:List Core}{o:List Str},x∈wI G l o→x∈o∨∃c∈l,x∈pfR c∧¬x∈G
 | [],o,h=>by rw[wI] at h;exact .inl h
 | c::l,o,h=>by
  rw[wI] at h;rcases aJl h with h | ⟨d,hd,h⟩
  ·rcases aAe h with h | h
   ·exact .inl h
   ·exact .inr ⟨c,η,h⟩
  ·exact .inr ⟨d,χ _ hd,h⟩
theorem aJm {G:List Str}{x:Str}:∀{l:List Bind}{o:List Str},x∈xO G l o→x∈o∨∃c∈l,x∈pfR c.body∧¬x∈G
 | [],o,h=>by rw[xO] at h;exact .inl h
 | .mk s t c::l,o,h=>by
  rw[xO] at h;rcases aJm h with h | ⟨d,hd,h⟩
  ·rcases aAe h with h | h
   ·exact .inl h
   ·exact .inr ⟨.mk s t c,η,h⟩
  ·exact .inr ⟨d,χ _ hd,h⟩
theorem aJn {x:Str}:∀{l:List Alt}{o:List Str},x∈aAk l o→x∈o∨∃a∈l,x∈pfR a.body∧¬x∈a.vars
 | [],o,h=>by rw[aAk] at h;exact .inl h
 | .mk f n s v c::l,o,h=>by
  rw[aAk] at h;rcases aJn h with h | ⟨d,hd,h⟩
  ·rcases aAe h with h | h
   ·exact .inl h
   ·exact .inr ⟨.mk f n s v c,η,h⟩
  ·exact .inr ⟨d,χ _ hd,h⟩
section
variable {f n:Int}{nm:Str}{t:Ty}{ks:List Core}{bs:List Bind}{al:List Alt}{x:Str}
theorem cZ (q:f≠1):x∈pfR (.mk f n nm t ks bs al)↔(∃p∈ks++bs.map Bind.body,x∈pfR p∧¬x∈gvN f nm bs)∨∃a∈al,x∈pfR a.body∧¬x∈a.vars:=by
 constructor
 ·intro h;rw[pfR,θ q] at h;rcases aJn h with h | h
  ·rcases aJm h with h | ⟨b,hb,h⟩
   ·rcases aJl h with h | ⟨c,hc,h⟩
    ·cases h
    ·exact .inl ⟨c,ω.2 (.inl hc),h⟩
   ·exact .inl ⟨b.body,ω.2 (.inr (Ah.2 ⟨b,hb,rfl⟩)),h⟩
  ·exact .inr h
 ·rintro(⟨p,hp,h1,h2⟩ | ⟨a,ha,h1,h2⟩)
  ·rw[pfR,θ q];refine aAj ?_;rcases ω.1 hp with hp | hp
   ·exact aAh (aAf hp h1 h2)
   ·obtain⟨b,hb,rfl⟩:=Ah.1 hp;exact aAg hb h1 h2
  ·rw[pfR,θ q];exact aAi ha h1 h2
end
mutual
def mS (σ:Str→Nat):Core→Nat
 | .mk f _ s _ ks bs al=>(if f=1 then σ s else 1+w30 s)+mSs σ ks+mSb σ bs+mSa σ al
def mSs (σ:Str→Nat):List Core→Nat
 | []=>0
 | c::l=>mS σ c+mSs σ l
def mSb (σ:Str→Nat):List Bind→Nat
 | []=>0
 | .mk s _ c::l=>1+w30 s+mS σ c+mSb σ l
def mSa (σ:Str→Nat):List Alt→Nat
 | []=>0
 | .mk _ _ s vs c::l=>1+w30 s+(vs.map fun v=>1+w30 v).sum+mS σ c+mSa σ l
end
structure Sg (σ:Str→Nat):Prop where
 ge:∀s,1+w30 s≤σ s
 fr:∀l,(bE l).length≤30→σ (bE l)≤31
section
variable {σ:Str→Nat}
theorem a7w {z:Str}:mS σ (vC z)=σ z:=by unfold vC;rw[mS,κ rfl,mSs,mSb,mSa];rfl
end
def Fr (z:Str):Prop:=∃l,z=bE l
section
variable {sb:Core→Str→Core→Core}{P:Core→Prop}
theorem aA8 {far:List Str}:∀{ns:List Str}{st:List Str×List Core×List Str},(∀x∈st.1,x∈(jX sb far ns st).1)∧∀n∈ns,n∈(jX sb far ns st).1∨n∈far
 | [],st=>⟨fun _ h=>h,fun n hn=>by cases hn⟩
 | n::ns,st=>by
  obtain⟨h1,h2⟩:=aA8 (far:=far) (ns:=ns) (st:=eV sb far st n);have e:jX sb far (n::ns) st=jX sb far ns (eV sb far st n):=rfl;rw[e];refine⟨fun x hx=>h1 x ?_,fun m hm=>?_⟩
  ·unfold eV;split<;>exact ω.2 (.inl hx)
  ·rcases Ac.1 hm with rfl | hm
   ·by_cases q:m∈far
    ·exact .inr q
    ·refine .inl (h1 m ?_);unfold eV;rw[θ q];exact ω.2 (.inr (Ab.2 rfl))
   ·exact h2 m hm
structure RN (p:Core) (out:List Str) (q:Core):Prop where
 pf:∀x∈pfR q,x∈pfR p∨x∈out
 ms:∀σ,Sg σ→mS σ q≤mS σ p
theorem aG6 {far:List Str}(hz:∀p n z,P p→Fr z→z.length≤30→P (sb p n (vC z))∧(∀x∈pfR (sb p n (vC z)),x∈pfR p∨x=z)∧∀σ,Sg σ→mS σ (sb p n (vC z))≤mS σ p):
  ∀{ns:List Str} {st:List Str×List Core×List Str},st.2.2.length+ns.length≤540000000000→(∀p∈st.2.1,P p)→A2 (fun p q=>P q∧RN p (jX sb far ns st).1 q) st.2.1 (jX sb far ns st).2.1
 | [],st,_,y=>by
  show A2 (fun p q=>P q∧RN p st.1 q) st.2.1 st.2.1;have key:∀l:List Core,(∀p∈l,P p)→A2 (fun p q=>P q∧RN p st.1 q) l l:=by
   intro l
   induction l with
   | nil=>intro _;exact .nil
   | cons p l ih=>intro h;exact .cons ⟨h p η,fun x hx=>.inl hx,fun _ _=>le_refl _⟩ (ih fun q I=>h q (χ _ I))
  exact key _ y
 | n::ns,st,hl,y=>by
  simp only[Ai] at hl;have O:=pS (sb:=sb) (far:=far) (st:=st) (n:=n);have e:jX sb far (n::ns) st=jX sb far ns (eV sb far st n):=rfl;rw[e];have Y:(bE st.2.2).length≤30:=aQr _ (by omega);by_cases hn:n∈far
  ·have es:eV sb far st n=(st.1++[bE st.2.2],st.2.1.map (fun p=>sb p n (vC (bE st.2.2))),st.2.2++[bE st.2.2]):=by unfold eV;rw[κ hn]
   rw[es] at O ⊢;have Z:∀p∈st.2.1.map (fun p=>sb p n (vC (bE st.2.2))),P p:=fun p hp=>by
    obtain⟨q,I,rfl⟩:=Ah.1 hp;exact(hz q n _ (y q I) ⟨_,rfl⟩ Y).1
   have J:=aG6 hz (far:=far) (ns:=ns) (st:=(st.1++[bE st.2.2],st.2.1.map (fun p=>sb p n (vC (bE st.2.2))),st.2.2++[bE st.2.2])) (by omega) Z;have hout:=(aA8 (sb:=sb) (far:=far) (ns:=ns) (st:=(st.1++[bE st.2.2],st.2.1.map (fun p=>sb p n (vC (bE st.2.2))),st.2.2++[bE st.2.2]))).1 (bE st.2.2) (ω.2 (.inr (Ab.2 rfl)))
   generalize jX sb far ns (st.1++[bE st.2.2],st.2.1.map (fun p=>sb p n (vC (bE st.2.2))),st.2.2++[bE st.2.2])=r at J hout ⊢;dsimp only at J;have key:∀(l:List Core) (m:List Core),(∀p∈l,P p)→A2 (fun p q=>P q∧RN p r.1 q) (l.map (fun p=>sb p n (vC (bE st.2.2)))) m→A2 (fun p q=>P q∧RN p r.1 q) l m:=by
    intro l
    induction l with
    | nil=>intro m _ h;cases h;exact .nil
    | cons p l aa=>
     intro m hp h;cases h with
     | cons h1 h2=>
      obtain⟨_,z2,z3⟩:=hz p n _ (hp p η) ⟨_,rfl⟩ Y;refine .cons ⟨h1.1,fun x hx=>?_,fun σ hσ=>le_trans (h1.2.ms σ hσ) (z3 σ hσ)⟩ (aa _ (fun q I=>hp q (χ _ I)) h2);rcases h1.2.pf x hx with h | h
      ·rcases z2 x h with h | h
       ·exact .inl h
       ·exact .inr (by rw[h];exact hout)
      ·exact .inr h
   exact key _ _ y J
  ·have es:eV sb far st n=(st.1++[n],st.2.1,st.2.2):=by unfold eV;rw[θ hn]
   rw[es] at O ⊢;exact aG6 hz (far:=far) (ns:=ns) (st:=(st.1++[n],st.2.1,st.2.2)) (by omega) y
structure RB (s:Str) (b:Core) (ns out:List Str) (p q:Core):Prop where
 pf:∀x∈pfR q,¬x∈out→(x∈pfR p∧¬x=s∧¬x∈ns)∨x∈pfR b
 ms:∀σ,Sg σ→mS σ b≤σ s→mS σ q≤mS σ p
theorem aOt {s:Str}{b:Core}{ns:List Str}{ps:List Core}(hP:∀p∈ps,P p)
  (hz:∀p n z,P p→Fr z→z.length≤30→P (sb p n (vC z))∧(∀x∈pfR (sb p n (vC z)),x∈pfR p∨x=z)∧∀σ,Sg σ→mS σ (sb p n (vC z))≤mS σ p)
  (hs:∀p,P p→(∀x∈pfR (sb p s b),(x∈pfR p∧¬x=s)∨x∈pfR b)∧∀σ,Sg σ→mS σ b≤σ s→mS σ (sb p s b)≤mS σ p)
  (hl:(ps.flatMap pfR).length+2*ns.length+(pfR b).length≤540000000000):A2 (RB s b ns (dV sb s b ns ps).1) ps (dV sb s b ns ps).2:=by
 unfold dV;split
 ·rename_i hin;have O:=aG6 hz (far:=pfR b) (ns:=ns) (st:=([],ps,ps.flatMap pfR++ns++pfR b)) (by simp only[ε];omega) hP;have Z:=(aA8 (sb:=sb) (far:=pfR b) (ns:=ns) (st:=([],ps,ps.flatMap pfR++ns++pfR b))).2
  generalize jX sb (pfR b) ns ([],ps,ps.flatMap pfR++ns++pfR b)=r at O Z ⊢;dsimp only at O ⊢;have key:∀(l m:List Core),A2 (fun p q=>P q∧RN p r.1 q) l m→A2 (RB s b ns r.1) l (m.map fun p=>sb p s b):=by
   intro l m h
   induction h with
   | nil=>exact .nil
   | cons h1 _ I=>
    refine .cons ⟨fun x hx y=>?_,fun σ hσ hb=>le_trans ((hs _ h1.1).2 σ hσ hb) (h1.2.ms σ hσ)⟩ I;rcases(hs _ h1.1).1 x hx with⟨h,aa⟩ | h
    ·rcases h1.2.pf x h with h | h
     ·by_cases J:x∈ns
      ·rcases Z x J with Y | Y
       ·exact absurd Y y
       ·exact .inr Y
      ·exact .inl ⟨h,aa,J⟩
     ·exact absurd h y
    ·exact .inr h
  exact key _ _ O
 ·rename_i hin;have key:∀l:List Core,(∀p∈l,p∈ps)→A2 (RB s b ns ns) l l:=by
   intro l
   induction l with
   | nil=>intro _;exact .nil
   | cons p l I=>
    intro h;refine .cons ⟨fun x hx y=>.inl ⟨hx,fun e=>hin ⟨Ce.2 ⟨p,h p η,by rw[←e];exact hx⟩,by rw[←e];exact y⟩,y⟩,fun _ _ _=>le_refl _⟩ (I fun q hq=>h q (χ _ hq))
  exact key ps fun p hp=>hp
end
section
variable {σ:Str→Nat}
theorem a30 {l m:List Core}(h:A2 (fun p q=>mS σ q≤mS σ p) l m):mSs σ m≤mSs σ l:=by
 induction h with
 | nil=>exact le_refl _
 | cons r _ y=>rw[mSs,mSs];omega
theorem aXq:∀{ts:List Ty}{ns:List Str}{ps:List Core}{bs:List Bind},A2 (fun(b:Bind) n=>w30 n≤w30 b.name) bs ns→A2 (fun(b:Bind) p=>mS σ p≤mS σ b.body) bs ps→mSb σ (mkB ts ns ps)≤mSb σ bs
 | [],_,_,_,_,_=>by unfold mkB;rw[mSb];exact Al _
 | t::ts,_,_,_,.nil,.nil=>by unfold mkB;rw[mSb];exact le_refl _
 | t::ts,n::ns,p::ps,.mk s ty c::bs,.cons h1 h2,.cons h3 h4=>by
  unfold mkB;rw[mSb,mSb];have:=aXq (ts:=ts) h2 h4;have h1:w30 n≤w30 s:=h1;have h3:mS σ p≤mS σ c:=h3;omega
end
structure PL (c:Core) (s:Str) (b r:Core):Prop where
 pf:∀x∈pfR r,(x∈pfR c∧¬x=s)∨x∈pfR b
 ms:∀σ,Sg σ→mS σ b≤σ s→mS σ r≤mS σ c
section
variable {sb:Core→Str→Core→Core}{X:Nat}{s:Str}{b:Core}{f n:Int}{nm:Str}{t:Ty}{ks:List Core}{bs:List Bind}{al:List Alt}
theorem a1b (J:f≠1) (hq:bU (QL X) (.mk f n nm t ks bs al)) (hn:A2 NR (gvN f nm bs) (dV sb s b (gvN f nm bs) (ks++bs.map Bind.body)).1)
  (hg:A2 (RB s b (gvN f nm bs) (dV sb s b (gvN f nm bs) (ks++bs.map Bind.body)).1) (ks++bs.map Bind.body) (dV sb s b (gvN f nm bs) (ks++bs.map Bind.body)).2)
  (ha:∀a∈al,A2 NR a.vars (dV sb s b a.vars [a.body]).1∧A2 (RB s b a.vars (dV sb s b a.vars [a.body]).1) [a.body] (dV sb s b a.vars [a.body]).2):PL (.mk f n nm t ks bs al) s b (sJ sb s b (.mk f n nm t ks bs al)):=by
 have hA:∀a∈al,RB s b a.vars (kF sb s b a).vars a.body (kF sb s b a).body∧A2 NR a.vars (kF sb s b a).vars:=fun a Z=>by
  obtain⟨g2,g1⟩:=ha a Z;refine⟨?_,g2⟩;show RB s b a.vars (dV sb s b a.vars [a.body]).1 a.body ((dV sb s b a.vars [a.body]).2.headD a.body);cases hx:(dV sb s b a.vars [a.body]).2 with
  | nil=>rw[hx] at g1;cases g1
  | cons y l'=>
   rw[hx] at g1;cases g1 with
   | cons h _=>exact h
 have aa:f=5→bs=[]:=fun h5=>(nH hq (.inl h5)).2.1
 rw[sJ];unfold zNm zKs zBs;generalize dV sb s b (gvN f nm bs) (ks++bs.map Bind.body)=r at hg hn ⊢;obtain⟨O,r2⟩:=r;dsimp only at *;have hK:=hg.take ks.length;rw[take_left] at hK;have hB:=hg.drop ks.length;rw[drop_left] at hB;have hBl:(r2.drop ks.length).length=bs.length:=by rw[hB.length,φ]
 have I:=hn.length;have hgv:gvN f (if f=5 then O.headD nm else nm) (mkB (bs.map Bind.ty) O (r2.drop ks.length))=O:=by
  by_cases h5:f=5
  ·have:=aa h5;subst this;unfold gvN at hn I ⊢;rw[κ h5] at hn I;rw[κ h5,κ h5]
   match O,I with
   | [y],_=>show [y]++(mkB [] [y] _).map Bind.name=[y];unfold mkB;rfl
  ·unfold gvN at I ⊢;rw[θ h5,A3] at I;rw[φ] at I;rw[θ h5,A3,mV (by rw[φ];exact I) (by rw[φ];exact hBl)]
 refine⟨fun x hx=>?_,fun σ hσ hb=>?_⟩
 ·rcases(cZ J).1 hx with⟨q,hq',h1,h2⟩ | ⟨a,Z,h1,h2⟩
  ·rw[hgv] at h2;have hqm:q∈r2:=by
    rcases ω.1 hq' with h | h
    ·exact Bz h
    ·obtain⟨y,hy,rfl⟩:=Ah.1 h;exact Cx (lK hy).1
   obtain⟨p,hp,hr⟩:=hg.mem q hqm;rcases hr.pf x h1 h2 with⟨g1,g2,g3⟩ | h
   ·exact .inl ⟨(cZ J).2 (.inl ⟨p,hp,g1,g3⟩),g2⟩
   ·exact .inr h
  ·obtain⟨a0,ha0,rfl⟩:=Ah.1 Z;rcases(hA a0 ha0).1.pf x h1 h2 with⟨g1,g2,g3⟩ | h
   ·exact .inl ⟨(cZ J).2 (.inr ⟨a0,ha0,g1,g3⟩),g2⟩
   ·exact .inr h
 ·rw[mS,mS,θ J,θ J];have e1:w30 (if f=5 then O.headD nm else nm)≤w30 nm:=by
   split
   ·rename_i hf;unfold gvN at hn;rw[κ hf] at hn;cases hn with
    | cons h _=>exact h.w
   ·exact le_refl _
  have e2:mSs σ (r2.take ks.length)≤mSs σ ks:=a30 (A2.mono (fun p q h=>h.ms σ hσ hb) hK);have e3:mSb σ (mkB (bs.map Bind.ty) O (r2.drop ks.length))≤mSb σ bs:=by
   by_cases hf:f=5
   ·have:=aa hf;subst this;show mSb σ (mkB [] _ _)≤_;unfold mkB;rw[mSb];exact Al _
   ·have h4:=hn;unfold gvN at h4;rw[θ hf,A3] at h4;exact aXq (A2.mapL (A2.mono (fun a b h=>h.w) h4)) (A2.mapL (A2.mono (fun p q h=>h.ms σ hσ hb) hB))
  have e4:mSa σ (al.map (kF sb s b))≤mSa σ al:=by
   clear ha hq
   induction al with
   | nil=>exact le_refl _
   | cons a l ihl=>
    obtain⟨af,an,anm,vs,Y⟩:=a;obtain⟨g1,g2⟩:=hA _ η;have:=ihl fun x hx=>hA x (χ _ hx)
    have g3:=g1.ms σ hσ hb;have g4:=aCl g2;have e:kF sb s b (Alt.mk af an anm vs Y)=.mk af an anm (kF sb s b (Alt.mk af an anm vs Y)).vars (kF sb s b (Alt.mk af an anm vs Y)).body:=rfl;have g3:mS σ (kF sb s b (Alt.mk af an anm vs Y)).body≤mS σ Y:=g3;have g4:((kF sb s b (Alt.mk af an anm vs Y)).vars.map fun v=>1+w30 v).sum≤(vs.map fun v=>1+w30 v).sum:=g4;rw[At,e,mSa,mSa];omega
  omega
end
def xE {α:Type}(L:List α) (i:Nat):List α:=L.reverse.take i++((L.drop i).take (L.length-2*i)++L.reverse.drop (L.length-i))
section
variable {α:Type}{L:List α}{i:Nat}
theorem zX (h:2*i≤L.length) (k:Nat):(xE L i)[k]?=if k<i then L.reverse[k]? else if k<L.length-i then L[k]? else L.reverse[k]?:=by
 have h1:(L.reverse.take i).length=i:=by rw[Ap,List.length_reverse];omega
 have h2:((L.drop i).take (L.length-2*i)).length=L.length-2*i:=by rw[Ap,Bk];omega
 unfold xE;by_cases hk:k<i
 ·rw[κ hk,Ax (by omega),List.getElem?_take_of_lt hk]
 ·rw[θ hk,Ao (by omega),h1];by_cases q:k<L.length-i
  ·rw[κ q,Ax (by omega),List.getElem?_take_of_lt (by omega),Am];congr 1;omega
  ·rw[θ q,Ao (by omega),h2,Am];congr 1;omega
theorem aJa (h:2*i≤L.length):(xE L i).length=L.length:=by
 unfold xE;simp only[ε,Ap,List.length_reverse,Bk];omega
theorem aOe (h:2*i+1<L.length) {x y:α}(hx:(xE L i)[i]?=some x) (q:(xE L i)[L.length-1-i]?=some y):((xE L i).set i y).set (L.length-1-i) x=xE L (i+1):=by
 refine Bg fun k=>?_
 have hl:=aJa (L:=L) (i:=i) (by omega);rw[zX (by omega)] at hx q;rw[θ (by omega),κ (by omega)] at hx q;rw[List.getElem?_set,List.getElem?_set,Cn,hl,zX (by omega),zX (by omega)];have I:∀j,j<L.length→L.reverse[j]?=L[L.length-1-j]?:=fun j hj=>List.getElem?_reverse hj
 by_cases h1:L.length-1-i=k
 ·subst h1;rw[κ rfl,κ (by omega),θ (by omega),θ (by omega),I _ (by omega),←hx];congr 1;omega
 ·rw[θ h1];by_cases h2:i=k
  ·subst h2;rw[κ rfl,κ (by omega),κ (by omega),I _ (by omega),←q]
  ·rw[θ h2];by_cases h3:k<i
   ·rw[κ h3,κ (by omega)]
   ·rw[θ h3,θ (show ¬k<i+1 by omega)];by_cases h4:k<L.length-(i+1)
    ·rw[κ (by omega),κ h4]
    ·rw[θ (show ¬k<L.length-i by omega),θ h4]
theorem aT2 (h:2*i≤L.length) (h2:L.length≤2*i+1):xE L i=L.reverse:=by
 refine Bg fun k=>?_
 rw[zX h];have q:∀j,j<L.length→L.reverse[j]?=L[L.length-1-j]?:=fun j hj=>List.getElem?_reverse hj
 by_cases h3:k<i
 ·rw[κ h3]
 ·rw[θ h3];by_cases h4:k<L.length-i
  ·rw[κ h4,q k (by omega)];congr 1;omega
  ·rw[θ h4]
theorem aOd:xE L 0=L:=by unfold xE;simp
end
theorem aRk (L:List Core) (hL:L.length≤570000000000):aW Tryz.prog 135 [.one (.hs 720 0 L.length L.length)] [(720,.arr 30 10 (L.map aB) 0)] (.tup []) [(720,.arr 30 10 (L.reverse.map aB) 0)]:=by
 have hkL:(L.map aB).length=L.length:=φ _;refine bZ (n:=28) tok Tryz.func135 rfl rfl rfl ?_;refine sg rfl (aC (aK (fun i:Nat=>mk [(0,.one (.hs 720 0 L.length L.length)),(2,I .i64 i),(3,I .i64 ((L.length:Int)-1-i))] [(720,.arr 30 10 ((xE L i).map aB) 0)]) (fun i=>2*i≤L.length) (fun i=>L.length-i) 0 (Al _) (sl (he:=⟨rfl,rfl,by show some (I .i64 _)=some (I .i64 _);congr 2;simp,trivial⟩) (hh:=⟨⟨_,rfl,.arrS (by rw[aOd])⟩,trivial⟩)) ?_));intro i hi;have J:=aJa (L:=L) hi;have O:((xE L i).map aB).length=L.length:=by rw[φ,J]
 refine a8 (sg rfl (aA rfl (fun hb=>?_) (fun hb=>?_)))
 ·have hlt:(i:Int)<(L.length:Int)-1-i:=ψ hb;obtain⟨x,hx⟩:=aJ (l:=xE L i) (k:=i) (by omega);obtain⟨y,Y⟩:=aJ (l:=xE L i) (k:=L.length-1-i) (by omega);have Z:=aOe (by omega) hx Y;have hx':=bT aB hx;have aa:=bT aB Y;have ej:(L.length:Int)-1-i=((L.length-1-i:Nat):Int):=by omega
  have ab:i≠L.length-1-i:=by omega
  have hj:L.length-1-i<L.length:=by omega
  have hil:i<L.length:=by omega
  have hy2:(((xE L i).map aB).set i (aB y))[L.length-1-i]?=some (aB y):=by rw[List.getElem?_set_ne ab];exact aa
  have q:(((xE L i).map aB).set i (aB y)).set (L.length-1-i) (aB x)=(xE L (i+1)).map aB:=by rw[←Z,map_set,map_set]
  have hks:(((xE L i).map aB).set i (aB y)).length=L.length:=by rw[Cn,O]
  refine aD (AWp.sub (st2:=mk [(0,.one (.hs 720 0 L.length L.length)),(2,I .i64 i),(3,I .i64 ((L.length-1-i:Nat):Int))] [(720,.arr 30 10 ((xE L i).map aB) 0)]) (sl (he:=⟨rfl,rfl,congrArg (fun x=>some (I .i64 x)) ej,trivial⟩)) ?_);generalize L.length-1-i=j at *;refine a8 (aC (ag [(7,.row j (aB y)),(11,.row i (aB x)),(13,.row i (aB x)),(15,.row j (aB y))] rfl (ag [] rfl ⟨i+1,by omega,by dsimp only;omega,sl (he:=⟨rfl,rfl,?_,trivial⟩) (hh:=⟨⟨_,rfl,.arrS q⟩,trivial⟩)⟩)));show some (I .i64 ((j:Int)-1))=some (I .i64 ((L.length:Int)-1-((i+1:Nat):Int)));congr 2;omega
 ·have hge:¬(i:Int)<(L.length:Int)-1-i:=π hb;rw[aT2 hi (by omega)];exact aL ⟨.inl rfl,⟨_,_,.nil,.nil,rfl⟩,⟨⟨_,rfl,.arr⟩,trivial⟩,rfl⟩
theorem z8 {X:Nat}{f n:Int}{s:Str}{t:Ty}{ks:List Core}{bs:List Bind}{al:List Alt}(h:bU (QL X) (.mk f n s t ks bs al)) (q:f=4∨f=10):(∃a b,ks=[a,b])∧bs=[]∧al=[]:=by
 obtain⟨h1,_⟩:=aM.1 h;have g:=h1.1;unfold okF at g;rw[κ q] at g;obtain⟨g1,g2,g3⟩:=ψ g;rw[φ] at g2 g3;refine⟨?_,Bc.1 g2,Bc.1 g3⟩
 match ks,g1 with
 | [a,b],_=>exact⟨a,b,rfl⟩
theorem aRm (c:Core) (q:LC c) (y:NFr c):aW Tryz.prog 136 [.pa (aB c)] [] (ouV (pfR c)) [(500,ouO (pfR c))]:=qG c (fun x _=>aBt (aQ x) x (le_refl _)) q y
theorem aX3:∀(k n:Nat),n<10^(k+1)→(Lib.decDigits n).length≤k+1
 | 0,n,h=>by rw[Lib.decDigits,dif_pos (by omega)];exact le_refl _
 | k+1,n,h=>by
  rw[Lib.decDigits];split
  ·simp
  ·rw[ε];have:=aX3 k (n/10) (by rw[Nat.pow_succ] at h;omega);simp only[Bs,List.length_nil];omega
noncomputable def iE (c:Core) (l:List (Str×Str)):Core:=l.foldl (fun c p=>fR (m30 c) c p.1 (vC p.2)) c
noncomputable def mL (c:Core) (l:List (Str×Core)):Core:=l.foldl (fun c p=>fR (m30 c) c p.1 p.2) c
section
variable {D M X B:Nat}{c:Core}{l:List Core}
end
theorem pX {α β γ:Type}(g:γ→α×β→γ) (z:γ) {a:List α}{b:List β}{i:Nat}{x:α}{y:β}(ha:a[i]?=some x) (hb:b[i]?=some y):((a.zip b).take (i+1)).foldl g z=g (((a.zip b).take i).foldl g z) (x,y):=by
 have h:(a.zip b)[i]?=some (x,y):=by rw[Bo];exact⟨ha,hb⟩
 rw[Bt,h,Bu];rfl
theorem aDb {l:List Core}{i:Nat}{b:Core}(h:l[i]?=some b):(l.take (i+1)).flatMap pfR=(l.take i).flatMap pfR++pfR b:=by
 rw[Bt,h,flatMap_append];simp
end Go.Proofs.YtnjaiimffoninaaGreatDoor
namespace Go.AM
open Go
def a13:BinOp→Int→Int→Option Int
 | .add,a,b=>some (IntKind.i64.wrap (a+b))
 | .sub,a,b=>some (IntKind.i64.wrap (a-b))
 | .mul,a,b=>some (IntKind.i64.wrap (a*b))
 | .quo,a,b=>if b=0 then none else some (IntKind.i64.wrap (a.tdiv b))
 | .rem,a,b=>if b=0 then none else some (a.tmod b)
 | _,_,_=>none
section
variable {P:Program}{n:Nat}{ops:Array Oper}{draw:Bool}{k d:Nat}{st:St}{pre:REs}{Q:St→Prop}{o:Oper}
theorem a68 {op:BinOp}{Z ty:TypeId}{x y:Operand}{a b r:Int}(O:o.op=.binOp op Z x y ty) (hd:o.dst=some d) (J:d<n) (hx:opv st x=some (I .i64 a)) (Y:opv st y=some (I .i64 b)) (q:a13 op a b=some r):
  Step P n o st ⟨opr x++opr y,[]⟩ ⟨some (d,some (I .i64 r)),[]⟩:=by
 cases op<;>simp only[a13] at q<;>try (cases q;done)
 ·cases q;exact aUg O hd J hx Y rfl
 ·cases q;exact aT5 O hd J hx Y rfl
 ·cases q;exact aUa O hd J hx Y rfl
 ·split at q
  ·cases q
  ·rename_i hb;cases q;exact a3e O hd J hx Y hb rfl
 ·split at q
  ·cases q
  ·rename_i hb;cases q;exact a3c O hd J hx Y hb rfl
theorem kw {op:BinOp}{O ty:TypeId}{x y:Operand}{a b:Int}(r:Int) (Y:a13 op a b=some r)
  (hk:kD P n ops draw (k+1) ⟨upd st.e d (some (I .i64 r)),st.h,st.d⟩ ((⟨opr x++opr y,[]⟩,⟨some (d,some (I .i64 r)),[]⟩)::pre) Q)
  (Z:ops[k]?=some o:=by rfl) (hg:o.guard=none:=by rfl) (q:o.op=.binOp op O x y ty:=by rfl) (hd:o.dst=some d:=by rfl) (J:Nat.blt d n=true:=by rfl) (hx:opv st x=some (I .i64 a):=by rfl) (hy:opv st y=some (I .i64 b):=by rfl):kD P n ops draw k st pre Q:=
 k_ (g_ Z hg (a68 q hd (gB J) hx hy Y)) hk
end
end Go.AM
namespace Go.Proofs.YtnjaiimffoninaaGreatDoor
open Go Go.AM
set_option maxRecDepth 20000
def aGb (n:Int):Core:=.mk 3 n [] zTy [] [] []
def a8b (s:Str):Core:=.mk 2 0 s zTy [] [] []
def zC:Core:=.mk 0 0 [] zTy [] [] []
def a6r:Str:=[97,100,100]
def a6o:Str:=[115,117,98]
def a6p:Str:=[109,117,108]
def a6q:Str:=[100,105,118]
def nEq:Str:=[101,113]
def nLt:Str:=[108,116]
def aNm (b:Bool):Core:=a8b (if b then [84,114,117,101] else [70,97,108,115,101])
def gP (s:Str) (a b:Int):Core×Int:=
 if s=a6r then(aGb (IntKind.i64.wrap (a+b)),0)
 else if s=a6o then(aGb (IntKind.i64.wrap (a-b)),0)
 else if s=a6p then(aGb (IntKind.i64.wrap (a*b)),0)
 else if s=a6q then(if b=0 then(zC,53) else(aGb (IntKind.i64.wrap (a.tdiv b)),0))
 else if s=nEq then(aNm (decide (a=b)),0)
 else if s=nLt then(aNm (decide (a<b)),0)
 else(zC,51)
theorem a5k (n:Int):aW Tryz.prog 63 [I .i64 n] [] (.pa (aB (aGb n))) []:=a5p n
theorem aYa (s:Str):aW Tryz.prog 84 [Go.AM.T s] [] (.pa (aB (a8b s))) []:=by
 refine bZ (n:=5) tok Tryz.func84 rfl rfl rfl ?_;exact sg rfl (sg rfl (aF (rtC trw)))
end Go.Proofs.YtnjaiimffoninaaGreatDoor
namespace Go.AM
open Go
def uniq (T:List (List C)):Prop:=∀k cs,(.str k::cs)∈T→fT k T=some cs
theorem kQ {r:List C}{l:List (List C)}(h:iF (r::l)):(∃s us,r=.str s::us)∧iF l:=by
 match r,h with
 | .str s::us,h=>exact⟨⟨s,us,rfl⟩,h⟩
theorem uR {k:List UInt8}{cs:List C}:∀{l:List (List C)},iF l→fT k l=some cs→(.str k::cs)∈l
 | [],_,h=>by simp[fT] at h
 | r::l,hm,h=>by
  obtain⟨⟨s,us,rfl⟩,q⟩:=kQ hm;simp only[fT] at h;split at h
  ·rename_i hs;cases h;subst hs;simp
  ·exact χ _ (uR q h)
theorem aD7 {k:List UInt8}{cs:List C}:∀{l:List (List C)},iF l→(.str k::cs)∈l→∃q,fT k l=some q
 | [],_,h=>by simp at h
 | r::l,hm,h=>by
  obtain⟨⟨s,us,rfl⟩,y⟩:=kQ hm;simp only[fT];split
  ·exact⟨us,rfl⟩
  ·rename_i hs;rcases Ac.1 h with h | h
   ·cases h;exact absurd rfl hs
   ·exact aD7 y h
theorem aKa {k:List UInt8}{vs:List C}{r:List C}:∀{l:List (List C)},iF l→r∈qO k vs l→r=.str k::vs∨r∈l
 | [],_,h=>by simp only[qO,Ab] at h;exact .inl h
 | r'::l,hm,h=>by
  obtain⟨⟨s,us,rfl⟩,q⟩:=kQ hm;simp only[qO] at h;split at h
  ·rcases Ac.1 h with h | h
   ·exact .inl h
   ·exact .inr (χ _ h)
  ·rcases Ac.1 h with h | h
   ·exact .inr (by rw[h];simp)
   ·exact(aKa q h).imp id fun h=>χ _ h
theorem sY {k k':List UInt8}{vs cs:List C}:∀{l:List (List C)},iF l→k'=k∨(.str k'::cs)∈l→∃q,(.str k'::q)∈qO k vs l
 | [],_,h=>by
  rcases h with rfl | h
  ·exact⟨vs,by simp[qO]⟩
  ·simp at h
 | r'::l,hm,h=>by
  obtain⟨⟨s,us,rfl⟩,y⟩:=kQ hm;simp only[qO];split
  ·rename_i hs;subst hs;rcases h with rfl | h
   ·exact⟨vs,by simp⟩
   ·rcases Ac.1 h with h | h
    ·cases h;exact⟨vs,by simp⟩
    ·exact⟨cs,χ _ h⟩
  ·rcases h with rfl | h
   ·obtain⟨q,h⟩:=sY (cs:=cs) (vs:=vs) y (.inl rfl);exact⟨q,χ _ h⟩
   ·rcases Ac.1 h with h | h
    ·cases h;exact⟨_,η ..⟩
    ·obtain⟨q,h⟩:=sY (k:=k) (vs:=vs) y (.inr h);exact⟨q,χ _ h⟩
theorem xF {S:Sto}{agg:Bool}{e:MapEntry}:∀{T:List (List C)},gN S agg T e→∃r∈T,∃vs,dH S r (e.key::vs)∧(e.val=if agg then .agg ⟨vs⟩ else vs.headD undef)∧(agg=false→vs.length=1)
 | [],h=>by simp only[gN] at h
 | r::T,h=>by
  simp only[gN] at h;rcases h with h | h
  ·exact⟨r,by simp,h⟩
  ·obtain⟨r',h1,h2⟩:=xF h;exact⟨r',χ _ h1,h2⟩
theorem aCs {S:Sto}{agg:Bool}{e:MapEntry}:∀{T:List (List C)}{r:List C},r∈T→(∃vs,dH S r (e.key::vs)∧(e.val=if agg then .agg ⟨vs⟩ else vs.headD undef)∧(agg=false→vs.length=1))→gN S agg T e
 | r'::T,r,h,k=>by
  simp only[gN];rcases Ac.1 h with h | h
  ·subst h;exact .inl k
  ·exact .inr (aCs h k)
theorem tZ {S:Sto}{agg:Bool}{T:List (List C)}:∀{es:List MapEntry},(∀e∈es,gN S agg T e)→∃ents,bD S agg ents es∧∀r∈ents,r∈T
 | [],_=>⟨[],by simp[bD],by simp⟩
 | e::es,h=>by
  obtain⟨r,h1,h2⟩:=xF (h e (by simp));obtain⟨ents,h3,h4⟩:=tZ fun x hx=>h x (χ _ hx)
  exact⟨r::ents,by simp only[bD];exact⟨e,es,rfl,h2,h3⟩,fun q y=>by
   rcases Ac.1 y with rfl | y
   ·exact h1
   ·exact h4 q y⟩
theorem aE2 {S:Sto}{agg:Bool}{T:List (List C)}:∀{ents:List (List C)}{es:List MapEntry},bD S agg ents es→(∀r∈ents,r∈T)→∀e∈es,gN S agg T e
 | [],_,h,_,e,he=>by simp only[bD] at h;subst h;simp at he
 | r::ents,_,h,k,e,he=>by
  simp only[bD] at h;obtain⟨e0,I,rfl,h1,h2⟩:=h;rcases Ac.1 he with rfl | he
  ·exact aCs (k r (by simp)) h1
  ·exact aE2 h2 (fun q y=>k q (χ _ y)) e he
theorem aAt {T:List (List C)}(y:iF T):∀{l:List (List C)},(∀r∈l,r∈T)→iF l
 | [],_=>trivial
 | r::l,h=>by
  have key:∀{T:List (List C)},iF T→r∈T→∃s us,r=.str s::us:=by
   intro T
   induction T with
   | nil=>intro _ h;simp at h
   | cons x T I=>
    intro hm h;obtain⟨h1,h2⟩:=kQ hm;rcases Ac.1 h with rfl | h
    ·exact h1
    ·exact I h2 h
  obtain⟨s,us,rfl⟩:=key y (h r (by simp));show iF l;exact aAt y fun q J=>h q (χ _ J)
theorem tE {S:Sto}{agg:Bool}{k:List UInt8}:∀{ents:List (List C)}{es:List MapEntry},iF ents→bD S agg ents es→((∃e∈es,e.key=.string ⟨⟨k⟩⟩)↔∃cs,(.str k::cs)∈ents)
 | [],_,_,h=>by simp only[bD] at h;subst h;simp
 | r::ents,_,hm,h=>by
  obtain⟨⟨s,us,rfl⟩,y⟩:=kQ hm;simp only[bD] at h;obtain⟨e0,Y,rfl,⟨vs,h1,_⟩,h2⟩:=h;simp only[dH,Rep] at h1;obtain⟨v,vs',O,h3,_⟩:=h1;have q:e0.key=.string ⟨⟨s⟩⟩:=by injection O with h4 _;rw[h4,h3]
  have I:=tE (k:=k) y h2;constructor
  ·rintro⟨e,he,hk⟩;rcases Ac.1 he with rfl | he
   ·rw[q] at hk;have J:s=k:=by simpa using hk
    subst J;exact⟨us,by simp⟩
   ·obtain⟨cs,hc⟩:=I.1 ⟨e,he,hk⟩;exact⟨cs,χ _ hc⟩
  ·rintro⟨cs,hc⟩;rcases Ac.1 hc with hc | hc
   ·cases hc;exact⟨e0,by simp,q⟩
   ·obtain⟨e,he,hk⟩:=I.2 ⟨cs,hc⟩;exact⟨e,χ _ he,hk⟩
section
variable {P:Program}{n:Nat}
theorem aLz {o:Oper}{st:St}{d:Nat}{t:TypeId}{id:Nat}{agg:Bool}{T:List (List C)}(I:T≠[]) (ho:o.op=.makeMap t none) (hd:o.dst=some d) (J:d<n) (hid:st.h id=none):Step P n o st ⟨[],[id]⟩ ⟨some (d,some (.one (.mr id))),[(id,some (.map agg ([]::T)))]⟩:=by
 intro st' ha G S μ a w K Q hs O;refine aC3 id agg ho hd J hid st' ha G S μ a w K Q hs fun S1 Y a1 Z h1=>O S1 Y a1 Z ?_
 have q:updL st'.h [(id,some (.map agg []))] id=some (.map agg []):=by rw[dG,aI]
 obtain⟨b,es,clk,g1,g2,g3,g4⟩:=h1.inv.obj id _ q;have y:=g3.rep (ents:=[]) trivial;simp only[bD] at y;have h2:=h1.turnMap (id:=id) (agg:=agg) (ents:=[]) (ents':=[]::T) q ⟨b,es,clk,g1,g2,.inr (.inr ⟨T,rfl,I,by rw[y];simp⟩),.inl (g4.kn0 trivial)⟩;have e:(upd (updL st'.h [(id,some (.map agg []))]) id (some (.map agg ([]::T))))=updL st'.h [(id,some (.map agg ([]::T)))]:=by
  rw[dG,dG,mE]
 have h3:Sim G n S1 Y ⟨upd st'.e d (some (.one (.mr id))),upd (updL st'.h [(id,some (.map agg []))]) id (some (.map agg ([]::T))),st'.d⟩ a1 Z:=h2;rw[e] at h3;exact h3
theorem kN {o:Oper}{st:St}{T:TT}{t kt et:TypeId}{i ki:TI}{x y z:Operand}{id tid:Nat}{agg:Bool}{k:List UInt8}{v:V}{rs:List R}{cs:List C}{ids:List Nat}{Tr:List (List C)}(hT:Tok P T) (ho:o.op=.insert t x y z) (hd:o.dst=none) (hi:T[t]?=some (some i)) (hk:i.k=.mp kt et)
  (hki:T[kt]?=some (some ki)) (hkk:ki.k=.str) (hx:opv st x=some (.one (.mr id))) (hh:st.h id=some (.map agg ([]::Tr))) (hmT:iF Tr) (htid:st.h tid=none) (hy:opv st y=some (Go.AM.T k))
  (hz:opv st z=some v) (I:(match v with | .one _=>!agg | .pa _=>agg | .ma _=>agg | _=>false)=true) (hc:j0 v=some rs) (hp:PureL st.h ids rs cs) (hrow:(.str k::cs)∈Tr):
  Step P n o st ⟨opr x++opr y++opr z,id::tid::ids⟩ ⟨none,[(tid,some (.tok (.mr id) k))]⟩:=by
 intro st' ha G S μ a w K Q hs hK;have J:st'.h id=some (.map agg ([]::Tr)):=(ha.2 id (by simp)).trans hh;have ht':st'.h tid=none:=(ha.2 tid (by simp)).trans htid;have hne:id≠tid:=fun e=>by rw[e,ht'] at J;cases J
 have h1:=aO hs hx fun t h=>ha.1 t (by simp[h])
 have h3:=lI (aO hs hy fun t h=>ha.1 t (by simp[h]));have O:=aO hs hz fun t h=>ha.1 t (by simp[h])
 simp only[aY,b9] at h1;obtain⟨agg',ents',b,c,q1,q2,q3⟩:=h1;obtain⟨b',es,clk,g1,g2,g3,g4⟩:=hs.inv.obj id _ J;rw[g1] at q2;cases q2;have hTr:Tr≠[]:=fun e=>by subst e;simp at hrow
 have hrows:∀e∈es.toList,gN S agg Tr e:=by
  rcases g3 with⟨e,_⟩ | g3 | ⟨T',e,_,h⟩
  ·cases e;exact absurd rfl hTr
  ·simp only[bD,dH] at g3;obtain⟨_,_,_,⟨_,g,_⟩,_⟩:=g3;cases g
  ·cases e;exact h
 obtain⟨ents,hents,hsub⟩:=tZ hrows;have Z:=aAt hmT hsub;have hrep:=hp.rel (fun i h=>ha.2 i (by simp[h])) hs.inv.obj (fC O hc);have hval:a.eval z=(if agg then .agg ⟨(a.eval z).cells.toList⟩ else(a.eval z).cells.toList.headD undef)∧(agg=false→(a.eval z).cells.toList.length=1):=by
  cases v with
  | one r=>
   simp at I;subst I;simp only[aY] at O;rw[O.one.1];simp
  | pa l=>
   simp at I;subst I;simp only[aY] at O;obtain⟨vs,O,_⟩:=O;rw[O];simp[Value.cells]
  | ma l=>
   simp at I;subst I;simp only[aY] at O;obtain⟨vs,O,_⟩:=O;rw[O];simp[Value.cells]
  | tup l=>simp at I
 obtain⟨Y,ab,hrun,hnew⟩:=aN6 (P:=P) hT ho hi hk hki hkk q3 h3 g2 hents Z hrep hval;have hkeys:∀k',k'=k∨aEj k' es→aEj k' Y:=fun k' h=>by
  refine(tE (aPl Z) hnew).2 ?_;rcases h with h | h
  ·exact sY (cs:=[]) Z (.inl h)
  ·obtain⟨cs',h⟩:=(tE Z hents).1 h;exact sY Z (.inr h)
 have hlt:=dE g2
 let w':World:={ w with heap:=w.heap.setIfInBounds b (.map Y ab) }
 have hwb:w'.heap[b]?=some (.map Y ab):=by simp[w',hlt]
 have hwo:∀j,j≠b→w'.heap[j]?=w.heap[j]?:=fun j hj=>by
  show(w.heap.setIfInBounds b _)[j]?=_;rw[By,θ (fun e=>hj e.symm)]
 let S':Sto:=⟨S.cell,fun b'=>if b'=b then some (.part fun k'=>aEj k' Y) else S.mapo b'⟩
 have ac:S'.mapo b=some (.part fun k'=>aEj k' Y):=κ rfl;have ad:∀j,j≠b→S'.mapo j=S.mapo j:=fun j hj=>θ hj
 have hle:S.le S':=⟨fun _ _ _ e=>e,fun b' m e=>by
  by_cases hb:b'=b
  ·subst hb;refine⟨_,ac,?_⟩;rcases g4 with g4 | ⟨_,ks,_,_,g4⟩
   ·rw[g4] at e;cases e
   ·rw[g4] at e;cases e;obtain⟨es0,clk0,p1,p2⟩:=hs.inv.holds.2 _ _ g4;rw[g2] at p1;cases p1;exact fun k' h=>hkeys k' (.inr (p2 k' h))
  ·exact⟨m,by rw[ad b' hb];exact e,m.le_refl⟩⟩
 have hE:Evolve S μ st'.h S' (upd μ tid none) (upd st'.h tid (some (.tok (.mr id) k))):=⟨hle,fun j x hj=>by
  have q:j≠tid:=fun e=>by rw[e,ht'] at hj;cases hj
  exact⟨x,by rw[aV _ _ _ q];exact hj,x.succ_refl (aV _ _ _ q)⟩⟩
 have hoth:∀j x,st'.h j=some x→j≠id→∀b' c',μ j=some (b',c')→b'≠b:=by
  rintro j x hj hji b' c' hm rfl;exact hji (hs.inv.inj j id x _ b' c' _ hj J hm g1)
 have hfr:∀j,j<G.w0.heap.size→¬G.F j→j≠b:=by
  rintro j hj hF rfl;rcases hs.inv.own id _ _ _ J g1 with h | h
  ·omega
  ·exact hF h
 have hold:∀j x,upd st'.h tid (some (.tok (.mr id) k)) j=some x→j≠tid→st'.h j=some x:=fun j x hj q=>by rwa [aV _ _ _ q] at hj
 have hI:Inv G S' (upd μ tid none) (upd st'.h tid (some (.tok (.mr id) k))) w':=by
  refine⟨⟨fun b' o u e=>?_,fun b' m e=>?_⟩,fun j x hj=>?_,fun i j x x' b1 c1 c2 hi hj m1 m2=>?_,fun i x b1 c1 hi m1=>?_,?_,Sto.le_trans hs.inv.sle hle,fun b' hb hF=>?_,hs.inv.evo.trans hE,Sto.free_of hs.inv.fre (b:=b) (fun j hj=>⟨fun _=>rfl,ad j hj⟩) fun te lo hi e=>by rw[ac] at e;cases e⟩
  ·obtain⟨vs,t',fr,p1,p2⟩:=hs.inv.holds.1 b' o u e;have hb:b'≠b:=by rintro rfl;rw[g2] at p1;cases p1
   exact⟨vs,t',fr,by rw[hwo b' hb];exact p1,p2⟩
  ·by_cases hb:b'=b
   ·subst hb;rw[ac] at e;cases e;exact⟨Y,ab,hwb,fun _ h=>h⟩
   ·rw[ad b' hb] at e;rw[hwo b' hb];exact hs.inv.holds.2 b' m e
  ·by_cases q:j=tid
   ·subst q;have aa:some (AObj.tok (.mr id) k)=some x:=by rw[←hj];exact(aI _ _ _).symm
    cases aa;refine⟨aI _ _ _,b,?_,_,ac,hkeys k (.inl rfl)⟩;simp only[b9];exact⟨agg,_,b,_,by rw[aV _ _ _ hne];exact J,by rw[aV _ _ _ hne];exact g1,rfl⟩
   ·have aa:=hold j x hj q;by_cases hji:j=id
    ·subst hji;rw[J] at aa;cases aa;refine⟨b,Y,ab,by rw[aV _ _ _ hne];exact g1,hwb,.inr (.inr ⟨Tr,rfl,hTr,?_⟩),.inr ⟨Tr,_,rfl,hTr,ac⟩⟩;refine fun e he=>gN.mono hle _ _ _ (aE2 hnew (fun r hr=>?_) e he)
     rcases aKa Z hr with rfl | hr
     ·exact hrow
     ·exact hsub r hr
    ·refine(hs.inv.obj j x aa).evolve hE (aV _ _ _ q) fun b1 c1 hm=>?_
     have hb:=hoth j x aa hji b1 c1 hm;exact⟨hwo b1 hb,fun _=>rfl,ad b1 hb⟩
  ·have e1:i≠tid:=fun e=>by subst e;rw[aI] at m1;cases m1
   have e2:j≠tid:=fun e=>by subst e;rw[aI] at m2;cases m2
   rw[aV _ _ _ e1] at m1;rw[aV _ _ _ e2] at m2;exact hs.inv.inj i j x x' b1 c1 c2 (hold i x hi e1) (hold j x' hj e2) m1 m2
  ·have e1:i≠tid:=fun e=>by subst e;rw[aI] at m1;cases m1
   rw[aV _ _ _ e1] at m1;exact hs.inv.own i x b1 c1 (hold i x hi e1) m1
  ·refine⟨hs.inv.frame.os,hs.inv.frame.tape,hs.inv.frame.output,?_,fun j hj hF=>?_,hs.inv.frame.tab⟩
   ·show G.w0.heap.size≤(w.heap.setIfInBounds b _).size;rw[Array.size_setIfInBounds];exact hs.inv.frame.size
   ·rw[hwo j (hfr j hj hF)];exact hs.inv.frame.block j hj hF
  ·obtain⟨p1,p2⟩:=hs.inv.sto b' hb hF;exact⟨p1,(ad b' (hfr b' hb hF)).trans p2⟩
 refine fun ro=>rS hrun ?_
 rw[hd];refine hK S' (upd μ tid none) _ _ ?_;have:=hs.put_none hI hE undef;unfold Eff.apply;rw[dG];exact this
theorem Sub.fmapU {kf:List Nat}{st:St}{id:Nat}{agg:Bool}{T:List (List C)}(hid:st.h id=some (.map agg ([]::T))) (O:id∉kf) (Y:T≠[]) (J:∀k cs,(.str k::cs)∈T→∃tid,st.h tid=some (.tok (.mr id) k)):
  Sub kf ⟨fun t=>(st.e t).map (V.fz id (.map agg ([]::T))),hfz id (.map agg ([]::T)) st.h,st.d⟩ st:=by
 intro G n S μ a w hg hs;obtain⟨b,es,clk,h1,h2,h3,h4⟩:=hs.inv.obj id _ hid;obtain⟨S',q,y,I,hle,hh⟩:=aU2 hs.inv.holds h2;refine⟨S',μ,tD hid rfl O hg hs hle hh ?_ (fun b' hb=>⟨fun _=>by rw[q],?_⟩) (Sto.free_of hs.inv.fre (b:=b) (fun b' hb=>⟨fun _=>by rw[q],I b' hb⟩) fun te lo hi e=>by rw[y] at e;cases e)⟩
 ·intro b' c hm;rw[h1] at hm;cases hm;refine⟨es,clk,y,.inr ?_⟩;simp only[aNd];refine⟨trivial,fun e he=>?_,fun k cs hk=>?_⟩
  ·refine gN.mono hle _ _ _ ?_;rcases h3 with⟨e,_⟩ | h3 | ⟨T',e,_,h⟩
   ·cases e;exact absurd rfl Y
   ·simp only[bD,dH] at h3;obtain⟨_,_,_,⟨_,g,_⟩,_⟩:=h3;cases g
   ·cases e;exact h _ he
  ·obtain⟨tid,ht⟩:=J k cs hk;obtain⟨_,b2,Z,m,q2,q3⟩:=hs.inv.obj tid _ ht;simp only[b9] at Z;obtain⟨_,_,b3,c3,p1,p2,p3⟩:=Z;rw[h1] at p2;cases p2;cases p3;have p5:=hs.inv.holds.2 _ _ q2;rw[h2] at p5;exact MK.holds_map p5 k q3
 ·exact I b' fun e=>hb (0,0) (by rw[e];exact h1)
theorem u9 {o:Oper}{st:St}{d:Nat}{T:TT}{t J O:TypeId}{i Y ei:TI}{x y:Operand}{ok:Bool}{agg:Bool}{Tr:List (List C)}{k:List UInt8}{r:Option (List C)}(hT:Tok P T) (ho:o.op=.lookup t x y ok) (hd:o.dst=some d) (Z:d<n) (hi:T[t]?=some (some i)) (hk:i.k=.mp J O)
  (aa:T[J]?=some (some Y)) (ab:Y.k=.str) (ac:T[O]?=some (some ei)) (ad:ei.k.agg=agg) (hx:opv st x=some (.one (.c (.mp agg ([]::Tr))))) (I:iF Tr) (hu:uniq Tr) (hy:opv st y=some (Go.AM.T k)) (hr:fT k Tr=r):
  Step P n o st ⟨opr x++opr y,[]⟩ ⟨some (d,some (if ok then .tup [oL ei r,B (aA2 r)] else oL ei r)),[]⟩:=
 aC4 hT ho hd Z hi hk aa ab ac ad hy fun st' ha G S μ a w hs=>by
  have hv:=aO hs hx fun t h=>ha.1 t (by simp[h])
  simp only[aY,b9,Rep] at hv;obtain⟨b,es,clk,h1,h2,h3⟩:=hv;rcases h3 with h3 | h3
  ·simp only[bD,dH] at h3;obtain⟨_,_,_,⟨_,g,_⟩,_⟩:=h3;cases g
  ·simp only[aNd] at h3;obtain⟨_,h4,h5⟩:=h3;obtain⟨ents,h6,h7⟩:=tZ h4;have q:=aAt I h7;refine⟨es,ents,q,?_,h6,.inr ⟨b,clk,h1,hs.inv.holds.2 _ _ h2⟩⟩;rw[←hr];cases hq:fT k ents with
   | some cs=>exact(hu k cs (h7 _ (uR q hq))).symm
   | none=>
    cases hq2:fT k Tr with
    | none=>rfl
    | some cs=>
     obtain⟨cs',h8⟩:=(tE q h6).1 (h5 k cs (uR I hq2))
     obtain⟨cs'',h9⟩:=aD7 q h8;rw[hq] at h9;cases h9
end
mutual
def R.toC:R→Option C
 | .c x=>some x
 | .clo f caps=>(R.toCL caps).map (C.clo f)
 | _=>none
def R.toCL:List R→Option (List C)
 | []=>some []
 | r::rs=>(R.toC r).bind fun x=>(R.toCL rs).map (x:: ·)
end
mutual
theorem b9.toC {S:Sto}{μ:Mu}{H:dD}:∀(r:R) (x:C) (v:Value),r.toC=some x→b9 S μ H r v→Rep S x v
 | .c x,y,v,h,k=>by
  simp only[R.toC,Option.some.injEq] at h;subst h;simpa only[b9] using k
 | .clo f caps,y,v,h,k=>by
  simp only[R.toC,Ar] at h;obtain⟨l,h1,rfl⟩:=h;simp only[b9] at k;obtain⟨vs,h2,h3⟩:=k;simp only[Rep];exact⟨vs,h2,b6.toC caps l vs h1 h3⟩
 | .hs ..,_,_,h,_=>by simp[R.toC] at h
 | .tl ..,_,_,h,_=>by simp[R.toC] at h
 | .vp ..,_,_,h,_=>by simp[R.toC] at h
 | .ep ..,_,_,h,_=>by simp[R.toC] at h
 | .mr ..,_,_,h,_=>by simp[R.toC] at h
 | .mth ..,_,_,h,_=>by simp[R.toC] at h
 | .yl ..,_,_,h,_=>by simp[R.toC] at h
 | .ra ..,_,_,h,_=>by simp[R.toC] at h
 | .rp ..,_,_,h,_=>by simp[R.toC] at h
 | .ras ..,_,_,h,_=>by simp[R.toC] at h
 | .pas ..,_,_,h,_=>by simp[R.toC] at h
theorem b6.toC {S:Sto}{μ:Mu}{H:dD}:∀(rs:List R) (l:List C) (vs:List Value),R.toCL rs=some l→b6 S μ H rs vs→dH S l vs
 | [],l,vs,h,k=>by
  simp only[R.toCL,Option.some.injEq] at h;subst h;simpa only[b6,dH] using k
 | r::rs,l,vs,h,k=>by
  simp only[R.toCL,Aj,Ar] at h;obtain⟨x,h1,l',h2,rfl⟩:=h;simp only[b6] at k;obtain⟨v,vs',rfl,h3,h4⟩:=k;simp only[dH];exact⟨v,vs',rfl,b9.toC r x v h1 h3,b6.toC rs l' vs' h2 h4⟩
end
theorem dH.rrel {S:Sto}{μ:Mu}{H:dD}:∀{l:List C}{vs:List Value},dH S l vs→b6 S μ H (l.map R.c) vs
 | [],_,h=>by simpa only[dH,Co,b6] using h
 | _::l,_,h=>by
  simp only[dH] at h;obtain⟨v,vs',rfl,h1,h2⟩:=h;simp only[At,b6];exact⟨v,vs',rfl,by simp only[b9];exact h1,dH.rrel h2⟩
theorem Sub.varRe {kf:List Nat}{st:St}{x tv:Nat}{cells cells':List R}(h:st.h x=some (.var tv cells)) (hc:∀S μ vs,b6 S μ st.h cells vs→b6 S μ st.h cells' vs):Sub kf ⟨st.e,upd st.h x (some (.var tv cells')),st.d⟩ st:=by
 intro G n S μ a w _ hs;have hi:=hs.inv;obtain⟨b,vs,g1,g2,g3,g4⟩:=hi.obj x _ h
 have I:Evolve S μ st.h S μ (upd st.h x (some (.var tv cells'))):=⟨S.le_refl,fun j y hj=>by
  by_cases q:j=x
  ·subst q;rw[h] at hj;cases hj;exact⟨_,aI _ _ _,by simp[AObj.succ]⟩
  ·exact⟨y,by rw[aV _ _ _ q];exact hj,y.succ_refl rfl⟩⟩
 have hold:∀j y,upd st.h x (some (.var tv cells')) j=some y→∃y',st.h j=some y':=fun j y hj=>by
  by_cases q:j=x
  ·subst q;exact⟨_,h⟩
  ·rw[aV _ _ _ q] at hj;exact⟨_,hj⟩
 refine⟨S,μ,⟨⟨hi.holds,fun j y hj=>?_,fun i j y y' b c c' J hj hm Y=>?_,fun i y b c J hm=>?_,hi.frame,hi.sle,hi.sto,hi.evo.trans I,hi.fre⟩,hs.size,hs.defers.evolve I,fun s v e=>aY.evolve I v _ (hs.env s v e)⟩⟩
 ·by_cases q:j=x
  ·subst q;have O:some (AObj.var tv cells')=some y:=by rw[←hj];exact(aI _ _ _).symm
   cases O;exact⟨b,vs,g1,g2,b6.evolve I _ _ (hc _ _ _ g3),g4⟩
  ·have O:st.h j=some y:=by rw[←hj];exact(aV _ _ _ q).symm
   exact(hi.obj j y O).evolve I rfl fun _ _ _=>⟨rfl,fun _=>rfl,rfl⟩
 ·obtain⟨_,h1⟩:=hold _ _ J;obtain⟨_,h2⟩:=hold _ _ hj;exact hi.inj i j _ _ b c c' h1 h2 hm Y
 ·obtain⟨_,h1⟩:=hold _ _ J;exact hi.own i _ b c h1 hm
theorem Sub.varC {kf:List Nat}{st:St}{x tv:Nat}{rs:List R}(l:List C) (h:st.h x=some (.var tv rs)) (hl:R.toCL rs=some l):Sub kf ⟨st.e,upd st.h x (some (.var tv (l.map R.c))),st.d⟩ st:=
 Sub.varRe h fun _ _ vs k=>(b6.toC rs l vs hl k).rrel
theorem Step.retell {P:Program}{n:Nat}{o:Oper}{st:St}{rd:Rd}{f:Eff}(t:Nat) {u y:V}(h:st.e t=some u) (hu:∀S μ H v,aY S μ H u v↔aY S μ H y v) (hs:Step P n o ⟨upd st.e t (some y),st.h,st.d⟩ rd f) (ht:t∈rd.e):Step P n o st rd f:=by
 intro st' ha G S μ a w K Q J hk;have Y:st'.e t=some u:=(ha.1 t ht).trans h;refine hs ⟨upd st'.e t (some y),st'.h,st'.d⟩ ⟨fun s hs=>?_,ha.2⟩ G S μ a w K Q ?_ fun S1 aa a1 w1 h1=>hk S1 aa a1 w1 ?_
 ·show upd st'.e t (some y) s=upd st.e t (some y) s;by_cases e:s=t
  ·subst e;rw[aI,aI]
  ·rw[aV _ _ _ e,aV _ _ _ e];exact ha.1 s hs
 ·refine⟨J.inv,J.size,J.defers,fun s v e=>?_⟩;by_cases I:s=t
  ·subst I;have e':y=v:=by
    have:some y=some v:=by rw[←e];exact(aI _ _ _).symm
    cases this;rfl
   subst e';exact(hu _ _ _ _).1 (J.env s _ Y)
  ·exact J.env s v (by rw[←e];exact(aV _ _ _ I).symm)
 ·refine⟨h1.inv,h1.size,h1.defers,fun s v e=>?_⟩;obtain⟨fd,fh⟩:=f;cases fd with
  | none=>
   by_cases I:s=t
   ·subst I;have e0:st'.e s=some v:=e;rw[Y] at e0;cases e0;exact(hu _ _ _ _).2 (h1.env s y (aI _ _ _))
   ·exact h1.env s v (by rw[←e];exact aV _ _ _ I)
  | some q=>
   obtain⟨d,Z⟩:=q;by_cases O:s=d
   ·subst O;refine h1.env s v ?_;have e0:upd st'.e s Z s=some v:=e;show upd (upd st'.e t (some y)) s Z s=some v;rw[aI] at e0 ⊢;exact e0
   ·have e0:upd st'.e d Z s=some v:=e;rw[aV _ _ _ O] at e0;by_cases I:s=t
    ·subst I;rw[Y] at e0;cases e0;refine(hu _ _ _ _).2 (h1.env s y ?_);show upd (upd st'.e s (some y)) d Z s=some y;rw[aV _ _ _ O,aI]
    ·refine h1.env s v ?_;show upd (upd st'.e t (some y)) d Z s=some v;rw[aV _ _ _ O,aV _ _ _ I];exact e0
theorem aVt {f:FuncId}{l:List C}:∀S μ H v,aY S μ H (.one (.c (.clo f l))) v↔aY S μ H (.one (.clo f (l.map R.c))) v:=fun S μ H v=>by
 simp only[aY,b9,Rep];exact⟨fun⟨vs,h1,h2⟩=>⟨vs,h1,h2.rrel⟩,fun⟨vs,h1,h2⟩=>⟨vs,h1,h2.pure⟩⟩
theorem aQx {f:FuncId}:∀S μ H v,aY S μ H (.one (.c (.fn f))) v↔aY S μ H (.one (.clo f [])) v:=fun S μ H v=>by
 simp only[aY,b9,Rep,b6];exact⟨fun h=>⟨[],h,rfl⟩,fun⟨vs,h1,h2⟩=>by rw[h1,h2]⟩
section
variable {P:Program}{n:Nat}{ops:Array Oper}{draw:Bool}{k d:Nat}{st:St}{pre:REs}{Q:St→Prop}{o:Oper}{f:FuncId}{xs:Array Operand}{ts:Array TypeId}{ids:List Nat}{args:List V}{res:V}{hin hout:List (Nat×AObj)}
theorem kvC {x:Operand}{s:Nat}{l:List C}(J:aW P f (args++(l.map R.c).map V.one) hin res hout)
  (hk:kD P n ops draw (k+1) ⟨upd st.e d (some res),updL st.h (outs hout),st.d⟩ ((⟨opr x++dF xs.toList,ids++keys hin++keys hout⟩,⟨some (d,some res),outs hout⟩)::pre) Q)
  (hb:iI P f:=by exact wP (by kernel_rfl)) (O:ops[k]?=some o:=by rfl) (Y:o.guard=none:=by rfl) (y:o.op=.call { callee:=.value x,args:=xs,argTypes:=ts }:=by rfl) (hd:o.dst=some d:=by rfl) (I:Nat.blt d n=true:=by rfl) (q:x=.tmp s:=by rfl) (hx:st.e s=some (.one (.c (.clo f l))):=by rfl)
  (ha:ArgsV ⟨upd st.e s (some (.one (.clo f (l.map R.c)))),st.h,st.d⟩ ids xs.toList args:=by repeat (first | exact .nil | (apply Go.AM.ArgsV.cons rfl;(first | exact .refl | exact .one (.c .nl .nil) | exact .one (.c .sn .nil) | exact .one (.hs rfl (by first | rfl | simp) (by first | rfl | (simp;done) | (simp[Go.AM.take_map];done) | exact Go.AM.take_map.symm) .nil) | exact Go.AM.hs_all rfl rfl (by first | rfl | assumption | (simp;done) | (simp;omega)) (by first | rfl | assumption | (simp;done)) | ((first | apply Go.AM.Conv.pa | apply Go.AM.Conv.agg);repeat (first | exact .nil | apply Go.AM.PureL.c .refl | apply Go.AM.PureL.c .nl | apply Go.AM.PureL.c .sn | (apply Go.AM.PureL.hs;rfl;(first | rfl | simp);(first | rfl | (simp;done) | (simp[Go.AM.take_map];done) | exact Go.AM.take_map.symm))))))))
  (hin':dU (fun p=>st.h p.1=some p.2) hin:=by repeat (first | exact trivial | refine⟨rfl,?_⟩)) (hout':dU (fun p=>p.1∈keys hin∨st.h p.1=none) hout:=by repeat (first | exact trivial | refine⟨.inr rfl,?_⟩ | refine⟨.inl (by decide),?_⟩ | refine⟨.inl (by repeat (first | exact List.Mem.head _ | apply List.Mem.tail)),?_⟩)) (hok:callOk (args++(l.map R.c).map V.one) hin=true:=by rfl):kD P n ops draw k st pre Q:=
 k_ (g_ O Y (Step.retell s hx aVt (aAb hin hout hb y hd (gB I) (by subst q;exact aI _ _ _) J ha hin' hout' hok) (by subst q;simp[opr]))) hk
theorem kvF {x:Operand}{s:Nat}(J:aW P f (args++(([]:List R)).map V.one) hin res hout)
  (hk:kD P n ops draw (k+1) ⟨upd st.e d (some res),updL st.h (outs hout),st.d⟩ ((⟨opr x++dF xs.toList,ids++keys hin++keys hout⟩,⟨some (d,some res),outs hout⟩)::pre) Q)
  (hb:iI P f:=by exact wP (by kernel_rfl)) (O:ops[k]?=some o:=by rfl) (Y:o.guard=none:=by rfl) (y:o.op=.call { callee:=.value x,args:=xs,argTypes:=ts }:=by rfl) (hd:o.dst=some d:=by rfl) (I:Nat.blt d n=true:=by rfl) (q:x=.tmp s:=by rfl) (hx:st.e s=some (.one (.c (.fn f))):=by rfl)
  (ha:ArgsV ⟨upd st.e s (some (.one (.clo f (([]:List R))))),st.h,st.d⟩ ids xs.toList args:=by repeat (first | exact .nil | (apply Go.AM.ArgsV.cons rfl;(first | exact .refl | exact .one (.c .nl .nil) | exact .one (.c .sn .nil) | exact .one (.hs rfl (by first | rfl | simp) (by first | rfl | (simp;done) | (simp[Go.AM.take_map];done) | exact Go.AM.take_map.symm) .nil) | exact Go.AM.hs_all rfl rfl (by first | rfl | assumption | (simp;done) | (simp;omega)) (by first | rfl | assumption | (simp;done)) | ((first | apply Go.AM.Conv.pa | apply Go.AM.Conv.agg);repeat (first | exact .nil | apply Go.AM.PureL.c .refl | apply Go.AM.PureL.c .nl | apply Go.AM.PureL.c .sn | (apply Go.AM.PureL.hs;rfl;(first | rfl | simp);(first | rfl | (simp;done) | (simp[Go.AM.take_map];done) | exact Go.AM.take_map.symm))))))))
  (hin':dU (fun p=>st.h p.1=some p.2) hin:=by repeat (first | exact trivial | refine⟨rfl,?_⟩)) (hout':dU (fun p=>p.1∈keys hin∨st.h p.1=none) hout:=by repeat (first | exact trivial | refine⟨.inr rfl,?_⟩ | refine⟨.inl (by decide),?_⟩ | refine⟨.inl (by repeat (first | exact List.Mem.head _ | apply List.Mem.tail)),?_⟩)) (hok:callOk (args++(([]:List R)).map V.one) hin=true:=by rfl):kD P n ops draw k st pre Q:=
 k_ (g_ O Y (Step.retell s hx aQx (aAb hin hout hb y hd (gB I) (by subst q;exact aI _ _ _) J ha hin' hout' hok) (by subst q;simp[opr]))) hk
theorem a9h {x:Operand}{s j t:Nat}{want b:Bool}(O:aW P f (args++(([]:List R)).map V.one) hin res hout)
  (hk:kD P n ops draw (k+1) ⟨upd st.e d (some res),updL st.h (outs hout),st.d⟩ ((⟨t::(opr x++dF xs.toList),ids++keys hin++keys hout⟩,⟨some (d,some res),outs hout⟩)::pre) Q)
  (hb:iI P f:=by exact wP (by kernel_rfl)) (Y:ops[k]?=some o:=by rfl) (Z:o.guard=some (j,want):=by rfl) (hj:(ops[j]?).bind (·.dst)=some t:=by rfl) (y:st.e t=some (.one (.c (.bool b))):=by rfl) (hw:b=want:=by first | rfl | assumption) (I:o.op=.call { callee:=.value x,args:=xs,argTypes:=ts }:=by rfl) (hd:o.dst=some d:=by rfl) (J:Nat.blt d n=true:=by rfl) (q:x=.tmp s:=by rfl) (hx:st.e s=some (.one (.c (.fn f))):=by rfl)
  (ha:ArgsV ⟨upd st.e s (some (.one (.clo f (([]:List R))))),st.h,st.d⟩ ids xs.toList args:=by repeat (first | exact .nil | (apply Go.AM.ArgsV.cons rfl;(first | exact .refl | exact .one (.c .nl .nil) | exact .one (.c .sn .nil) | exact .one (.hs rfl (by first | rfl | simp) (by first | rfl | (simp;done) | (simp[Go.AM.take_map];done) | exact Go.AM.take_map.symm) .nil) | exact Go.AM.hs_all rfl rfl (by first | rfl | assumption | (simp;done) | (simp;omega)) (by first | rfl | assumption | (simp;done)) | ((first | apply Go.AM.Conv.pa | apply Go.AM.Conv.agg);repeat (first | exact .nil | apply Go.AM.PureL.c .refl | apply Go.AM.PureL.c .nl | apply Go.AM.PureL.c .sn | (apply Go.AM.PureL.hs;rfl;(first | rfl | simp);(first | rfl | (simp;done) | (simp[Go.AM.take_map];done) | exact Go.AM.take_map.symm))))))))
  (hin':dU (fun p=>st.h p.1=some p.2) hin:=by repeat (first | exact trivial | refine⟨rfl,?_⟩)) (hout':dU (fun p=>p.1∈keys hin∨st.h p.1=none) hout:=by repeat (first | exact trivial | refine⟨.inr rfl,?_⟩ | refine⟨.inl (by decide),?_⟩ | refine⟨.inl (by repeat (first | exact List.Mem.head _ | apply List.Mem.tail)),?_⟩)) (hok:callOk (args++(([]:List R)).map V.one) hin=true:=by rfl):kD P n ops draw k st pre Q:=
 k_ (GStep.yes Y Z hj y hw (Step.retell s hx aQx (aAb hin hout hb I hd (gB J) (by subst q;exact aI _ _ _) O ha hin' hout' hok) (by subst q;simp[opr]))) hk
end
theorem TIok.func {P:Program}{t:TypeId}{i:TI}(h:TIok P t i) (hk:i.k=.fn):∃ps rs v,P.underlying t=some (.func ps rs v):=by
 obtain⟨inf,d,z,h1,h2,h3,h4,h5,h6,q,y⟩:=h.ex;rw[hk] at h5;cases d<;>simp[TK.fits] at h5;exact⟨_,_,_,h2⟩
def aZ8:V→Option Bool
 | .one (.c (.zv 1))=>some true
 | .one (.c (.fn _))=>some false
 | .one (.c (.clo _ _))=>some false
 | .one (.clo _ _)=>some false
 | _=>none
theorem aQw {S:Sto}{μ:Mu}{H:dD}{v:V}{u:Value}{b:Bool}(h:aY S μ H v u) (hb:aZ8 v=some b):(b=true∧u=.nilFunc)∨(b=false∧∃f x y,u=.func f x y):=by
 unfold aZ8 at hb;split at hb
 ·cases hb;simp only[aY,b9,Rep,aYn] at h;exact .inl ⟨rfl,h⟩
 ·cases hb;simp only[aY,b9,Rep] at h;exact .inr ⟨rfl,_,_,_,h⟩
 ·cases hb;simp only[aY,b9,Rep] at h;obtain⟨vs,h,_⟩:=h;exact .inr ⟨rfl,_,_,_,h⟩
 ·cases hb;simp only[aY,b9] at h;obtain⟨vs,h,_⟩:=h;exact .inr ⟨rfl,_,_,_,h⟩
 ·cases hb
section
variable {P:Program}{n:Nat}{o:Oper}{st:St}{d:Nat}{T:TT}
theorem aN8 {t:TypeId}{ps rs:Array TypeId}{q:Bool}(hu:P.underlying t=some (.func ps rs q)) (d:Nat) (w:World):(Op.equalIn (d+1) t .nilFunc .nilFunc).run P w=.ok true w:=by
 simp only[Op.equalIn,Ad,Av hu w,τ,Af]
theorem aN7 {t:TypeId}{ps rs:Array TypeId}{q:Bool}(hu:P.underlying t=some (.func ps rs q)) (d:Nat) (f:Fn) (x y:Array Value) (w:World):(Op.equalIn (d+1) t (.func f x y) .nilFunc).run P w=.ok false w:=by
 simp only[Op.equalIn,Ad,Av hu w,τ,Af]
theorem aW6 {q ty:TypeId}{i:TI}{x y:Operand}{v:V}{b:Bool}(O:Tok P T) (I:o.op=.binOp .neq q x y ty) (hd:o.dst=some d) (J:d<n) (hi:T[q]?=some (some i)) (hk:i.k=.fn) (hx:opv st x=some v) (Y:aZ8 v=some b) (Z:opv st y=some (.one (.c (.zv 1)))):
  Step P n o st ⟨opr x++opr y,[]⟩ ⟨some (d,some (B (!b))),[]⟩:=by
 refine Step.value hd J fun _ ha _ _ _ ac w hs=>?_
 have h2:=aO hs Z (fF ha).2;simp only[aY,b9,Rep,aYn] at h2;obtain⟨ps,rs,vv,hu⟩:=(O.get hi).func hk;rcases aQw (aO hs hx (fF ha).1) Y with⟨rfl,h1⟩ | ⟨rfl,f,c1,c2,h1⟩
 ·exact⟨.bool (!true),zV I h1 h2 (gR _ _ _ _ _ _ _ rfl) rfl (aN8 hu _ _),by simp[aY,b9,Rep]⟩
 ·exact⟨.bool (!false),zV I h1 h2 (gR _ _ _ _ _ _ _ rfl) rfl (aN7 hu _ _ _ _ _),by simp[aY,b9,Rep]⟩
end
end Go.AM
namespace Go.Proofs.YtnjaiimffoninaaGreatDoor
open Go Go.AM
set_option maxRecDepth 20000
def opC (h g:FuncId):List C:=[.clo h [.pt [.fn g]],.zv 1]
theorem aV1 (g:FuncId):aW Tryz.prog 80 [.one (.c (.fn g))] [] (.pa (opC 81 g)) []:=by
 refine bZ (n:=5) tok Tryz.func80 rfl rfl rfl ?_;refine sgh [(0,.id 601)] rfl (sg rfl (AWp.sub (Sub.fvar (id:=601) (l:=[.fn g]) rfl (by simp[keys])) ?_));refine AWp.sub (Sub.varC (x:=2) (opC 81 g) rfl rfl) ?_;exact aF (rtC trw)
theorem a5i (g:FuncId):aW Tryz.prog 82 [.one (.c (.fn g))] [] (.pa (opC 83 g)) []:=by
 refine bZ (n:=5) tok Tryz.func82 rfl rfl rfl ?_;refine sgh [(0,.id 601)] rfl (sg rfl (AWp.sub (Sub.fvar (id:=601) (l:=[.fn g]) rfl (by simp[keys])) ?_));refine AWp.sub (Sub.varC (x:=2) (opC 83 g) rfl rfl) ?_;exact aF (rtC trw)
def aZt:List C:=[.clo 81 [.pt [.fn 85]],.fn 86]
def wE:List (List C):=[
 .str a6r::opC 81 87,
 .str a6o::opC 81 88,
 .str a6p::opC 81 89,
 .str a6q::aZt,
 .str nEq::opC 83 90,
 .str nLt::opC 83 91]
def a8y:C:=.mp true ([]::wE)
theorem pJ:iF wE:=trivial
theorem aPc:uniq wE:=by
 intro k cs h;simp only[wE,Ac,C1,or_false,List.cons.injEq,C.str.injEq] at h;rcases h with⟨rfl,rfl⟩ | ⟨rfl,rfl⟩ | ⟨rfl,rfl⟩ | ⟨rfl,rfl⟩ | ⟨rfl,rfl⟩ | ⟨rfl,rfl⟩<;>rfl
theorem a5g:aW Tryz.prog 36 [] [] (.one (.c a8y)) []:=by
 refine bZ (n:=20) tok Tryz.func36 rfl rfl rfl ?_;refine sg rfl (sg rfl (sg rfl (sk 1 rfl (kv (args:=[.one (.c (.fn 85))]) (caps:=[]) (aV1 _) ?_ (ha:=.cons rfl (.one (.fn .nil)) .nil)))));refine kz 2 rfl (sg rfl (a8 (aE mixed (k_ (g_ rfl rfl (aLz (d:=7) (id:=620) (agg:=true) (T:=wE) (by simp[wE]) rfl rfl (gB rfl) rfl)) ?_))));refine ak 1 [] rfl (kv (args:=[.one (.c (.fn 87))]) (caps:=[]) (aV1 _) ?_ (ha:=.cons rfl (.one (.fn .nil)) .nil));refine k_ (g_ rfl rfl (kN (id:=620) (tid:=621) (agg:=true) (Tr:=wE) tok rfl rfl (tg rfl) rfl (tg rfl) rfl rfl rfl pJ rfl rfl rfl rfl rfl .of_pure (.head _))) ?_;refine ak 1 [] rfl (kv (args:=[.one (.c (.fn 88))]) (caps:=[]) (aV1 _) ?_ (ha:=.cons rfl (.one (.fn .nil)) .nil));refine k_ (g_ rfl rfl (kN (id:=620) (tid:=622) (agg:=true) (Tr:=wE) tok rfl rfl (tg rfl) rfl (tg rfl) rfl rfl rfl pJ rfl rfl rfl rfl rfl .of_pure (.tail _ (.head _)))) ?_;refine ak 1 [] rfl (kv (args:=[.one (.c (.fn 89))]) (caps:=[]) (aV1 _) ?_ (ha:=.cons rfl (.one (.fn .nil)) .nil));refine k_ (g_ rfl rfl (kN (id:=620) (tid:=623) (agg:=true) (Tr:=wE) tok rfl rfl (tg rfl) rfl (tg rfl) rfl rfl rfl pJ rfl rfl rfl rfl rfl .of_pure (.tail _ (.tail _ (.head _))))) ?_;refine ak 1 [] rfl (k_ (g_ rfl rfl (kN (id:=620) (tid:=624) (agg:=true) (Tr:=wE) tok rfl rfl (tg rfl) rfl (tg rfl) rfl rfl rfl pJ rfl rfl rfl rfl rfl (.c .refl (.fn .nil)) (.tail _ (.tail _ (.tail _ (.head _)))))) ?_);refine ak 1 [] rfl (kv (args:=[.one (.c (.fn 90))]) (caps:=[]) (a5i _) ?_ (ha:=.cons rfl (.one (.fn .nil)) .nil));refine k_ (g_ rfl rfl (kN (id:=620) (tid:=625) (agg:=true) (Tr:=wE) tok rfl rfl (tg rfl) rfl (tg rfl) rfl rfl rfl pJ rfl rfl rfl rfl rfl .of_pure (.tail _ (.tail _ (.tail _ (.tail _ (.head _))))))) ?_;refine ak 1 [] rfl (kv (args:=[.one (.c (.fn 91))]) (caps:=[]) (a5i _) ?_ (ha:=.cons rfl (.one (.fn .nil)) .nil));refine k_ (g_ rfl rfl (kN (id:=620) (tid:=626) (agg:=true) (Tr:=wE) tok rfl rfl (tg rfl) rfl (tg rfl) rfl rfl rfl pJ rfl rfl rfl rfl rfl .of_pure (.tail _ (.tail _ (.tail _ (.tail _ (.tail _ (.head _)))))))) ?_;refine kz 2 rfl (AWp.sub (Sub.fmapU (id:=620) (agg:=true) (T:=wE) rfl (by simp[keys]) (by simp[wE]) fun k cs h=>?_) ?_)
 ·simp only[wE,Ac,C1,or_false,List.cons.injEq,C.str.injEq] at h;rcases h with⟨rfl,_⟩ | ⟨rfl,_⟩ | ⟨rfl,_⟩ | ⟨rfl,_⟩ | ⟨rfl,_⟩ | ⟨rfl,_⟩
  ·exact⟨621,rfl⟩
  ·exact⟨622,rfl⟩
  ·exact⟨623,rfl⟩
  ·exact⟨624,rfl⟩
  ·exact⟨625,rfl⟩
  ·exact⟨626,rfl⟩
 exact aF rtT
end Go.Proofs.YtnjaiimffoninaaGreatDoor
namespace Go.AM
open Go
section
variable {fn:Func}{st:St}{hin hout:List (Nat×AObj)}{res res2 res3:V}
theorem p9 {tr:Tr}{a t u:Nat}{i:TI}{id off tv:Nat}{cells:List R}{v v2:V}{ids q:List Nat}(hw:tr.wf=true) (I:fn.results.toList=[.cell a t,.tmp u]:=by rfl) (hi:tr.get t=some i:=by rfl) (ha:st.e a=some (.one (.vp id off)):=by rfl) (hh:st.h id=some (.var tv cells):=by rfl) (hb:Nat.ble (off+i.size) cells.length=true:=by rfl) (J:sG i ((cells.drop off).take i.size)=some v:=by rfl) (hu:st.e u=some v2:=by rfl)
  (hc:Conv st.h ids v res:=by first | exact .refl | exact .one (.c .nl .nil) | ((first | apply Go.AM.Conv.pa | apply Go.AM.Conv.agg);repeat (first | exact .nil | apply Go.AM.PureL.c .refl | apply Go.AM.PureL.c .nl | (apply Go.AM.PureL.hs;rfl;(first | rfl | assumption | simp);(first | rfl | exact Go.AM.take_all (by first | assumption | rfl | (simp;done)) | exact Go.AM.take_map.symm)))))
  (y:Conv st.h q v2 res2:=by exact .refl)
  (O:dU (fun p=>∃o,st.h p.1=some o∧Ole (fun i=>i) o p.2) hout:=by repeat (first | exact trivial | refine⟨⟨_,rfl,by first | exact Go.AM.Ole.arr | exact Go.AM.Ole.var rfl | exact Go.AM.Ole.varS rfl⟩,?_⟩))
  (hok:(subset (V.tup [res,res2]).refs (keys hout)&&subset (dI hout) (keys hout)&&distinct (keys hout)&&subset (keys hin) (keys hout)&&(hin.all fun p=>p.2.plain)&&(hout.all fun p=>p.2.plain))=true:=by rfl):(Exit.ret=.normal∨Exit.ret=.ret)∧Fin tr.flat fn st hin (.tup [res,res2]) hout:=
 ⟨.inr rfl,⟨[v,v2],[res,res2],by rw[I];exact .cell ha (Tr.get_ok hw hi) hh hb J (.tmp hu .nil),.cons hc (.cons y .nil),rfl⟩,O,hok⟩
theorem a6n {tr:Tr}{a t u I:Nat}{i:TI}{id off tv:Nat}{cells:List R}{v v2 v3:V}{ids q y:List Nat}(hw:tr.wf=true) (Z:fn.results.toList=[.cell a t,.tmp u,.tmp I]:=by rfl) (hi:tr.get t=some i:=by rfl) (ha:st.e a=some (.one (.vp id off)):=by rfl) (hh:st.h id=some (.var tv cells):=by rfl) (hb:Nat.ble (off+i.size) cells.length=true:=by rfl) (hv:sG i ((cells.drop off).take i.size)=some v:=by rfl) (hu:st.e u=some v2:=by rfl) (J:st.e I=some v3:=by rfl)
  (hc:Conv st.h ids v res:=by first | exact .refl | exact .one (.c .nl .nil) | ((first | apply Go.AM.Conv.pa | apply Go.AM.Conv.agg);repeat (first | exact .nil | apply Go.AM.PureL.c .refl | apply Go.AM.PureL.c .nl | (apply Go.AM.PureL.hs;rfl;(first | rfl | assumption | simp);(first | rfl | exact Go.AM.take_all (by first | assumption | rfl | (simp;done)) | exact Go.AM.take_map.symm)))))
  (O:Conv st.h q v2 res2:=by exact .refl) (Y:Conv st.h y v3 res3:=by exact .refl)
  (ho:dU (fun p=>∃o,st.h p.1=some o∧Ole (fun i=>i) o p.2) hout:=by repeat (first | exact trivial | refine⟨⟨_,rfl,by first | exact Go.AM.Ole.arr | exact Go.AM.Ole.var rfl | exact Go.AM.Ole.varS rfl⟩,?_⟩))
  (hok:(subset (V.tup [res,res2,res3]).refs (keys hout)&&subset (dI hout) (keys hout)&&distinct (keys hout)&&subset (keys hin) (keys hout)&&(hin.all fun p=>p.2.plain)&&(hout.all fun p=>p.2.plain))=true:=by rfl):(Exit.ret=.normal∨Exit.ret=.ret)∧Fin tr.flat fn st hin (.tup [res,res2,res3]) hout:=
 ⟨.inr rfl,⟨[v,v2,v3],[res,res2,res3],by rw[Z];exact .cell ha (Tr.get_ok hw hi) hh hb hv (.tmp hu (.tmp J .nil)),.cons hc (.cons O (.cons Y .nil)),rfl⟩,ho,hok⟩
end
end Go.AM
namespace Go.Proofs.YtnjaiimffoninaaGreatDoor
open Go Go.AM
set_option maxRecDepth 20000
set_option maxHeartbeats 4000000
abbrev CE:Type:=Core×Int
def l9 (p:CE):V:=.tup [.pa (aB p.1),I .i64 p.2]
def sI (sh:Bool) (p:CE) (g:Core→Core):CE:=if sh then(zC,51) else if p.2=0 then(g p.1,0) else(zC,p.2)
def aCe (c:Core) (i:Nat) (r:Core):Core:=match c with | .mk f n s t ks bs al=>.mk f n s t (ks.set i r) bs al
def lM (bs:List Bind) (b:Bind):Core:=.mk 8 0 [] zTy [b.body] bs []
theorem aY5 {α:Type}(g:α→List C) (l:List α) (i:Nat) (x:α):(l.map g).set i (g x)=(l.set i x).map g:=by
 induction l generalizing i with
 | nil=>rfl
 | cons y l q=>cases i with
  | zero=>rfl
  | succ i=>show g y::(l.map g).set i (g x)=g y::(l.set i x).map g;rw[q]
def aEi (sh:Bool) (p:CE) (c:Core) (i:Nat):Core:=if sh then c else if p.2=0 then aCe c i p.1 else c
theorem a9s (a b:Int) (hb:¬b=0):aW Tryz.prog 85 [I .i64 a,I .i64 b] [] (I .i64 (IntKind.i64.wrap (a.tdiv b))) []:=by
 have e:a13 .quo a b=some (IntKind.i64.wrap (a.tdiv b)):=by unfold a13;exact θ hb
 refine bZ (n:=8) tok Tryz.func85 rfl rfl rfl ?_;refine sg rfl (sk 2 rfl (kw (IntKind.i64.wrap (a.tdiv b)) e ?_));exact kz 1 rfl (aF rtT)
theorem a9r (b:Int):aW Tryz.prog 86 [I .i64 b] [] (B (decide (b=0))) []:=by
 refine bZ (n:=5) tok Tryz.func86 rfl rfl rfl ?_;exact sg rfl (sg rfl (aF rtT))
theorem a9q (a b:Int):aW Tryz.prog 87 [I .i64 a,I .i64 b] [] (I .i64 (IntKind.i64.wrap (a+b))) []:=by
 refine bZ (n:=8) tok Tryz.func87 rfl rfl rfl ?_;refine sg rfl (sk 2 rfl (kw (IntKind.i64.wrap (a+b)) rfl ?_));exact kz 1 rfl (aF rtT)
theorem a9p (a b:Int):aW Tryz.prog 88 [I .i64 a,I .i64 b] [] (I .i64 (IntKind.i64.wrap (a-b))) []:=by
 refine bZ (n:=8) tok Tryz.func88 rfl rfl rfl ?_;refine sg rfl (sk 2 rfl (kw (IntKind.i64.wrap (a-b)) rfl ?_));exact kz 1 rfl (aF rtT)
theorem a9o (a b:Int):aW Tryz.prog 89 [I .i64 a,I .i64 b] [] (I .i64 (IntKind.i64.wrap (a*b))) []:=by
 refine bZ (n:=8) tok Tryz.func89 rfl rfl rfl ?_;refine sg rfl (sk 2 rfl (kw (IntKind.i64.wrap (a*b)) rfl ?_));exact kz 1 rfl (aF rtT)
theorem a9n (a b:Int):aW Tryz.prog 90 [I .i64 a,I .i64 b] [] (B (decide (a=b))) []:=by
 refine bZ (n:=8) tok Tryz.func90 rfl rfl rfl ?_;exact sg rfl (sg rfl (aF rtT))
theorem a9m (a b:Int):aW Tryz.prog 91 [I .i64 a,I .i64 b] [] (B (decide (a<b))) []:=by
 refine bZ (n:=8) tok Tryz.func91 rfl rfl rfl ?_;exact sg rfl (sg rfl (aF rtT))
theorem a6u (g:FuncId) (a b r:Int) (hb:iI Tryz.prog g) (h:aW Tryz.prog g [I .i64 a,I .i64 b] [] (I .i64 r) []):aW Tryz.prog 81 ([I .i64 a,I .i64 b]++([C.pt [.fn g]].map R.c).map V.one) [] (.pa (aB (aGb r))) []:=by
 refine bZ (n:=11) tok Tryz.func81 rfl rfl rfl ?_;refine sg rfl (sk 3 rfl (kvF (args:=[I .i64 a,I .i64 b]) h ?_ hb));refine kc (a5k _) ?_;exact kz 1 rfl (aF (rtC trw))
theorem a88 (g:FuncId) (a b:Int) (r:Bool) (hb:iI Tryz.prog g) (h:aW Tryz.prog g [I .i64 a,I .i64 b] [] (B r) []):aW Tryz.prog 83 ([I .i64 a,I .i64 b]++([C.pt [.fn g]].map R.c).map V.one) [] (.pa (aB (aNm r))) []:=by
 refine bZ (n:=12) tok Tryz.func83 rfl rfl rfl ?_;refine sg rfl (a8 (sk 3 rfl (kvF (args:=[I .i64 a,I .i64 b]) h ?_ hb)));refine az ?_;cases r with
 | true=>
  refine aA rfl (fun _=>a8 (aE mixed (kc (aYa [84,114,117,101]) ?_))) nofun;exact kz 1 rfl (aF (rtC trw))
 | false=>
  refine aA rfl nofun (fun _=>aD (a8 (aE mixed (kc (aYa [70,97,108,115,101]) ?_))));exact kz 1 rfl (aF (rtC trw))
def n9 (bd:List Bind):List C:=[.sl 15 (bd.map aS),a8y]
theorem a3x (s:Str) (a b:Int):(fT s wE=none∧gP s a b=(zC,51))∨
  (∃(h g:FuncId) (r:Core),fT s wE=some (opC h g)∧gP s a b=(r,0)∧iI Tryz.prog h∧aW Tryz.prog h ([I .i64 a,I .i64 b]++([C.pt [.fn g]].map R.c).map V.one) [] (.pa (aB r)) [])∨
  (fT s wE=some aZt∧(b=0→gP s a b=(zC,53))∧(¬b=0→gP s a b=(aGb (IntKind.i64.wrap (a.tdiv b)),0))):=by
 by_cases h1:s=a6r
 ·subst h1;exact .inr (.inl ⟨_,_,_,rfl,rfl,wP (by kernel_rfl),a6u _ a b _ (wP (by kernel_rfl)) (a9q a b)⟩)
 by_cases h2:s=a6o
 ·subst h2;exact .inr (.inl ⟨_,_,_,rfl,rfl,wP (by kernel_rfl),a6u _ a b _ (wP (by kernel_rfl)) (a9p a b)⟩)
 by_cases h3:s=a6p
 ·subst h3;exact .inr (.inl ⟨_,_,_,rfl,rfl,wP (by kernel_rfl),a6u _ a b _ (wP (by kernel_rfl)) (a9o a b)⟩)
 by_cases h4:s=a6q
 ·subst h4;refine .inr (.inr ⟨rfl,fun h=>by subst h;rfl,fun h=>?_⟩);unfold gP;rw[θ (by decide),θ (by decide),θ (by decide),κ rfl,θ h]
 by_cases h5:s=nEq
 ·subst h5;exact .inr (.inl ⟨_,_,_,rfl,rfl,wP (by kernel_rfl),a88 _ a b _ (wP (by kernel_rfl)) (a9n a b)⟩)
 by_cases h6:s=nLt
 ·subst h6;exact .inr (.inl ⟨_,_,_,rfl,rfl,wP (by kernel_rfl),a88 _ a b _ (wP (by kernel_rfl)) (a9m a b)⟩)
 refine .inl ⟨?_,?_⟩
 ·unfold wE;simp only[fT];rw[θ (fun e=>h1 e.symm),θ (fun e=>h2 e.symm),θ (fun e=>h3 e.symm),θ (fun e=>h4 e.symm),θ (fun e=>h5 e.symm),θ (fun e=>h6 e.symm)]
 ·unfold gP;rw[θ h1,θ h2,θ h3,θ h4,θ h5,θ h6]
theorem a0q (bd:List Bind) (i:Int) (s:Str) (t:Ty) (a b:Core):aW Tryz.prog 100 [.pa (n9 bd),.pa (aB (.mk 10 i s t [a,b] [] []))] [] (l9 (if a.form=3∧b.form=3 then gP s a.n b.n else(zC,51))) []:=by
 have ab:=a3x s a.n b.n;obtain⟨q,y,sa,ta,ka,ba,la⟩:=a;obtain⟨J,nb,sb,tb,kb,bb,lb⟩:=b;show aW Tryz.prog 100 _ [] (l9 (if q=3∧J=3 then gP s y nb else(zC,51))) [];refine bZ (n:=59) tok Tryz.func100 rfl rfl rfl ?_;refine sg rfl (sgh [(2,.row 0 (aB (.mk q y sa ta ka ba la))),(6,.row 1 (aB (.mk J nb sb tb kb bb lb)))] rfl ?_);rcases ab with⟨O,Z⟩ | ⟨h,g,r,O,Z,ac,hc⟩ | ⟨O,hz,ad⟩
 ·have Y:gP s y nb=(zC,51):=Z;refine sk 4 rfl (k_ (g_ rfl rfl (u9 (d:=23) (ok:=true) (agg:=true) (Tr:=wE) (k:=s) (r:=none) tok rfl rfl (gB rfl) (tg rfl) rfl (tg rfl) rfl (tg rfl) rfl rfl pJ aPc rfl O)) ?_);refine kz 6 rfl ?_;by_cases h3:q=3∧J=3
  ·obtain⟨rfl,rfl⟩:=h3;rw[κ (show(3:Int)=3∧(3:Int)=3 from⟨rfl,rfl⟩),Y];exact a8 (aC (sgh [(3,.bv false),(7,.bv false),(8,.bv false),(11,.bv false)] rfl (aA rfl (fun _=>sg rfl (aF (p9 trw))) (fun hb=>absurd hb (by first | decide | simp)))))
  ·rw[θ h3];by_cases h4:q=3
   ·have h5:¬J=3:=fun e=>h3 ⟨h4,e⟩
    subst h4;have e5:(!decide (J=3))=true:=by rw[Ag h5];rfl
    exact a8 (aC (sgh [(3,.bv false),(7,.bv false),(8,.bv true),(11,.bv true)] rfl (aA rfl (fun _=>sg rfl (aF (p9 trw))) (fun hb=>absurd hb (by first | decide | simp)))))
   ·have e4:(!decide (q=3))=true:=by rw[Ag h4];rfl
    exact a8 (aC (sgh [(3,.bv true),(7,.bv true),(8,.bv true),(11,.bv true)] rfl (aA rfl (fun _=>sg rfl (aF (p9 trw))) (fun hb=>absurd hb (by first | decide | simp)))))
 ·have Y:gP s y nb=(r,0):=Z;refine sk 4 rfl (k_ (g_ rfl rfl (u9 (d:=23) (ok:=true) (agg:=true) (Tr:=wE) (k:=s) (r:=some (opC h g)) tok rfl rfl (gB rfl) (tg rfl) rfl (tg rfl) rfl (tg rfl) rfl rfl pJ aPc rfl O)) ?_);refine kz 6 rfl ?_;by_cases h3:q=3∧J=3
  ·obtain⟨rfl,rfl⟩:=h3;rw[κ (show(3:Int)=3∧(3:Int)=3 from⟨rfl,rfl⟩),Y];refine a8 (aC (sgh [(3,.bv false),(7,.bv false),(8,.bv false),(11,.bv false)] rfl (aA rfl (fun hb=>absurd hb (by simp[aA2])) (fun _=>sk 2 rfl (k_ (g_ rfl rfl (aW6 (d:=43) (b:=true) tok rfl rfl (gB rfl) (tg rfl) rfl rfl rfl rfl)) ?_)))));refine ak 8 [(3,.bv false),(9,.bv false)] rfl (az (aA rfl (fun hb=>absurd hb (by simp)) (fun _=>aD (sk 6 rfl (kvC (args:=[I .i64 y,I .i64 nb]) hc ?_ ac)))));exact kz 2 rfl (aF (p9 trw))
  ·rw[θ h3];by_cases h4:q=3
   ·have h5:¬J=3:=fun e=>h3 ⟨h4,e⟩
    subst h4;have e5:(!decide (J=3))=true:=by rw[Ag h5];rfl
    exact a8 (aC (sgh [(3,.bv false),(7,.bv false),(8,.bv true),(11,.bv true)] rfl (aA rfl (fun _=>sg rfl (aF (p9 trw))) (fun hb=>absurd hb (by first | decide | simp)))))
   ·have e4:(!decide (q=3))=true:=by rw[Ag h4];rfl
    exact a8 (aC (sgh [(3,.bv true),(7,.bv true),(8,.bv true),(11,.bv true)] rfl (aA rfl (fun _=>sg rfl (aF (p9 trw))) (fun hb=>absurd hb (by first | decide | simp)))))
 ·have hz1:nb=0→gP s y nb=(zC,53):=hz;have aa:¬nb=0→gP s y nb=(aGb (IntKind.i64.wrap (y.tdiv nb)),0):=ad;refine sk 4 rfl (k_ (g_ rfl rfl (u9 (d:=23) (ok:=true) (agg:=true) (Tr:=wE) (k:=s) (r:=some aZt) tok rfl rfl (gB rfl) (tg rfl) rfl (tg rfl) rfl (tg rfl) rfl rfl pJ aPc rfl O)) ?_);refine kz 6 rfl ?_;by_cases h3:q=3∧J=3
  ·obtain⟨rfl,rfl⟩:=h3;rw[κ (show(3:Int)=3∧(3:Int)=3 from⟨rfl,rfl⟩)];refine a8 (aC (sgh [(3,.bv false),(7,.bv false),(8,.bv false),(11,.bv false)] rfl (aA rfl (fun hb=>absurd hb (by simp[aA2])) (fun _=>sk 2 rfl (k_ (g_ rfl rfl (aW6 (d:=43) (b:=false) tok rfl rfl (gB rfl) (tg rfl) rfl rfl rfl rfl)) ?_)))));refine ak 5 [(3,.bv true)] rfl (a9h (args:=[I .i64 nb]) (a9r nb) ?_);refine ak 2 [(9,.bv true)] rfl (az ?_);by_cases h0:nb=0
   ·rw[hz1 h0];exact aA rfl (fun _=>sg rfl (aF (p9 trw))) (fun hb=>absurd h0 (π hb))
   ·rw[aa h0];refine aA rfl (fun hb=>absurd (ψ hb) h0) (fun _=>aD (sk 6 rfl (kvC (args:=[I .i64 y,I .i64 nb]) (a6u _ y nb _ (wP (by kernel_rfl)) (a9s y nb h0)) ?_)));exact kz 2 rfl (aF (p9 trw))
  ·rw[θ h3];by_cases h4:q=3
   ·have h5:¬J=3:=fun e=>h3 ⟨h4,e⟩
    subst h4;have e5:(!decide (J=3))=true:=by rw[Ag h5];rfl
    exact a8 (aC (sgh [(3,.bv false),(7,.bv false),(8,.bv true),(11,.bv true)] rfl (aA rfl (fun _=>sg rfl (aF (p9 trw))) (fun hb=>absurd hb (by first | decide | simp)))))
   ·have e4:(!decide (q=3))=true:=by rw[Ag h4];rfl
    exact a8 (aC (sgh [(3,.bv true),(7,.bv true),(8,.bv true),(11,.bv true)] rfl (aA rfl (fun _=>sg rfl (aF (p9 trw))) (fun hb=>absurd hb (by first | decide | simp)))))
mutual
def spH:Core→Core
 | .mk f n s t ks bs al=>if f=4 then a6l (.mk f n s t ks bs al) ks else .mk f n s t ks bs al
def a6l (c:Core):List Core→Core
 | []=>c
 | k::_=>spH k
end
mutual
def spA:Core→List Core
 | .mk f _ _ _ ks _ _=>if f=4 then a1v ks else []
def a1v:List Core→List Core
 | []=>[]
 | k::r=>spA k++r
end
def spV (c:Core):V:=.tup [.pa (aB (spH c)),.one (.c (.sl 10 ((spA c).map aB)))]
theorem aRi (X:Nat) (c:Core) (hq:bU (QL X) c) (Z:aQ c≤570000000000):aW Tryz.prog 92 [.pa (aB c)] [] (spV c) []:=by
 refine bZ (n:=23) tok Tryz.func92 rfl rfl rfl ?_;refine sg rfl (sg rfl (AWp.sub (Sub.own (t:=4) (id:=720) 30 10 rfl rfl) ?_));refine a8 (aC (aK (fun x:Core×List Core=>mk [(1,.one (.vp 1 0)),(2,.one (.vp 2 0)),(4,.one (.hs 720 0 x.2.length x.2.length))] [(720,.arr 30 10 (x.2.map aB) 0),(2,.var 30 dY),(1,.var 30 (bF x.1))]) (fun x=>bU (QL X) x.1∧(spH c=spH x.1∧spA c=spA x.1++x.2.reverse)∧x.2.length+aQ x.1≤570000000000) (fun x=>aQ x.1) (c,[]) ⟨hq,⟨rfl,by simp⟩,by simpa using Z⟩ sl ?_));rintro⟨c1,acc⟩ ⟨q,⟨y,I⟩,aa⟩;dsimp only at q y I aa ⊢;obtain⟨f,n,s,t,ks,bs,al⟩:=c1;have hka:(acc.map aB).length=acc.length:=φ _;have J:=aRk acc (by omega);obtain⟨_,qk,_,_⟩:=aM.1 q;refine a8 (sg rfl (aA rfl (fun hb=>?_) (fun hb=>?_)))
 ·have h4:f=4:=ψ hb;subst h4;obtain⟨⟨a,b,rfl⟩,rfl,rfl⟩:=z8 q (.inl rfl);have O:spH (.mk 4 n s t [a,b] [] [])=spH a:=by rw[spH,κ rfl,a6l]
  have Y:spA (.mk 4 n s t [a,b] [] [])=spA a++[b]:=by rw[spA,κ rfl,a1v]
  have hsz':aQ (.mk 4 n s t [a,b] [] [])=1+s.length+(aQ a+(aQ b+0))+0+0:=by rw[aQ,bM,bM,bM,c9,cK]
  have hbp:=bH b;have hl1:acc.length+1≤570000000000:=by omega
  refine aD (aC (sgh [(3,.row 1 (aB b)),(6,.all)] rfl (ag [(2,.row 0 (aB a))] rfl ⟨(a,acc++[b]),⟨qk a (by simp),⟨by rw[y,O],by rw[I,Y];simp⟩,by rw[ε];show acc.length+1+aQ a≤_;omega⟩,by dsimp only;omega,?_⟩)));exact sl
 have h4:¬f=4:=π hb;have O:spH c=.mk f n s t ks bs al:=by rw[y,spH,θ h4]
 have Y:spA c=acc.reverse:=by rw[I,spA,θ h4];rfl
 unfold spV;rw[O,Y];refine aL (sk 1 rfl (kc J ?_));refine az (sg rfl (AWp.sub (Sub.freeze (id:=720) rfl) ?_));refine AWp.sub (cv 3 (acc.reverse.map aB)) ?_;exact aF (p9 trw)
def shE (c:Core):Bool:=decide (c.form=5) || (decide (c.form=3) || decide ((spH c).form=2))
theorem aK0 (X:Nat) (c:Core) (O:bU (QL X) c) (J:aQ c≤570000000000):aW Tryz.prog 37 [.pa (aB c)] [] (B (shE c)) []:=by
 have q:=aRi X c O J;unfold spV at q;unfold shE;generalize spH c=h at q ⊢;generalize spA c=l at q;obtain⟨f,n,s,t,ks,bs,al⟩:=c;obtain⟨f1,n1,s1,t1,ks1,Y,Z⟩:=h;show aW Tryz.prog 37 _ [] (B (decide (f=5) || (decide (f=3) || decide (f1=2)))) [];refine bZ (n:=23) tok Tryz.func37 rfl rfl rfl ?_;refine sg rfl (sk 1 rfl (kc q ?_));refine kz 6 rfl ?_;by_cases h5:f=5
 ·have y:decide (f=5)=true:=Ae h5;refine sgh [(3,.bv true),(7,.bv true),(8,.bv true),(12,.bv true)] rfl ?_;rw[y];exact aF rtT
 ·have y:decide (f=5)=false:=Ag h5;rw[y];by_cases h3:f=3
  ·have I:decide (f=3)=true:=Ae h3;refine sgh [(3,.bv false),(7,.bv false),(8,.bv true),(12,.bv true)] rfl ?_;rw[I];exact aF rtT
  ·have I:decide (f=3)=false:=Ag h3;rw[I];exact sgh [(3,.bv false),(7,.bv false),(8,.bv false),(12,.bv false)] rfl (aF rtT)
end Go.Proofs.YtnjaiimffoninaaGreatDoor
namespace Go.Proofs.YtnjaiimffoninaaGreatDoor
open Go Go.AM Go.Shelf
set_option maxRecDepth 100000
def ir:Ren:=⟨fun f=>if f=129 then 177 else if f=171 then 77 else if f=243 then 132 else if f=246 then 155 else if f=283 then 171 else if f=284 then 172 else if f=285 then 173 else if f=286 then 174 else if f=317 then 176 else if f=318 then 178 else if f=319 then 179 else if f=320 then 180 else if f=337 then 181 else if f=338 then 182 else f,fun t=>if t=0 then 0 else if t=2 then 2 else if t=3 then 3 else if t=4 then 4 else if t=5 then 5 else if t=9 then 9 else if t=20 then 20 else if t=37 then 178 else if t=46 then 207 else if t=51 then 205 else if t=53 then 197 else if t=171 then 196 else if t=173 then 200 else if t=212 then 204 else if t=213 then 206 else if t=232 then 210 else if t=233 then 211 else t,fun g=>if g=17 then 0 else if g=18 then 1 else if g=19 then 2 else g⟩
theorem il:LaysM.n171 Tryz.prog ir where
 mixed:=mixed
 f129:=by kernel_rfl
 f171:=by kernel_rfl
 f243:=by kernel_rfl
 f246:=by kernel_rfl
 f283:=by kernel_rfl
 f284:=by kernel_rfl
 f285:=by kernel_rfl
 f286:=by kernel_rfl
 f317:=by kernel_rfl
 f318:=by kernel_rfl
 f319:=by kernel_rfl
 f320:=by kernel_rfl
 f337:=by kernel_rfl
 f338:=by kernel_rfl
 t0:=by kernel_rfl
 a0:=fun w=>by kernel_rfl
 z0:=fun w=>by kernel_rfl
 v0:=fun w=>by kernel_rfl
 t2:=by kernel_rfl
 a2:=fun w=>by kernel_rfl
 z2:=fun w=>by kernel_rfl
 v2:=fun w=>by kernel_rfl
 t3:=by kernel_rfl
 a3:=fun w=>by kernel_rfl
 z3:=fun w=>by kernel_rfl
 v3:=fun w=>by kernel_rfl
 t4:=by kernel_rfl
 a4:=fun w=>by kernel_rfl
 z4:=fun w=>by kernel_rfl
 v4:=fun w=>by kernel_rfl
 t5:=by kernel_rfl
 a5:=fun w=>by kernel_rfl
 z5:=fun w=>by kernel_rfl
 v5:=fun w=>by kernel_rfl
 t9:=by kernel_rfl
 a9:=fun w=>by kernel_rfl
 z9:=fun w=>by kernel_rfl
 v9:=fun w=>by kernel_rfl
 t20:=by kernel_rfl
 a20:=fun w=>by kernel_rfl
 z20:=fun w=>by kernel_rfl
 v20:=fun w=>by kernel_rfl
 t37:=by kernel_rfl
 a37:=fun w=>by kernel_rfl
 z37:=fun w=>by kernel_rfl
 v37:=fun w=>by kernel_rfl
 t46:=by kernel_rfl
 a46:=fun w=>by kernel_rfl
 z46:=fun w=>by kernel_rfl
 v46:=fun w=>by kernel_rfl
 t51:=by kernel_rfl
 a51:=fun w=>by kernel_rfl
 z51:=fun w=>by kernel_rfl
 v51:=fun w=>by kernel_rfl
 t53:=by kernel_rfl
 a53:=fun w=>by kernel_rfl
 z53:=fun w=>by kernel_rfl
 v53:=fun w=>by kernel_rfl
 t171:=by kernel_rfl
 a171:=fun w=>by kernel_rfl
 z171:=fun w=>by kernel_rfl
 v171:=fun w=>by kernel_rfl
 t173:=by kernel_rfl
 a173:=fun w=>by kernel_rfl
 z173:=fun w=>by kernel_rfl
 v173:=fun w=>by kernel_rfl
 t212:=by kernel_rfl
 a212:=fun w=>by kernel_rfl
 z212:=fun w=>by kernel_rfl
 v212:=fun w=>by kernel_rfl
 t213:=by kernel_rfl
 a213:=fun w=>by kernel_rfl
 z213:=fun w=>by kernel_rfl
 t232:=by kernel_rfl
 a232:=fun w=>by kernel_rfl
 z232:=fun w=>by kernel_rfl
 v232:=fun w=>by kernel_rfl
 t233:=by kernel_rfl
 a233:=fun w=>by kernel_rfl
 z233:=fun w=>by kernel_rfl
 v233:=fun w=>by kernel_rfl
 g17:=by kernel_rfl
 g18:=by kernel_rfl
 g19:=by kernel_rfl
 i0:=by kernel_rfl
 i2:=by kernel_rfl
 i3:=by kernel_rfl
 i4:=by kernel_rfl
 i5:=by kernel_rfl
 i9:=by kernel_rfl
 i20:=by kernel_rfl
 i37:=by kernel_rfl
 i46:=by kernel_rfl
 i51:=by kernel_rfl
 i53:=by kernel_rfl
 i171:=by kernel_rfl
 i173:=by kernel_rfl
 i212:=by kernel_rfl
 i232:=by kernel_rfl
 i233:=by kernel_rfl
 m17:=by kernel_rfl
 m18:=by kernel_rfl
 m19:=by kernel_rfl
end Go.Proofs.YtnjaiimffoninaaGreatDoor
namespace Go.AM
open Go
theorem Inv.grown {G:Ctx}{S:Sto}{μ:Mu}{H:dD}{w:World}(h:Inv G S μ H w) (k:Nat) (os:Array Obj):Inv G S μ H (Sort.grow (w.drewN k) os):=by
 have hold:∀b:Nat,b<w.heap.size→(Sort.grow (w.drewN k) os).heap[b]?=w.heap[b]?:=fun b hb=>by
  show(w.heap++os)[b]?=w.heap[b]?;exact Array.getElem?_append_left hb
 have q:w.heap.size≤(Sort.grow (w.drewN k) os).heap.size:=by
  show w.heap.size≤(w.heap++os).size;rw[Array.size_append];omega
 obtain⟨h1,h2,h3,h4,h5,h6,y,I,J⟩:=h;refine⟨⟨fun b o v e=>?_,fun b mk e=>?_⟩,fun id o e=>(h2 id o e).evolve (Evolve.refl _ _ _) rfl fun b c hm=>⟨hold b ((h2 id o e).lt hm),fun _=>rfl,rfl⟩,h3,h4,?_,h6,y,I,J⟩
 ·obtain⟨vs,t,fr,g1,g2⟩:=h1.1 b o v e;exact⟨vs,t,fr,by rw[hold b (dE g1)];exact g1,g2⟩
 ·have g:=h1.2 b mk e;obtain⟨_,g2⟩:=MK.holds_some g;rw[hold b (dE g2)];exact g
 ·obtain⟨f1,f2,f3,f4,f5,f6⟩:=h5;exact⟨f1,f2,f3,le_trans f4 q,fun b hb O=>by rw[hold b (B8 hb f4)];exact f5 b hb O,f6⟩
end Go.AM
namespace Go.Proofs.YtnjaiimffoninaaGreatDoor
open Go Go.AM
set_option maxRecDepth 20000
theorem aRs (k:Nat) (h:k<1000000000000000000):aW Tryz.prog 77 [I .i64 (k:Int)] [] (Go.AM.T (Lib.decDigits k)) []:=by
 intro S μ w vals y J;simp only [c6, aY, b9, Rep] at J;obtain ⟨v1, O, rfl, rfl, rfl⟩ := J;have q : Lib.TabIs Tryz.prog w "internal/strconv.uint64pow10" .u64 Lib.pow10Tab := by
  obtain ⟨h1, t, fr, h2⟩ := y.frame.tabAt 0 rfl;unfold Lib.TabIs World.var?;rw [show Tryz.prog.globalNamed "internal/strconv.uint64pow10" = some 0 by kernel_rfl];simp only [Cr, h2];rfl
 refine Calls.mono (Any.strconv_Itoa il (k:Int) (by omega) (by omega) w q) ?_;rintro e w' ⟨rfl,j,os,rfl⟩;refine⟨S,μ,_,rfl,y.grown j os,?_⟩;rw[Lib.itoa_nonneg];simp only[aY,b9,Rep]
end Go.Proofs.YtnjaiimffoninaaGreatDoor
namespace Go.Proofs.YtnjaiimffoninaaGreatDoor
open Go Go.AM
set_option maxRecDepth 20000
set_option maxHeartbeats 4000000
theorem lL {α:Type}{g:α→α}:∀{l:List α},(∀x∈l,g x=x)→l.map g=l
 | [],_=>rfl
 | x::l,h=>by rw[At,h x η,lL fun y q=>h y (χ _ q)]
theorem dK:a78.k=0:=by unfold Alg.k zTy;rw[tW,θ (by decide),θ (by decide),tWs];rfl
theorem dZ:tW a78 zTy r0=0:=dK
structure SR (n:Nat) (U:List Str) (s:Nat) (c:Core):Prop where
 q:bU (QL 403) c
 cw:∀E,n*3≤E→cw a78 E c r0≤3+E
 ty:∀x∈tyR c,x∈U
 tl:tlC c≤84000
 sz:60*m30 c≤210000000+s*s+120*s
section
variable {n:Nat}{U:List Str}{f i:Int}{s:Str}{t:Ty}{ks:List Core}{bs:List Bind}{al:List Alt}
theorem a1l (q:okF f 0 0 0=true) (y:¬f=7) (h5:¬f=5) (hs:s.length≤30):bU (QL 403) (.mk f i s zTy [] [] []):=by
 have hw:w30 s=30:=by unfold w30;omega
 exact aM.2 ⟨⟨q,fun h=>absurd h y,rfl,by simp,by unfold lw;rw[hw];decide,fun h=>absurd h h5,by simp,by simp⟩,by simp,by simp,by simp⟩
theorem aS1 {w:Nat}(I:okF f 0 0 0=true) (q:¬f=7) (h5:¬f=5) (hs:s.length≤30):SR n U w (.mk f i s zTy [] [] []):=by
 have hw:w30 s=30:=by unfold w30;omega
 refine⟨a1l I q h5 hs,fun E O=>aRb.2 ⟨by rw[dK];omega,by rw[dZ];omega,by simp,by simp,by simp⟩,fun y J=>?_,?_,?_⟩
 ·rcases rT.1 J with h | ⟨x,hx,_⟩ | ⟨x,hx,_⟩ | ⟨x,hx,_⟩
  ·cases h
  ·cases hx
  ·cases hx
  ·cases hx
 ·rw[tlC,aYv,aYw,aYx,θ q];omega
 ·rw[m30,gM,j9,l7,hw];omega
end
theorem l8 {α:Type}{g:α→Nat}:∀{l:List α}{x:α},x∈l→g x≤(l.map g).sum
 | y::l,x,h=>by
  rw[At,Da];rcases Ac.1 h with e | h
  ·rw[e];omega
  ·have:=l8 (g:=g) h;omega
theorem aGh {α:Type}{g:α→Nat}{K:Nat}:∀{l:List α},(∀x∈l,g x≤K)→(l.map g).sum≤l.length*K
 | [],_=>by simp
 | y::l,h=>by
  rw[At,Da,Ai,succ_mul];have:=h y η;have:=aGh (l:=l) fun x hx=>h x (χ _ hx)
  omega
theorem aTt:∀q:List (Str×Ty),31*q.length≤(q.map fun p=>1+w30 p.1).sum
 | []=>le_refl _
 | p::l=>by simp only[At,Da,Ai];have:=aTt l;have:=i6 p.1;omega
theorem a9f {s:Str}{q:List (Str×Ty)}{y:List (Str×List Str)}(h:lw s q y≤403):q.length≤12:=by
 unfold lw at h;have:=aTt q;have:=i6 s;omega
theorem a9g {s:Str}{y:List (Str×Ty)}{q:List (Str×List Str)}(h:lw s y q≤403) {p:Str×List Str}(hp:p∈q):p.2.length≤12:=by
 unfold lw at h;have h1:=l8 (g:=fun p:Str×List Str=>1+w30 p.1+(p.2.map fun v=>1+w30 v).sum) hp;have h2:=zO p.2;have:=i6 s;omega
section
variable {n:Nat}{U:List Str}
theorem aS5 {i:Int}{s:Str}{t:Ty}{ks:List Core}{bs:List Bind}{al:List Alt}(h:bU (QL 403) (.mk 8 i s t ks bs al)):(∃a,ks=[a])∧al=[]∧bs.length≤12:=by
 obtain⟨⟨h1,_,_,_,h5,_⟩,_⟩:=aM.1 h;have h6:=a9f h5;rw[φ] at h6;unfold okF at h1;rw[θ (by decide),θ (by decide),κ rfl] at h1;obtain⟨g1,g2⟩:=ψ h1;rw[φ] at g2;exact⟨B2.1 g1,Bc.1 g2,h6⟩
theorem aW0:∀l:List (Str×List Str),31*l.length≤(l.map fun p=>1+w30 p.1+(p.2.map fun v=>1+w30 v).sum).sum
 | []=>by simp
 | p::l=>by
  have h1:=aW0 l;have h2:=i6 p.1;rw[At,Da,Ai];omega
theorem aB6 {i:Int}{s:Str}{t:Ty}{ks:List Core}{bs:List Bind}{al:List Alt}(h:bU (QL 403) (.mk 9 i s t ks bs al)):(∃a,ks=[a])∧bs=[]∧al.length≤12∧∀a∈al,a.vars.length≤12:=by
 obtain⟨⟨h1,_,_,_,h5,_⟩,_⟩:=aM.1 h;unfold okF at h1;rw[θ (by decide),θ (by decide),θ (by decide),κ rfl] at h1;obtain⟨g1,g2⟩:=ψ h1;rw[φ] at g2;refine⟨B2.1 g1,Bc.1 g2,?_,fun a ha=>a9g h5 (Ah.2 ⟨a,ha,rfl⟩)⟩;unfold lw at h5;have h6:=aW0 (al.map ahd);rw[φ] at h6;have:=i6 s;omega
end
theorem a1j {n w:Nat}{U:List Str}{s:Str}{a b:Int}(h:(gP s a b).2=0):SR n U w (gP s a b).1:=by
 have hi:∀m,SR n U w (aGb m):=fun m=>aS1 (by decide) (by decide) (by decide) (by decide)
 have ht:∀c,SR n U w (aNm c):=fun c=>by cases c<;>exact aS1 (by decide) (by decide) (by decide) (by decide)
 unfold gP at h ⊢;by_cases h1:s=a6r
 ·rw[κ h1];exact hi _
 rw[θ h1] at h ⊢;by_cases h1:s=a6o
 ·rw[κ h1];exact hi _
 rw[θ h1] at h ⊢;by_cases h1:s=a6p
 ·rw[κ h1];exact hi _
 rw[θ h1] at h ⊢;by_cases h1:s=a6q
 ·rw[κ h1] at h ⊢;by_cases h0:b=0
  ·rw[κ h0] at h;cases h
  ·rw[θ h0];exact hi _
 rw[θ h1] at h ⊢;by_cases h1:s=nEq
 ·rw[κ h1];exact ht _
 rw[θ h1] at h ⊢;by_cases h1:s=nLt
 ·rw[κ h1];exact ht _
 ·rw[θ h1] at h;cases h
theorem aU8 {sh:Bool}{p:CE}{g:Core→Core}(h:(sI sh p g).2=0):sh=false∧p.2=0∧(sI sh p g).1=g p.1:=by
 unfold sI at h ⊢;cases sh with
 | true=>cases h
 | false=>
  rw[θ An] at h ⊢;by_cases h0:p.2=0
  ·rw[κ h0];exact⟨rfl,h0,rfl⟩
  ·rw[θ h0] at h;exact absurd h h0
mutual
theorem kR {X:Nat}:∀c:Core,bU (QL X) c→m30 c≤X*eO c
 | .mk f n s t ks bs al,h=>by
  obtain⟨⟨_,_,_,_,h5,_⟩,h2,h3,h4⟩:=aM.1 h;have k1:=y0 ks h2;have k2:=y1 bs h3;have q:=y2 al h4;unfold lw at h5;rw[m30,eO,mul_add,mul_add,mul_add,mul_one];omega
theorem y0 {X:Nat}:∀l:List Core,(∀x∈l,bU (QL X) x)→gM l≤X*dO l
 | [],_=>by rw[gM];exact Al _
 | c::l,h=>by
  rw[gM,dO,mul_add];have:=kR c (h c η);have:=y0 l fun x hx=>h x (χ _ hx)
  omega
theorem y1 {X:Nat}:∀l:List Bind,(∀x∈l,bU (QL X) x.body)→j9 l≤X*mF l+((l.map bhd).map fun p=>1+w30 p.1).sum
 | [],_=>by rw[j9];exact Al _
 | .mk s t c::l,h=>by
  rw[j9,mF,mul_add,At,At,Da];have:=kR c (h _ η);have:=y1 l fun x hx=>h x (χ _ hx)
  show _≤_+(1+w30 s+_);omega
theorem y2 {X:Nat}:∀l:List Alt,(∀x∈l,bU (QL X) x.body)→l7 l≤X*mG l+((l.map ahd).map fun p=>1+w30 p.1+(p.2.map fun v=>1+w30 v).sum).sum
 | [],_=>by rw[l7];exact Al _
 | .mk f n s v c::l,h=>by
  rw[l7,mG,mul_add,At,At,Da];have:=kR c (h _ η);have:=y2 l fun x hx=>h x (χ _ hx)
  show _≤_+(1+w30 s+(v.map fun v=>1+w30 v).sum+_);omega
end
theorem RowsLe.snoc {r r':List C}(h:CsLe r r'):∀l:List (List C),RowsLe (l++[r]) (l++[r'])
 | []=>.cons h .nil
 | x::l=>.cons (CsLe.refl x) (RowsLe.snoc h l)
def aU9 {α:Type}(p:α→Bool):List α→Nat→Int
 | [],_=> -1
 | x::l,i=>if p x=true then(i:Int) else aU9 p l (i+1)
theorem aEl {α:Type}(p:α→Bool):∀(l:List α) (i:Nat),(∃(k:Nat) (x:α),aU9 p l i=((i+k:Nat):Int)∧l[k]?=some x∧l.find? p=some x)∨(aU9 p l i= -1∧l.find? p=none)
 | [],i=>.inr ⟨rfl,rfl⟩
 | x::l,i=>by
  rw[aU9,List.find?_cons];cases h:p x with
  | true=>rw[κ rfl];exact .inl ⟨0,x,rfl,rfl,rfl⟩
  | false=>
   rw[θ An];rcases aEl p l (i+1) with⟨k,y,h1,h2,h3⟩ | h
   ·exact .inl ⟨k+1,y,by rw[h1];congr 1;omega,h2,h3⟩
   ·exact .inr h
section
variable {n:Nat}{U:List Str}
end
end Go.Proofs.YtnjaiimffoninaaGreatDoor
