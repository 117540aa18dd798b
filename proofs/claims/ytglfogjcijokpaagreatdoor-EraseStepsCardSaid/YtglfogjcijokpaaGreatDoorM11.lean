/-
  Texts Ly6 to Lm1 in one.
-/
import Derived.Test.YtglfogjcijokpaaGreatDoorM10
open List (append_assoc append_nil drop_left flatMap_append flatMap_cons flatMap_nil foldl_append length_append length_cons length_drop length_eq_zero_iff length_map length_nil length_range length_set length_take length_zip map_append map_congr_left map_cons map_map map_nil map_set mem_append mem_cons mem_cons_of_mem mem_cons_self mem_filter mem_flatMap mem_map mem_of_mem_drop mem_of_mem_take mem_range mem_singleton nil_append nodup_range not_mem_nil of_mem_zip sum_cons sum_nil take_add_one take_left take_length take_of_length_le take_succ_cons take_zero)
open Nat (add_assoc add_mul le_mul_of_pos_right le_refl le_trans lt_of_le_of_lt lt_of_lt_of_le mul_le_mul_right zero_le)
namespace Go.Proofs.YtglfogjcijokpaaGreatDoor
open Go Go.AM
set_option maxRecDepth 20000
set_option maxHeartbeats 4000000
theorem y6 {G:List Str}{x:Str}:∀{l o:List Str},x∈pfP G o l→x∈o∨(x∈l∧¬x∈G)
 | [],o,h=>.inl h
 | y::l,o,h=>by
  rcases y6 (l:=l) (o:=pfG G o y) h with h | ⟨h,q⟩
  ·unfold pfG at h;split at h
   ·exact .inl h
   ·rename_i I;rcases yL.1 h with h | h
    ·exact .inl h
    ·exact .inr ⟨by rw[h];exact φ,by rw[h];exact I⟩
  ·exact .inr ⟨η _ h,q⟩
theorem aG7 {G:List Str}{x:Str}:∀{l:List Core}{o:List Str},x∈lU G l o→x∈o∨∃c∈l,x∈pfR c∧¬x∈G
 | [],o,h=>by rw[lU] at h;exact .inl h
 | c::l,o,h=>by
  rw[lU] at h;rcases aG7 h with h | ⟨d,hd,h⟩
  ·rcases y6 h with h | h
   ·exact .inl h
   ·exact .inr ⟨c,φ,h⟩
  ·exact .inr ⟨d,η _ hd,h⟩
theorem aG8 {G:List Str}{x:Str}:∀{l:List Bind}{o:List Str},x∈oE G l o→x∈o∨∃c∈l,x∈pfR c.body∧¬x∈G
 | [],o,h=>by rw[oE] at h;exact .inl h
 | .mk s t c::l,o,h=>by
  rw[oE] at h;rcases aG8 h with h | ⟨d,hd,h⟩
  ·rcases y6 h with h | h
   ·exact .inl h
   ·exact .inr ⟨.mk s t c,φ,h⟩
  ·exact .inr ⟨d,η _ hd,h⟩
theorem aG9 {x:Str}:∀{l:List Alt}{o:List Str},x∈oP l o→x∈o∨∃a∈l,x∈pfR a.body∧¬x∈a.vars
 | [],o,h=>by rw[oP] at h;exact .inl h
 | .mk f n s v c::l,o,h=>by
  rw[oP] at h;rcases aG9 h with h | ⟨d,hd,h⟩
  ·rcases y6 h with h | h
   ·exact .inl h
   ·exact .inr ⟨.mk f n s v c,φ,h⟩
  ·exact .inr ⟨d,η _ hd,h⟩
section
variable {f n:Int}{nm:Str}{t:Ty}{ks:List Core}{bs:List Bind}{al:List Alt}{x:Str}
theorem dC (hf:f≠1):x∈pfR (.mk f n nm t ks bs al)↔(∃p∈ks++bs.map Bind.body,x∈pfR p∧¬x∈gvN f nm bs)∨∃a∈al,x∈pfR a.body∧¬x∈a.vars:=by
 constructor
 ·intro h;rw[pfR,ψ hf] at h;rcases aG9 h with h | h
  ·rcases aG8 h with h | ⟨b,hb,h⟩
   ·rcases aG7 h with h | ⟨c,hc,h⟩
    ·cases h
    ·exact .inl ⟨c,χ.2 (.inl hc),h⟩
   ·exact .inl ⟨b.body,χ.2 (.inr (Ad.2 ⟨b,hb,rfl⟩)),h⟩
  ·exact .inr h
 ·rintro(⟨p,hp,h1,h2⟩ | ⟨a,ha,h1,h2⟩)
  ·rw[pfR,ψ hf];refine yB ?_;rcases χ.1 hp with hp | hp
   ·exact y9 (y7 hp h1 h2)
   ·obtain⟨b,hb,rfl⟩:=Ad.1 hp;exact y8 hb h1 h2
  ·rw[pfR,ψ hf];exact yA ha h1 h2
end
mutual
def mS (σ:Str→Nat):Core→Nat
 | .mk f _ s _ ks bs al=>(if f=1 then σ s else 1+w30 s)+mSs σ ks+mSb σ bs+mSa σ al
def mSs (σ:Str→Nat):List Core→Nat
 | []=>0
 | c::l=>mS σ c+mSs σ l
def mSb (σ:Str→Nat):List Bind→Nat
 | []=>0
 | .mk s _ c::l=>1+w30 s+mS σ c+mSb σ l
def mSa (σ:Str→Nat):List Alt→Nat
 | []=>0
 | .mk _ _ s vs c::l=>1+w30 s+(vs.map fun v=>1+w30 v).sum+mS σ c+mSa σ l
end
mutual
theorem aBo {σ:Str→Nat}(h:∀s,1+w30 s≤σ s):∀c:Core,m30 c≤mS σ c
 | .mk f n s t ks bs al=>by
  rw[m30,mS];have:=aN2 h ks;have:=aN3 h bs;have:=aN4 h al;have:=h s;split<;>omega
theorem aN2 {σ:Str→Nat}(h:∀s,1+w30 s≤σ s):∀l:List Core,bV l≤mSs σ l
 | []=>le_refl _
 | c::l=>by rw[bV,mSs];have:=aBo h c;have:=aN2 h l;omega
theorem aN3 {σ:Str→Nat}(h:∀s,1+w30 s≤σ s):∀l:List Bind,eU l≤mSb σ l
 | []=>le_refl _
 | .mk s t c::l=>by rw[eU,mSb];have:=aBo h c;have:=aN3 h l;omega
theorem aN4 {σ:Str→Nat}(h:∀s,1+w30 s≤σ s):∀l:List Alt,fQ l≤mSa σ l
 | []=>le_refl _
 | .mk f n s v c::l=>by rw[fQ,mSa];have:=aBo h c;have:=aN4 h l;omega
end
mutual
theorem a4t {σ:Str→Nat}{B:Nat}(q:1≤B) (h:∀s,σ s≤(1+w30 s)*B):∀c:Core,mS σ c≤m30 c*B
 | .mk f n s t ks bs al=>by
  rw[m30,mS,Av,Av,Av];have:=a19 q h ks;have:=a2b q h bs;have:=a2c q h al;have:=h s;have:1+w30 s≤(1+w30 s)*B:=Ay _ q;split<;>omega
theorem a19 {σ:Str→Nat}{B:Nat}(q:1≤B) (h:∀s,σ s≤(1+w30 s)*B):∀l:List Core,mSs σ l≤bV l*B
 | []=>by rw[mSs];exact Ak _
 | c::l=>by rw[bV,mSs,Av];have:=a4t q h c;have:=a19 q h l;omega
theorem a2b {σ:Str→Nat}{B:Nat}(q:1≤B) (h:∀s,σ s≤(1+w30 s)*B):∀l:List Bind,mSb σ l≤eU l*B
 | []=>by rw[mSb];exact Ak _
 | .mk s t c::l=>by
  rw[eU,mSb,Av,Av];have:=a4t q h c;have:=a2b q h l;have:1+w30 s≤(1+w30 s)*B:=Ay _ q;omega
theorem a2c {σ:Str→Nat}{B:Nat}(q:1≤B) (h:∀s,σ s≤(1+w30 s)*B):∀l:List Alt,mSa σ l≤fQ l*B
 | []=>by rw[mSa];exact Ak _
 | .mk f n s v c::l=>by
  rw[fQ,mSa,Av,Av];have:=a4t q h c;have:=a2c q h l;have:1+w30 s+(v.map fun v=>1+w30 v).sum≤(1+w30 s+(v.map fun v=>1+w30 v).sum)*B:=Ay _ q;omega
end
structure Sg (σ:Str→Nat):Prop where
 ge:∀s,1+w30 s≤σ s
 fr:∀l,(b6 l).length≤30→σ (b6 l)≤31
section
variable {σ:Str→Nat}
theorem a2d {z:Str}:mS σ (vC z)=σ z:=by unfold vC;rw[mS,ξ rfl,mSs,mSb,mSa];rfl
theorem aNz {g:Core→Core}:∀{l:List Core},(∀x∈l,mS σ (g x)≤mS σ x)→mSs σ (l.map g)≤mSs σ l
 | [],_=>le_refl _
 | c::l,h=>by
  rw[Al,mSs,mSs];have:=h c φ;have:=aNz (l:=l) fun x hx=>h x (η _ hx)
  omega
theorem aN0 {ts:Ty→Ty}{g:Core→Core}:∀{l:List Bind},(∀x∈l,mS σ (g x.body)≤mS σ x.body)→mSb σ (l.map fun b=>.mk b.name (ts b.ty) (g b.body))≤mSb σ l
 | [],_=>le_refl _
 | .mk s t c::l,h=>by
  rw[Al,mSb,mSb];have h1:=h _ φ;have h2:=aN0 (ts:=ts) (l:=l) fun x hx=>h x (η _ hx)
  simp only[Bind.body,Bind.name] at h1 h2 ⊢;omega
theorem aN1 {g:Core→Core}:∀{l:List Alt},(∀x∈l,mS σ (g x.body)≤mS σ x.body)→mSa σ (l.map fun a=>.mk a.form a.n a.name a.vars (g a.body))≤mSa σ l
 | [],_=>le_refl _
 | .mk f n s vs c::l,h=>by
  rw[Al,mSa,mSa];have h1:=h _ φ;have h2:=aN1 (l:=l) fun x hx=>h x (η _ hx)
  simp only[Alt.body,Alt.name,Alt.vars] at h1 h2 ⊢;omega
theorem aVi {ts:Ty→Ty}{sb:Core→Core}{f n:Int}{nm nm1:Str}{t:Ty}{ks ks1:List Core}{bs:List Bind}{al:List Alt}(q:f=1→nm1=nm) (hn:w30 nm1≤w30 nm) (hk:mSs σ ks1≤mSs σ ks)
  (h1:∀x∈ks1,mS σ (sb x)≤mS σ x) (h2:∀b∈bs,mS σ (sb b.body)≤mS σ b.body) (h3:∀a∈al,mS σ (sb a.body)≤mS σ a.body):
  mS σ (gH ts sb (.mk f n nm1 t ks1 bs al))≤mS σ (.mk f n nm t ks bs al):=by
 rw[gH,mS,mS];have:=aNz h1;have:=aN0 (ts:=ts) h2;have:=aN1 h3;by_cases e:f=1
 ·rw[ξ e,ξ e,q e];omega
 ·rw[ψ e,ψ e];omega
end
theorem kS:∀(k:Nat) (c:Core) (name:Str) (u:Ty),skT (sTR k c name u)=skT c
 | 0,c,_,_=>rfl
 | k+1,.mk f n nm t ks bs al,name,u=>by
  rw[sTR];split
  ·rfl
  ·split
   ·rename_i h;refine aLq (fun q=>absurd h.1 q) ?_ (fun x _=>kS k x name u) (fun b _=>kS k b.body name u) (fun a _=>kS k a.body name u);rw[Az];exact Aw fun x _=>kS k x nm _
   ·exact aLq (fun _=>rfl) rfl (fun x _=>kS k x name u) (fun b _=>kS k b.body name u) (fun a _=>kS k a.body name u)
theorem a1y (k:Nat) (c:Core) (name:Str) (u:Ty):pfR (sTR k c name u)=pfR c:=by rw[←aMp,kS,aMp]
theorem aQu (O:cE 540000000000) {D M X:Nat}(J:M+D≤700000) {kid:Core}(g1:CG D M X kid) (g2:(tyR kid).length+2*tlC kid+1≤M) (k:Nat) (hk:m30 kid≤k) (nm z:Str):CG D M X (sTR k kid nm (vT z)):=by
 have I:=aE3 O J k kid hk g1 nm (vT z) (UOk.var z);refine⟨I.q,?_,?_,le_trans I.sz g1.sz⟩
 ·have:=I.cw kQ 0 r0;have e:tW kQ (vT z) r0=0:=rfl;rw[e,aLu] at this;exact le_trans this g1.dep
 ·have h1:=dS (a:=z::tyR kid) (c:=sTR k kid nm (vT z)) fun x hx=>by
   rcases I.ty x hx with h | h
   ·exact η _ h
   ·rw[aAk] at h;rw[κ.1 h];exact φ
  rw[Am] at h1;have h2:=I.tl;omega
theorem a2e (W:cE 540000000000) {D M X:Nat}(I:M+D≤700000) {σ:Str→Nat}:∀(k:Nat) (c:Core),m30 c≤k→CG D M X c→∀(name:Str) (u:Ty),UOk u→mS σ (sTR k c name u)≤mS σ c:=by
 intro k
 induction k with
 | zero=>intro c h;have:=dB c;omega
 | succ k J=>
 intro c h hc name u hu;obtain⟨f,n,nm,t,ks,bs,al⟩:=c;rw[sTR];split
 ·exact le_refl _
 ·split
  ·rename_i h7;obtain⟨rfl,hnf⟩:=h7;obtain⟨⟨kid,rfl⟩,rfl,rfl⟩:=dG hc.q (.inr (.inr rfl));obtain⟨g1,g2,g3⟩:=hc.kid (x:=kid) φ;rw[ξ rfl] at g2;obtain⟨_,hktl⟩:=g1.types I;have hfl:=oY u;have hufv:=hu.fv;have Y:[kid].flatMap tyR=tyR kid:=by simp
   rw[Y,Al,Bj];have O:(b6 (tfR u++tyR kid)).length≤30:=o9 _ (by rw[Ab];omega);have h1:=J kid (by omega) g1 nm (vT (b6 (tfR u++tyR kid))) (UOk.var _);have Z:=aQu W I g1 g2 k (by omega) nm (b6 (tfR u++tyR kid));have hS1:=(aE3 W I k kid (by omega) g1 nm (vT (b6 (tfR u++tyR kid))) (UOk.var _)).sz;have h2:=J _ (by omega) Z name u hu;refine aVi (fun e=>absurd e (by decide)) (aI3 O) (by rw[mSs,mSs,mSs,mSs];omega) (fun x hx=>?_) (fun b hb=>by cases hb) (fun a ha=>by cases ha);rw[κ.1 hx];exact h2
  ·exact aVi (fun _=>rfl) (le_refl _) (le_refl _) (fun x hx=>J x (by have:=(hc.kid hx).2.2;omega) (hc.kid hx).1 name u hu) (fun x hx=>J x.body (by have:=(hc.bind hx).2;omega) (hc.bind hx).1 name u hu) (fun x hx=>J x.body (by have:=(hc.alt hx).2;omega) (hc.alt hx).1 name u hu)
def Fr (z:Str):Prop:=∃l,z=b6 l
section
variable {sb:Core→Str→Core→Core}{P:Core→Prop}
theorem yU {far:List Str}:∀{ns:List Str}{st:List Str×List Core×List Str},(∀x∈st.1,x∈(jO sb far ns st).1)∧∀n∈ns,n∈(jO sb far ns st).1∨n∈far
 | [],st=>⟨fun _ h=>h,fun n hn=>by cases hn⟩
 | n::ns,st=>by
  obtain⟨h1,h2⟩:=yU (far:=far) (ns:=ns) (st:=dU sb far st n);have e:jO sb far (n::ns) st=jO sb far ns (dU sb far st n):=rfl;rw[e];refine⟨fun x hx=>h1 x ?_,fun m hm=>?_⟩
  ·unfold dU;split<;>exact χ.2 (.inl hx)
  ·rcases Ah.1 hm with rfl | hm
   ·by_cases hf:m∈far
    ·exact .inr hf
    ·refine .inl (h1 m ?_);unfold dU;rw[ψ hf];exact χ.2 (.inr (κ.2 rfl))
   ·exact h2 m hm
structure RN (p:Core) (out:List Str) (q:Core):Prop where
 pf:∀x∈pfR q,x∈pfR p∨x∈out
 ms:∀σ,Sg σ→mS σ q≤mS σ p
theorem aEq {far:List Str}(O:∀p n z,P p→Fr z→z.length≤30→P (sb p n (vC z))∧(∀x∈pfR (sb p n (vC z)),x∈pfR p∨x=z)∧∀σ,Sg σ→mS σ (sb p n (vC z))≤mS σ p):
  ∀{ns:List Str} {st:List Str×List Core×List Str},st.2.2.length+ns.length≤540000000000→(∀p∈st.2.1,P p)→A2 (fun p q=>P q∧RN p (jO sb far ns st).1 q) st.2.1 (jO sb far ns st).2.1
 | [],st,_,I=>by
  show A2 (fun p q=>P q∧RN p st.1 q) st.2.1 st.2.1;have key:∀l:List Core,(∀p∈l,P p)→A2 (fun p q=>P q∧RN p st.1 q) l l:=by
   intro l
   induction l with
   | nil=>intro _;exact .nil
   | cons p l ih=>intro h;exact .cons ⟨h p φ,fun x hx=>.inl hx,fun _ _=>le_refl _⟩ (ih fun q J=>h q (η _ J))
  exact key _ I
 | n::ns,st,hl,I=>by
  simp only[Am] at hl;have Y:=oW (sb:=sb) (far:=far) (st:=st) (n:=n);have e:jO sb far (n::ns) st=jO sb far ns (dU sb far st n):=rfl;rw[e];have hf:(b6 st.2.2).length≤30:=o9 _ (by omega);by_cases hn:n∈far
  ·have es:dU sb far st n=(st.1++[b6 st.2.2],st.2.1.map (fun p=>sb p n (vC (b6 st.2.2))),st.2.2++[b6 st.2.2]):=by unfold dU;rw[ξ hn]
   rw[es] at Y ⊢;have Z:∀p∈st.2.1.map (fun p=>sb p n (vC (b6 st.2.2))),P p:=fun p hp=>by
    obtain⟨q,J,rfl⟩:=Ad.1 hp;exact(O q n _ (I q J) ⟨_,rfl⟩ hf).1
   have W:=aEq O (far:=far) (ns:=ns) (st:=(st.1++[b6 st.2.2],st.2.1.map (fun p=>sb p n (vC (b6 st.2.2))),st.2.2++[b6 st.2.2])) (by omega) Z;have hout:=(yU (sb:=sb) (far:=far) (ns:=ns) (st:=(st.1++[b6 st.2.2],st.2.1.map (fun p=>sb p n (vC (b6 st.2.2))),st.2.2++[b6 st.2.2]))).1 (b6 st.2.2) (χ.2 (.inr (κ.2 rfl)))
   generalize jO sb far ns (st.1++[b6 st.2.2],st.2.1.map (fun p=>sb p n (vC (b6 st.2.2))),st.2.2++[b6 st.2.2])=r at W hout ⊢;dsimp only at W;have key:∀(l:List Core) (m:List Core),(∀p∈l,P p)→A2 (fun p q=>P q∧RN p r.1 q) (l.map (fun p=>sb p n (vC (b6 st.2.2)))) m→A2 (fun p q=>P q∧RN p r.1 q) l m:=by
    intro l
    induction l with
    | nil=>intro m _ h;cases h;exact .nil
    | cons p l aa=>
     intro m hp h;cases h with
     | cons h1 h2=>
      obtain⟨_,z2,z3⟩:=O p n _ (hp p φ) ⟨_,rfl⟩ hf;refine .cons ⟨h1.1,fun x hx=>?_,fun σ hσ=>le_trans (h1.2.ms σ hσ) (z3 σ hσ)⟩ (aa _ (fun q J=>hp q (η _ J)) h2);rcases h1.2.pf x hx with h | h
      ·rcases z2 x h with h | h
       ·exact .inl h
       ·exact .inr (by rw[h];exact hout)
      ·exact .inr h
   exact key _ _ I W
  ·have es:dU sb far st n=(st.1++[n],st.2.1,st.2.2):=by unfold dU;rw[ψ hn]
   rw[es] at Y ⊢;exact aEq O (far:=far) (ns:=ns) (st:=(st.1++[n],st.2.1,st.2.2)) (by omega) I
structure RB (s:Str) (b:Core) (ns out:List Str) (p q:Core):Prop where
 pf:∀x∈pfR q,¬x∈out→(x∈pfR p∧¬x=s∧¬x∈ns)∨x∈pfR b
 ms:∀σ,Sg σ→mS σ b≤σ s→mS σ q≤mS σ p
theorem y1 {s:Str}{b:Core}{ns:List Str}{ps:List Core}(hP:∀p∈ps,P p)
  (hz:∀p n z,P p→Fr z→z.length≤30→P (sb p n (vC z))∧(∀x∈pfR (sb p n (vC z)),x∈pfR p∨x=z)∧∀σ,Sg σ→mS σ (sb p n (vC z))≤mS σ p)
  (hs:∀p,P p→(∀x∈pfR (sb p s b),(x∈pfR p∧¬x=s)∨x∈pfR b)∧∀σ,Sg σ→mS σ b≤σ s→mS σ (sb p s b)≤mS σ p)
  (hl:(ps.flatMap pfR).length+2*ns.length+(pfR b).length≤540000000000):A2 (RB s b ns (cO sb s b ns ps).1) ps (cO sb s b ns ps).2:=by
 unfold cO;split
 ·rename_i hin;have W:=aEq hz (far:=pfR b) (ns:=ns) (st:=([],ps,ps.flatMap pfR++ns++pfR b)) (by simp only[Ab];omega) hP;have Z:=(yU (sb:=sb) (far:=pfR b) (ns:=ns) (st:=([],ps,ps.flatMap pfR++ns++pfR b))).2
  generalize jO sb (pfR b) ns ([],ps,ps.flatMap pfR++ns++pfR b)=r at W Z ⊢;dsimp only at W ⊢;have key:∀(l m:List Core),A2 (fun p q=>P q∧RN p r.1 q) l m→A2 (RB s b ns r.1) l (m.map fun p=>sb p s b):=by
   intro l m h
   induction h with
   | nil=>exact .nil
   | cons h1 _ J=>
    refine .cons ⟨fun x hx I=>?_,fun σ hσ hb=>le_trans ((hs _ h1.1).2 σ hσ hb) (h1.2.ms σ hσ)⟩ J;rcases(hs _ h1.1).1 x hx with⟨h,aa⟩ | h
    ·rcases h1.2.pf x h with h | h
     ·by_cases O:x∈ns
      ·rcases Z x O with Y | Y
       ·exact absurd Y I
       ·exact .inr Y
      ·exact .inl ⟨h,aa,O⟩
     ·exact absurd h I
    ·exact .inr h
  exact key _ _ W
 ·rename_i hin;have key:∀l:List Core,(∀p∈l,p∈ps)→A2 (RB s b ns ns) l l:=by
   intro l
   induction l with
   | nil=>intro _;exact .nil
   | cons p l J=>
    intro h;refine .cons ⟨fun x hx I=>.inl ⟨hx,fun e=>hin ⟨Bw.2 ⟨p,h p φ,by rw[←e];exact hx⟩,by rw[←e];exact I⟩,I⟩,fun _ _ _=>le_refl _⟩ (J fun q hq=>h q (η _ hq))
  exact key ps fun p hp=>hp
end
section
variable {σ:Str→Nat}
theorem a2a {l m:List Core}(h:A2 (fun p q=>mS σ q≤mS σ p) l m):mSs σ m≤mSs σ l:=by
 induction h with
 | nil=>exact le_refl _
 | cons r _ I=>rw[mSs,mSs];omega
theorem aVe:∀{ts:List Ty}{ns:List Str}{ps:List Core}{bs:List Bind},A2 (fun(b:Bind) n=>w30 n≤w30 b.name) bs ns→A2 (fun(b:Bind) p=>mS σ p≤mS σ b.body) bs ps→mSb σ (mkB ts ns ps)≤mSb σ bs
 | [],_,_,_,_,_=>by unfold mkB;rw[mSb];exact Ak _
 | t::ts,_,_,_,.nil,.nil=>by unfold mkB;rw[mSb];exact le_refl _
 | t::ts,n::ns,p::ps,.mk s ty c::bs,.cons h1 h2,.cons h3 h4=>by
  unfold mkB;rw[mSb,mSb];have:=aVe (ts:=ts) h2 h4;have h1:w30 n≤w30 s:=h1;have h3:mS σ p≤mS σ c:=h3;omega
end
structure PL (c:Core) (s:Str) (b r:Core):Prop where
 pf:∀x∈pfR r,(x∈pfR c∧¬x=s)∨x∈pfR b
 ms:∀σ,Sg σ→mS σ b≤σ s→mS σ r≤mS σ c
section
variable {sb:Core→Str→Core→Core}{X:Nat}{s:Str}{b:Core}{f n:Int}{nm:Str}{t:Ty}{ks:List Core}{bs:List Bind}{al:List Alt}
theorem aP6 (J:f≠1) (hq:bE (QL X) (.mk f n nm t ks bs al)) (hn:A2 NR (gvN f nm bs) (cO sb s b (gvN f nm bs) (ks++bs.map Bind.body)).1)
  (hg:A2 (RB s b (gvN f nm bs) (cO sb s b (gvN f nm bs) (ks++bs.map Bind.body)).1) (ks++bs.map Bind.body) (cO sb s b (gvN f nm bs) (ks++bs.map Bind.body)).2)
  (ha:∀a∈al,A2 NR a.vars (cO sb s b a.vars [a.body]).1∧A2 (RB s b a.vars (cO sb s b a.vars [a.body]).1) [a.body] (cO sb s b a.vars [a.body]).2):PL (.mk f n nm t ks bs al) s b (nE sb s b (.mk f n nm t ks bs al)):=by
 have hA:∀a∈al,RB s b a.vars (jM sb s b a).vars a.body (jM sb s b a).body∧A2 NR a.vars (jM sb s b a).vars:=fun a Y=>by
  obtain⟨g2,g1⟩:=ha a Y;refine⟨?_,g2⟩;show RB s b a.vars (cO sb s b a.vars [a.body]).1 a.body ((cO sb s b a.vars [a.body]).2.headD a.body);cases hx:(cO sb s b a.vars [a.body]).2 with
  | nil=>rw[hx] at g1;cases g1
  | cons y l'=>
   rw[hx] at g1;cases g1 with
   | cons h _=>exact h
 have Z:f=5→bs=[]:=fun h5=>(dG hq (.inl h5)).2.1
 rw[nE];unfold zNm zKs zBs;generalize cO sb s b (gvN f nm bs) (ks++bs.map Bind.body)=r at hg hn ⊢;obtain⟨O,r2⟩:=r;dsimp only at *;have hK:=hg.take ks.length;rw[take_left] at hK;have hB:=hg.drop ks.length;rw[drop_left] at hB;have hBl:(r2.drop ks.length).length=bs.length:=by rw[hB.length,ζ]
 have I:=hn.length;have hgv:gvN f (if f=5 then O.headD nm else nm) (mkB (bs.map Bind.ty) O (r2.drop ks.length))=O:=by
  by_cases h5:f=5
  ·have:=Z h5;subst this;unfold gvN at hn I ⊢;rw[ξ h5] at hn I;rw[ξ h5,ξ h5]
   match O,I with
   | [y],_=>show [y]++(mkB [] [y] _).map Bind.name=[y];unfold mkB;rfl
  ·unfold gvN at I ⊢;rw[ψ h5,A4] at I;rw[ζ] at I;rw[ψ h5,A4,mF (by rw[ζ];exact I) (by rw[ζ];exact hBl)]
 refine⟨fun x hx=>?_,fun σ hσ hb=>?_⟩
 ·rcases(dC J).1 hx with⟨q,hq',h1,h2⟩ | ⟨a,Y,h1,h2⟩
  ·rw[hgv] at h2;have hqm:q∈r2:=by
    rcases χ.1 hq' with h | h
    ·exact Br h
    ·obtain⟨y,hy,rfl⟩:=Ad.1 h;exact Cl (kY hy).1
   obtain⟨p,hp,hr⟩:=hg.mem q hqm;rcases hr.pf x h1 h2 with⟨g1,g2,g3⟩ | h
   ·exact .inl ⟨(dC J).2 (.inl ⟨p,hp,g1,g3⟩),g2⟩
   ·exact .inr h
  ·obtain⟨a0,ha0,rfl⟩:=Ad.1 Y;rcases(hA a0 ha0).1.pf x h1 h2 with⟨g1,g2,g3⟩ | h
   ·exact .inl ⟨(dC J).2 (.inr ⟨a0,ha0,g1,g3⟩),g2⟩
   ·exact .inr h
 ·rw[mS,mS,ψ J,ψ J];have e1:w30 (if f=5 then O.headD nm else nm)≤w30 nm:=by
   split
   ·rename_i hf;unfold gvN at hn;rw[ξ hf] at hn;cases hn with
    | cons h _=>exact h.w
   ·exact le_refl _
  have e2:mSs σ (r2.take ks.length)≤mSs σ ks:=a2a (A2.mono (fun p q h=>h.ms σ hσ hb) hK);have e3:mSb σ (mkB (bs.map Bind.ty) O (r2.drop ks.length))≤mSb σ bs:=by
   by_cases hf:f=5
   ·have:=Z hf;subst this;show mSb σ (mkB [] _ _)≤_;unfold mkB;rw[mSb];exact Ak _
   ·have h4:=hn;unfold gvN at h4;rw[ψ hf,A4] at h4;exact aVe (A2.mapL (A2.mono (fun a b h=>h.w) h4)) (A2.mapL (A2.mono (fun p q h=>h.ms σ hσ hb) hB))
  have e4:mSa σ (al.map (jM sb s b))≤mSa σ al:=by
   clear ha hq
   induction al with
   | nil=>exact le_refl _
   | cons a l ihl=>
    obtain⟨af,an,anm,vs,W⟩:=a;obtain⟨g1,g2⟩:=hA _ φ;have:=ihl fun x hx=>hA x (η _ hx)
    have g3:=g1.ms σ hσ hb;have g4:=aAn g2;have e:jM sb s b (Alt.mk af an anm vs W)=.mk af an anm (jM sb s b (Alt.mk af an anm vs W)).vars (jM sb s b (Alt.mk af an anm vs W)).body:=rfl;have g3:mS σ (jM sb s b (Alt.mk af an anm vs W)).body≤mS σ W:=g3;have g4:((jM sb s b (Alt.mk af an anm vs W)).vars.map fun v=>1+w30 v).sum≤(vs.map fun v=>1+w30 v).sum:=g4;rw[Al,e,mSa,mSa];omega
  omega
end
theorem aWv (hI:cE 540000000000) {D M X:Nat}(O:M+D≤700000) (hX:31≤X):∀(k:Nat) (c:Core),m30 c≤k→CG D M X c→∀(s:Str) (b:Core),CG D M X b→PL c s b (bW k c s b):=by
 intro k
 induction k with
 | zero=>intro c h;have:=dB c;omega
 | succ k ih=>
 intro c h hc s b hb;have hBig:Big=250000000000:=rfl;have hsz:=hc.sz;have hszb:=hb.sz;have hpfb:=kE b;obtain⟨hbty,hbtl⟩:=hb.types O;obtain⟨f,n,nm,t,ks,bs,al⟩:=c;have hq:=hc.q;rw[bW];by_cases hv:f=1∧nm=s
 ·rw[ξ (show(Core.mk f n nm t ks bs al).form=1∧(Core.mk f n nm t ks bs al).name=s from hv)];obtain⟨rfl,rfl⟩:=hv;refine⟨fun x hx=>.inr hx,fun σ hσ I=>le_trans I ?_⟩;rw[mS,ξ rfl];omega
 rw[ψ (show ¬((Core.mk f n nm t ks bs al).form=1∧(Core.mk f n nm t ks bs al).name=s) from hv)]
 let P:Core→Prop:=fun x=>m30 x<m30 (.mk f n nm t ks bs al)∧CG D M X x
 have aa:∀p,P p→∀Y J,CG D M X J→PL p Y J (bW k p Y J):=fun p hp Y J I=>ih p (by have:=hp.1;omega) hp.2 Y J I
 have Z:∀p,P p→∀Y J,CG D M X J→TB X p Y J (bW k p Y J):=fun p hp Y J I=>aCh hI O hX k p (by have:=hp.1;omega) hp.2 Y J I
 have hz:∀p m z,P p→Fr z→z.length≤30→P (bW k p m (vC z))∧(∀x∈pfR (bW k p m (vC z)),x∈pfR p∨x=z)∧∀σ,Sg σ→mS σ (bW k p m (vC z))≤mS σ p:=fun p m z hp hF W=>by
  have hcg:=CG.vC (D:=D) (M:=M) W hX;have h1:=Z p hp m (vC z) hcg;have h2:=h1.r0 W;have h3:=aa p hp m (vC z) hcg;refine⟨⟨C1 h2.sz hp.1,h2.cg hp.2 h1.rx.q⟩,fun x hx=>(h3.pf x hx).imp And.left fun h=>?_,fun σ hσ=>h3.ms σ hσ ?_⟩
  ·have:pfR (vC z)=[z]:=rfl;rw[this] at h;exact κ.1 h
  ·rw[a2d];obtain⟨l,rfl⟩:=hF;have:=hσ.fr l W;have:=hσ.ge m;have:=fR m;omega
 have hzR:∀p m z,P p→z.length≤30→P (bW k p m (vC z))∧R0 p (bW k p m (vC z)):=fun p m z hp W=>by
  have h1:=Z p hp m (vC z) (CG.vC W hX);have h2:=h1.r0 W;exact⟨⟨C1 h2.sz hp.1,h2.cg hp.2 h1.rx.q⟩,h2⟩
 have hPq:∀p,P p→bE (QL X) p:=fun p hp=>hp.2.q
 have hSR:∀p,P p→RX X b p (bW k p s b):=fun p hp=>(Z p hp s b hb).rx
 have hs:∀p,P p→(∀x∈pfR (bW k p s b),(x∈pfR p∧¬x=s)∨x∈pfR b)∧∀σ,Sg σ→mS σ b≤σ s→mS σ (bW k p s b)≤mS σ p:=fun p hp=>⟨(aa p hp s b hb).pf,(aa p hp s b hb).ms⟩
 by_cases hf1:f=1
 ·subst hf1;obtain⟨rfl,rfl,rfl⟩:=lS hq rfl;rw[ψ (fun h=>absurd h.1 (by show ¬(1:Int)=7;decide))];have hne:¬nm=s:=fun e=>hv ⟨rfl,e⟩
  have e:nE (bW k) s b (.mk 1 n nm t [] [] [])=.mk 1 n nm t [] [] []:=by
   rw[nE];unfold zNm zKs zBs;rw[ψ (by decide)];have:(([]:List Core)++([]:List Bind).map Bind.body)=[]:=rfl;rw[this];have hp:cO (bW k) s b (gvN 1 nm []) []=(gvN 1 nm [],[]):=by
    unfold cO;rw[ψ fun h=>by cases h.1]
   rw[hp];rfl
  rw[e]
  exact⟨fun x hx=>.inl ⟨hx,fun e=>hne (by
   have:pfR (.mk 1 n nm t [] [] [])=[nm]:=rfl
   rw[this] at hx;rw[←κ.1 hx,e])⟩,fun _ _ _=>le_refl _⟩
 have ab:∀nm1 ks1,(f=5→nm1=nm)→bE (QL X) (.mk f n nm1 t ks1 bs al)→(∀x∈ks1,P x)→bV ks1≤bV ks→PL (.mk f n nm1 t ks1 bs al) s b (nE (bW k) s b (.mk f n nm1 t ks1 bs al)):=fun nm1 ks1 _ hq1 hP1 hkm=>by
  have hP2:∀x∈bs,P x.body:=fun x hx=>⟨(hc.bind hx).2,(hc.bind hx).1⟩
  have hP3:∀x∈al,P x.body:=fun x hx=>⟨(hc.alt hx).2,(hc.alt hx).1⟩
  have hPs:∀p∈ks1++bs.map Bind.body,P p:=fun p hp=>by
   rcases χ.1 hp with hp | hp
   ·exact hP1 p hp
   ·obtain⟨x,hx,rfl⟩:=Ad.1 hp;exact hP2 x hx
  have hm:=hsz;rw[m30] at hm;have hfm:=aH5 (ks1++bs.map Bind.body);rw[yP] at hfm;have hbsb:=u2 bs;have hgv:=aEo (f:=f) (nm:=nm1) (bs:=bs);have hgl:((ks1++bs.map Bind.body).flatMap pfR).length+2*(gvN f nm1 bs).length+(pfR b).length≤540000000000:=by omega
  have hal':∀a∈al,(([a.body]:List Core).flatMap pfR).length+2*a.vars.length+(pfR b).length≤540000000000:=fun a ha=>by
   have h1:=eS ha;have h2:=pU a.vars;have h3:=kE a.body;simp only[Cg,C3,A8];omega
  have hN:=(o5 (sb:=bW k) (P:=P) (X:=X) (s:=s) (b:=b) (ns:=gvN f nm1 bs) hPs hPq hzR hSR hgl).2
  have hRB:=y1 (sb:=bW k) (P:=P) (s:=s) (b:=b) (ns:=gvN f nm1 bs) hPs hz hs hgl;exact aP6 hf1 hq1 hN hRB fun a ha=>⟨(o5 (sb:=bW k) (P:=P) (X:=X) (s:=s) (b:=b) (fun p hp=>by rw[κ.1 hp];exact hP3 a ha) hPq hzR hSR (hal' a ha)).2,y1 (sb:=bW k) (P:=P) (s:=s) (b:=b) (fun p hp=>by rw[κ.1 hp];exact hP3 a ha) hz hs (hal' a ha)⟩
 have hPk:∀x∈ks,P x:=fun x hx=>⟨(hc.kid hx).2.2,(hc.kid hx).1⟩
 by_cases hcl:f=7∧s∈pfR (.mk f n nm t ks bs al)
 ·rw[ξ (show(Core.mk f n nm t ks bs al).form=7∧s∈pfR (Core.mk f n nm t ks bs al) from hcl),aYq];by_cases hnb:nm∈tyR b
  ·rw[ξ hnb];obtain⟨rfl,hin⟩:=hcl;obtain⟨⟨kid,rfl⟩,rfl,rfl⟩:=dG hq (.inr (.inr rfl));obtain⟨g1,g2,g3⟩:=hc.kid (x:=kid) φ;rw[ξ rfl] at g2;obtain⟨_,hktl⟩:=g1.types O;obtain⟨q1,_⟩:=aJ.1 hq;have efm:[kid].flatMap tyR=tyR kid:=by simp
   rw[efm,Al,Bj];have ac:(b6 (tyR b++tyR kid)).length≤30:=o9 _ (by rw[Ab];omega);have hzn:=yY (tyR b++tyR kid);generalize b6 (tyR b++tyR kid)=z at ac hzn;have hS1:=aE3 hI O (m30 kid) kid (le_refl _) g1 nm (vT z) (UOk.var z);have ad:=aQu hI O g1 g2 (m30 kid) (le_refl _) nm z;have hq1:bE (QL X) (.mk 7 n z t [sTR (m30 kid) kid nm (vT z)] [] []):=by
    refine aJ.2 ⟨⟨q1.1,fun h=>⟨(q1.2.1 h).1,hzn⟩,q1.2.2.1,fun p hp=>(by cases hp),le_trans (rX (aI3 ac) rfl rfl) q1.2.2.2.2.1,fun e=>absurd e (by decide),fun p hp=>(by cases hp),fun p hp=>(by cases hp)⟩,fun x hx=>?_,fun x hx=>(by cases hx),fun x hx=>(by cases hx)⟩;rw[κ.1 hx];exact ad.q
   have hr:=ab z [sTR (m30 kid) kid nm (vT z)] (fun e=>absurd e (by decide)) hq1 (fun x hx=>by rw[κ.1 hx];exact⟨C1 hS1.sz g3,ad⟩) (by rw[bV,bV,bV,bV];have:=hS1.sz;omega);refine⟨fun x hx=>(hr.pf x hx).imp (fun h=>⟨?_,h.2⟩) id,fun σ hσ I=>le_trans (hr.ms σ hσ I) ?_⟩
   ·rcases(dC (by decide)).1 h.1 with⟨p,hp,h1,h2⟩ | ⟨a,ha,_⟩
    ·have hpe:p=sTR (m30 kid) kid nm (vT z):=by simpa using hp
     rw[hpe,a1y] at h1;exact(dC (by decide)).2 (.inl ⟨kid,by simp,h1,by unfold gvN;rw[ψ (by decide)];simp⟩)
    ·cases ha
   ·rw[mS,mS,ψ (by decide),ψ (by decide),mSs,mSs,mSs,mSs,mSb,mSa];have:=a2e hI O (σ:=σ) (m30 kid) kid (le_refl _) g1 nm (vT z) (UOk.var z);have:=aI3 (s:=nm) ac;omega
  ·rw[ψ hnb];exact ab nm ks (fun _=>rfl) hq hPk (le_refl _)
 ·rw[ψ (show ¬((Core.mk f n nm t ks bs al).form=7∧s∈pfR (Core.mk f n nm t ks bs al)) from hcl)];exact ab nm ks (fun _=>rfl) hq hPk (le_refl _)
def vU {α:Type}(L:List α) (i:Nat):List α:=L.reverse.take i++((L.drop i).take (L.length-2*i)++L.reverse.drop (L.length-i))
section
variable {α:Type}{L:List α}{i:Nat}
theorem xU (h:2*i≤L.length) (k:Nat):(vU L i)[k]?=if k<i then L.reverse[k]? else if k<L.length-i then L[k]? else L.reverse[k]?:=by
 have h1:(L.reverse.take i).length=i:=by rw[At,List.length_reverse];omega
 have h2:((L.drop i).take (L.length-2*i)).length=L.length-2*i:=by rw[At,B5];omega
 unfold vU;by_cases hk:k<i
 ·rw[ξ hk,Be (by omega),List.getElem?_take_of_lt hk]
 ·rw[ψ hk,A3 (by omega),h1];by_cases q:k<L.length-i
  ·rw[ξ q,Be (by omega),List.getElem?_take_of_lt (by omega),An];congr 1;omega
  ·rw[ψ q,A3 (by omega),h2,An];congr 1;omega
theorem aGy (h:2*i≤L.length):(vU L i).length=L.length:=by
 unfold vU;simp only[Ab,At,List.length_reverse,B5];omega
theorem aL5 (h:2*i+1<L.length) {x y:α}(hx:(vU L i)[i]?=some x) (q:(vU L i)[L.length-1-i]?=some y):((vU L i).set i y).set (L.length-1-i) x=vU L (i+1):=by
 refine Bx fun k=>?_
 have hl:=aGy (L:=L) (i:=i) (by omega);rw[xU (by omega)] at hx q;rw[ψ (by omega),ξ (by omega)] at hx q;rw[List.getElem?_set,List.getElem?_set,Cd,hl,xU (by omega),xU (by omega)];have I:∀j,j<L.length→L.reverse[j]?=L[L.length-1-j]?:=fun j J=>List.getElem?_reverse J
 by_cases h1:L.length-1-i=k
 ·subst h1;rw[ξ rfl,ξ (by omega),ψ (by omega),ψ (by omega),I _ (by omega),←hx];congr 1;omega
 ·rw[ψ h1];by_cases h2:i=k
  ·subst h2;rw[ξ rfl,ξ (by omega),ξ (by omega),I _ (by omega),←q]
  ·rw[ψ h2];by_cases h3:k<i
   ·rw[ξ h3,ξ (by omega)]
   ·rw[ψ h3,ψ (show ¬k<i+1 by omega)];by_cases h4:k<L.length-(i+1)
    ·rw[ξ (by omega),ξ h4]
    ·rw[ψ (show ¬k<L.length-i by omega),ψ h4]
theorem aRt (h:2*i≤L.length) (h2:L.length≤2*i+1):vU L i=L.reverse:=by
 refine Bx fun k=>?_
 rw[xU h];have q:∀j,j<L.length→L.reverse[j]?=L[L.length-1-j]?:=fun j I=>List.getElem?_reverse I
 by_cases h3:k<i
 ·rw[ξ h3]
 ·rw[ψ h3];by_cases h4:k<L.length-i
  ·rw[ξ h4,q k (by omega)];congr 1;omega
  ·rw[ψ h4]
theorem aL4:vU L 0=L:=by unfold vU;simp
end
theorem aCj (L:List Core) (hL:L.length≤570000000000):aU Tryz.prog 122 [.one (.hs 720 0 L.length L.length)] [(720,.arr 34 10 (L.map aB) 0)] (.tup []) [(720,.arr 34 10 (L.reverse.map aB) 0)]:=by
 have hkL:(L.map aB).length=L.length:=ζ _;refine bL (n:=28) tok Tryz.func122 rfl rfl rfl ?_;refine sg rfl (aC (aO (fun i:Nat=>mk [(0,.one (.hs 720 0 L.length L.length)),(2,I .i64 i),(3,I .i64 ((L.length:Int)-1-i))] [(720,.arr 34 10 ((vU L i).map aB) 0)]) (fun i=>2*i≤L.length) (fun i=>L.length-i) 0 (Ak _) (sl (he:=⟨rfl,rfl,by show some (I .i64 _)=some (I .i64 _);congr 2;simp,trivial⟩) (hh:=⟨⟨_,rfl,.arrS (by rw[aL4])⟩,trivial⟩)) ?_));intro i hi;have J:=aGy (L:=L) hi;have O:((vU L i).map aB).length=L.length:=by rw[ζ,J]
 refine a8 (sg rfl (aA rfl (fun hb=>?_) (fun hb=>?_)))
 ·have hlt:(i:Int)<(L.length:Int)-1-i:=θ hb;obtain⟨x,hx⟩:=aL (l:=vU L i) (k:=i) (by omega);obtain⟨y,W⟩:=aL (l:=vU L i) (k:=L.length-1-i) (by omega);have Y:=aL5 (by omega) hx W;have hx':=bM aB hx;have Z:=bM aB W;have ej:(L.length:Int)-1-i=((L.length-1-i:Nat):Int):=by omega
  have aa:i≠L.length-1-i:=by omega
  have hj:L.length-1-i<L.length:=by omega
  have hil:i<L.length:=by omega
  have hy2:(((vU L i).map aB).set i (aB y))[L.length-1-i]?=some (aB y):=by rw[List.getElem?_set_ne aa];exact Z
  have q:(((vU L i).map aB).set i (aB y)).set (L.length-1-i) (aB x)=(vU L (i+1)).map aB:=by rw[←Y,map_set,map_set]
  have hks:(((vU L i).map aB).set i (aB y)).length=L.length:=by rw[Cd,O]
  refine aD (AWp.sub (st2:=mk [(0,.one (.hs 720 0 L.length L.length)),(2,I .i64 i),(3,I .i64 ((L.length-1-i:Nat):Int))] [(720,.arr 34 10 ((vU L i).map aB) 0)]) (sl (he:=⟨rfl,rfl,congrArg (fun x=>some (I .i64 x)) ej,trivial⟩)) ?_);generalize L.length-1-i=j at *;refine a8 (aC (ag [(7,.row j (aB y)),(11,.row i (aB x)),(13,.row i (aB x)),(15,.row j (aB y))] rfl (ag [] rfl ⟨i+1,by omega,by dsimp only;omega,sl (he:=⟨rfl,rfl,?_,trivial⟩) (hh:=⟨⟨_,rfl,.arrS q⟩,trivial⟩)⟩)));show some (I .i64 ((j:Int)-1))=some (I .i64 ((L.length:Int)-1-((i+1:Nat):Int)));congr 2;omega
 ·have hge:¬(i:Int)<(L.length:Int)-1-i:=Aa hb;rw[aRt hi (by omega)];exact aM ⟨.inl rfl,⟨_,_,.nil,.nil,rfl⟩,⟨⟨_,rfl,.arr⟩,trivial⟩,rfl⟩
mutual
def gvC:Core→Option (Str×List Core)
 | .mk f _ s _ ks _ _=>if f=2 then some (s,[]) else if f=4 then(gvH ks).map (fun p=>(p.1,p.2++ks.drop 1)) else if f=6 then gvH ks else none
def gvH:List Core→Option (Str×List Core)
 | []=>none
 | c::_=>gvC c
end
def aJx:Option (Str×List Core)→V
 | some (s,l)=>.tup [Go.AM.T s,.one (.c (.sl 10 (l.map aB))),B true]
 | none=>.tup [Go.AM.T [],.one (.c (.sl 10 [])),B false]
theorem lT {X:Nat}{f n:Int}{s:Str}{t:Ty}{ks:List Core}{bs:List Bind}{al:List Alt}(h:bE (QL X) (.mk f n s t ks bs al)) (hf:f=4∨f=10):(∃a b,ks=[a,b])∧bs=[]∧al=[]:=by
 obtain⟨h1,_⟩:=aJ.1 h;have g:=h1.1;unfold okF at g;rw[ξ hf] at g;obtain⟨g1,g2,g3⟩:=θ g;rw[ζ] at g2 g3;refine⟨?_,Bi.1 g2,Bi.1 g3⟩
 match ks,g1 with
 | [a,b],_=>exact⟨a,b,rfl⟩
theorem aPl (X:Nat) (c:Core) (hq:bE (QL X) c) (hsz:aV c≤570000000000):aU Tryz.prog 68 [.pa (aB c)] [] (aJx (gvC c)) []:=by
 refine bL (n:=30) tok Tryz.func68 rfl rfl rfl ?_;refine sg rfl (sg rfl (AWp.sub (Sub.own (t:=5) (id:=720) 34 10 rfl rfl) ?_));refine aC (aO (fun x:Core×List Core=>mk [(1,.one (.vp 1 0)),(5,.one (.hs 720 0 x.2.length x.2.length))] [(720,.arr 34 10 (x.2.map aB) 0),(1,.var 34 (b7 x.1))]) (fun x=>bE (QL X) x.1∧gvC c=(gvC x.1).map (fun p=>(p.1,p.2++x.2.reverse))∧x.2.length+aV x.1≤aV c) (fun x=>aV x.1) (c,[]) ⟨hq,by cases gvC c<;>simp,by simp⟩ sl ?_);rintro⟨c1,acc⟩ ⟨q,I,Z⟩;dsimp only at q I Z ⊢;obtain⟨f,n,s,t,ks,bs,al⟩:=c1;have hka:(acc.map aB).length=acc.length:=ζ _;have O:=aCj acc (by omega);obtain⟨_,qk,_,_⟩:=aJ.1 q;refine aC (a8 (sg rfl (aC (sg rfl (aA rfl (fun hb=>?_) (fun hb=>?_))))))
 ·have h2:f=2:=θ hb;have e:gvC c=some (s,acc.reverse):=by rw[I,gvC,ξ h2];rfl
  rw[e];refine sk 1 rfl (kc O ?_);refine az (sg rfl (AWp.sub (Sub.freeze (id:=720) rfl) ?_));exact aF ⟨.inr rfl,⟨_,_,.tmp rfl (.tmp rfl (.tmp rfl .nil)),.cons .refl (.cons (hs_all rfl rfl (by simp) rfl) (.cons .refl .nil)),rfl⟩,trivial,rfl⟩
 have h2:¬f=2:=Aa hb;refine sg rfl (aA rfl (fun hb=>?_) (fun hb=>?_))
 ·have h4:f=4:=θ hb;subst h4;obtain⟨⟨a,b,rfl⟩,rfl,rfl⟩:=lT q (.inl rfl);have J:gvC c=(gvC a).map (fun p=>(p.1,p.2++(acc++[b]).reverse)):=by
   rw[I,gvC,ψ h2,ξ rfl,gvH];cases gvC a<;>simp
  have W:aV (.mk 4 n s t [a,b] [] [])=1+s.length+(aV a+(aV b+0))+0+0:=by rw[aV,dJ,dJ,dJ,iC,iD]
  have hbp:=bG b;have hl1:acc.length+1≤570000000000:=by omega
  refine ag [(3,.row 1 (aB b)),(5,.all)] rfl (ag [(2,.row 0 (aB a))] rfl ⟨(a,acc++[b]),⟨qk a (by simp),J,by rw[Ab];show acc.length+1+aV a≤_;omega⟩,by dsimp only;omega,?_⟩);exact sl
 have h4:¬f=4:=Aa hb;refine sg rfl (aA rfl (fun hb=>?_) (fun hb=>?_))
 ·have Y:f=6:=θ hb;subst Y;obtain⟨⟨a,rfl⟩,rfl,rfl⟩:=dG q (.inr (.inl rfl));have J:gvC c=(gvC a).map (fun p=>(p.1,p.2++acc.reverse)):=by
   rw[I,gvC,ψ h2,ψ h4,ξ rfl,gvH]
  have W:aV (.mk 6 n s t [a] [] [])=1+s.length+(aV a+0)+0+0:=by rw[aV,dJ,dJ,iC,iD]
  exact aD (ag [(2,.row 0 (aB a))] rfl ⟨(a,acc),⟨qk a (by simp),J,by dsimp only;omega⟩,by dsimp only;omega,sl⟩)
 have Y:¬f=6:=Aa hb;have e:gvC c=none:=by rw[I,gvC,ψ h2,ψ h4,ψ Y];rfl
 rw[e];exact sg rfl (aF ⟨.inr rfl,⟨_,_,.tmp rfl (.tmp rfl (.tmp rfl .nil)),.cons .refl (.cons (.one (.c .nl .nil)) (.cons .refl .nil)),rfl⟩,trivial,rfl⟩)
def shC (c:Core):Bool:=decide (c.form=5) || (decide (c.form=7) || (decide (c.form=3) || (gvC c).isSome))
theorem aE1 (X:Nat) (c:Core) (O:bE (QL X) c) (I:aV c≤570000000000):aU Tryz.prog 30 [.pa (aB c)] [] (B (shC c)) []:=by
 have J:=aPl X c O I;obtain⟨f,n,s,t,ks,bs,al⟩:=c;refine bL (n:=19) tok Tryz.func30 rfl rfl rfl ?_;refine sg rfl (a8 (sg rfl ?_));by_cases h:f=5∨f=7∨f=3
 ·have e:shC (.mk f n s t ks bs al)=true:=by
   unfold shC;show(decide (f=5) || (decide (f=7) || (decide (f=3) || _)))=true;rcases h with h | h | h
   ·rw[Af h];rfl
   ·rw[Af h];simp
   ·rw[Af h];simp
  rw[e];have W:¬f=5→¬f=7→some (B (decide (f=3)))=some (B true):=fun h5 q=>by rw[Af (show f=3 by omega)]
  refine aC (a8 (AWp.cut (mk [(8,B true)] []) ?_ ?_))
  ·refine sg rfl (aA rfl (fun hb=>?_) (fun hb=>?_))
   ·have h5:f=5:=θ hb;exact aD (sl (he:=⟨by show some (B (decide (f=5)))=some (B true);rw[Af h5],trivial⟩))
   have h5:¬f=5:=Aa hb;refine sg rfl (aA rfl (fun hb=>?_) (fun hb=>?_))
   ·have q:f=7:=θ hb;exact aD (sl (he:=⟨by show some (B (decide (f=7)))=some (B true);rw[Af q],trivial⟩))
   have q:¬f=7:=Aa hb;exact ag [] rfl (sl (he:=⟨W h5 q,trivial⟩))
  exact aA rfl (fun _=>sg rfl (aF rtT)) nofun
 ·have h5:¬f=5:=fun e=>h (.inl e)
  have q:¬f=7:=fun e=>h (.inr (.inl e))
  have h3:¬f=3:=fun e=>h (.inr (.inr e))
  have e:shC (.mk f n s t ks bs al)=(gvC (.mk f n s t ks bs al)).isSome:=by
   unfold shC;show(decide (f=5) || (decide (f=7) || (decide (f=3) || _)))=_;rw[Ae h5,Ae q,Ae h3];rfl
  rw[e];refine aC (a8 (AWp.cut (mk [(1,.one (.vp 1 0)),(8,B false)] [(1,.var 34 (b7 (.mk f n s t ks bs al)))]) ?_ ?_))
  ·exact sg rfl (aA rfl (fun hb=>absurd (θ hb) h5) (fun _=>sg rfl (aA rfl (fun hb=>absurd (θ hb) q) (fun _=>ag [] rfl (sl (he:=⟨rfl,by show some (B (decide (f=3)))=some (B false);rw[Ae h3],trivial⟩))))))
  refine aA rfl nofun (fun _=>aD ?_);cases hx:gvC (.mk f n s t ks bs al) with
  | none=>
   rw[hx] at J;exact sgh [(1,.pc (aJx none))] rfl (sg rfl (aF rtT))
  | some p=>
   obtain⟨s1,Y⟩:=p;rw[hx] at J;exact sgh [(1,.pc (aJx (some (s1,Y))))] rfl (sg rfl (aF rtT))
theorem aCl (c:Core) (q:LC c) (I:NFr c):aU Tryz.prog 133 [.pa (aB c)] [] (ouV (pfR c)) [(500,ouO (pfR c))]:=pJ c (fun x _=>s9 (aV x) x (le_refl _)) q I
theorem aTb (c:Core) (q:aV c≤570000000000):aU Tryz.prog 133 [.pa (aB c)] [] (ouV (pfR c)) [(500,ouO (pfR c))]:=aCl c (LC.of _ c (le_refl _) q) (NFr.of _ c (le_refl _) q)
def pcN (n:Nat):Str:=37::Lib.decDigits n
theorem aMx (n m:Nat) (h:pcN n=pcN m):n=m:=aO4 _ _ (List.cons.inj h).2
theorem mZ (n:Nat):¬nh (pcN n):=fun h=>h.1 rfl
def n0 (tk:List Str) (n:Nat):List Str:=((List.range n).map pcN).filter fun s=>decide (¬s∈tk)
theorem tO (tk:List Str) (n:Nat):n0 tk (n+1)=if pcN n∈tk then n0 tk n else n0 tk n++[pcN n]:=by
 unfold n0;rw[List.range_succ,A6,List.filter_append];by_cases h:pcN n∈tk
 ·rw[ξ h];simp[h]
 ·rw[ψ h];simp[h]
theorem aSc {tk:List Str}{n:Nat}{x:Str}(h:x∈n0 tk n):¬x∈tk∧∃m,m<n∧x=pcN m:=by
 obtain⟨h1,h2⟩:=mem_filter.1 h;obtain⟨m,hm,rfl⟩:=Ad.1 h1;exact⟨θ h2,m,mem_range.1 hm,rfl⟩
theorem aSd (tk:List Str) (n:Nat):n≤(n0 tk n).length+tk.length:=by
 have I:((List.range n).map pcN).Nodup:=by
  rw[List.Nodup,List.pairwise_map];exact List.Pairwise.imp (fun h e=>h (aMx _ _ e)) nodup_range
 have h:=eO ((List.range n).map pcN) (n0 tk n++tk) I fun x hx=>by
  by_cases q:x∈tk
  ·exact χ.2 (.inr q)
  ·exact χ.2 (.inl (mem_filter.2 ⟨hx,Af q⟩))
 rw[ζ,length_range,Ab] at h;exact h
theorem yC (tk:List Str):∀k:Nat,∃N,N≤tk.length+k∧(n0 tk N).length=k∧∀m,m<N→(n0 tk m).length<k:=by
 intro k;have h0:∀n,(n0 tk (n+1)).length≤(n0 tk n).length+1:=fun n=>by rw[tO];split<;>simp
 have key:∀M:Nat,k≤(n0 tk M).length→∃N,N≤M∧(n0 tk N).length=k∧∀m,m<N→(n0 tk m).length<k:=by
  intro M
  induction M with
  | zero=>intro h;exact⟨0,le_refl _,by have:(n0 tk 0).length=0:=rfl;omega,fun m hm=>by omega⟩
  | succ M J=>
   intro h;by_cases O:k≤(n0 tk M).length
   ·obtain⟨N,h1,h2,h3⟩:=J O;exact⟨N,by omega,h2,h3⟩
   ·refine⟨M+1,le_refl _,by have:=h0 M;omega,fun m hm=>?_⟩;by_cases W:k≤(n0 tk m).length
    ·exfalso;have q:∀d,(n0 tk m).length≤(n0 tk (m+d)).length:=fun d=>by
      induction d with
      | zero=>exact le_refl _
      | succ d I=>
       rw[←Ci,tO];split
       ·exact I
       ·rw[Ab];omega
     have:=q (M-m);rw[show m+(M-m)=M by omega] at this;omega
    ·omega
 exact key (tk.length+k) (by have:=aSd tk (tk.length+k);omega)
noncomputable def aKi (tk:List Str) (k:Nat):Nat:=Classical.choose (yC tk k)
noncomputable def oR (tk:List Str) (k:Nat):List Str:=n0 tk (aKi tk k)
theorem aEf (tk:List Str) (k:Nat):aKi tk k≤tk.length+k:=(By (yC tk k)).1
theorem oQ (tk:List Str) (k:Nat):(oR tk k).length=k:=(By (yC tk k)).2.1
theorem aM3 (tk:List Str) (k:Nat) {m:Nat}(h:m<aKi tk k):(n0 tk m).length<k:=(By (yC tk k)).2.2 m h
theorem rQ {tk:List Str}{k:Nat}{x:Str}(h:x∈oR tk k):¬x∈tk∧¬nh x∧∃m,m<tk.length+k∧x=pcN m:=by
 obtain⟨h1,m,hm,rfl⟩:=aSc h;exact⟨h1,mZ m,m,by have:=aEf tk k;omega,rfl⟩
theorem aIf:∀(k n:Nat),n<10^(k+1)→(Lib.decDigits n).length≤k+1
 | 0,n,h=>by rw[Lib.decDigits,dif_pos (by omega)];exact le_refl _
 | k+1,n,h=>by
  rw[Lib.decDigits];split
  ·simp
  ·rw[Ab];have:=aIf k (n/10) (by rw[Nat.pow_succ] at h;omega);simp only[Bl,List.length_nil];omega
theorem a13 {n:Nat}(h:n<10^29):(pcN n).length≤30:=by
 have:=aIf 28 n h;unfold pcN;rw[Am];omega
mutual
theorem aSp {X:Nat}{σ:Str→Nat}(hn:∀x,nh x→σ x=1+w30 x):∀c:Core,bE (QL X) c→(∀x∈pfR c,σ x=1+w30 x)→mS σ c=m30 c
 | .mk f n s t ks bs al,h,hp=>by
  obtain⟨⟨_,_,_,_,_,O,W,Y⟩,Z,qb,qa⟩:=aJ.1 h;rw[mS,m30];by_cases h1:f=1
  ·obtain⟨rfl,rfl,rfl⟩:=lS h h1;rw[ξ h1,hp s (by rw[pfR,ξ h1];exact κ.2 rfl)];rfl
  ·rw[ψ h1];have hg:∀x∈gvN f s bs,nh x:=fun x hx=>by
    unfold gvN at hx;rcases χ.1 hx with hx | hx
    ·by_cases h5:f=5
     ·rw[ξ h5] at hx;rw[κ.1 hx];exact O h5
     ·rw[ψ h5] at hx;cases hx
    ·obtain⟨b,hb,rfl⟩:=Ad.1 hx;exact W (bhd b) (Ad.2 ⟨b,hb,rfl⟩)
   have J:∀p∈ks++bs.map Bind.body,∀x∈pfR p,σ x=1+w30 x:=fun p I x hx=>by
    by_cases q:x∈gvN f s bs
    ·exact hn x (hg x q)
    ·exact hp x ((dC h1).2 (.inl ⟨p,I,hx,q⟩))
   have ha:∀a∈al,∀x∈pfR a.body,σ x=1+w30 x:=fun a ha x hx=>by
    by_cases q:x∈a.vars
    ·exact hn x (Y (ahd a) (Ad.2 ⟨a,ha,rfl⟩) x q)
    ·exact hp x ((dC h1).2 (.inr ⟨a,ha,hx,q⟩))
   rw[aVf hn ks Z fun p I=>J p (χ.2 (.inl I)),aVg hn bs qb fun b hb=>J b.body (χ.2 (.inr (Ad.2 ⟨b,hb,rfl⟩))),aVh hn al qa ha]
theorem aVf {X:Nat}{σ:Str→Nat}(hn:∀x,nh x→σ x=1+w30 x):∀l:List Core,(∀c∈l,bE (QL X) c)→(∀c∈l,∀x∈pfR c,σ x=1+w30 x)→mSs σ l=bV l
 | [],_,_=>by rw[mSs,bV]
 | c::l,h,hp=>by rw[mSs,bV,aSp hn c (h c φ) (hp c φ),aVf hn l (fun x hx=>h x (η _ hx)) fun x hx=>hp x (η _ hx)]
theorem aVg {X:Nat}{σ:Str→Nat}(hn:∀x,nh x→σ x=1+w30 x):∀l:List Bind,(∀c∈l,bE (QL X) c.body)→(∀c∈l,∀x∈pfR c.body,σ x=1+w30 x)→mSb σ l=eU l
 | [],_,_=>by rw[mSb,eU]
 | .mk s t c::l,h,hp=>by rw[mSb,eU,aSp hn c (h _ φ) (hp _ φ),aVg hn l (fun x hx=>h x (η _ hx)) fun x hx=>hp x (η _ hx)]
theorem aVh {X:Nat}{σ:Str→Nat}(hn:∀x,nh x→σ x=1+w30 x):∀l:List Alt,(∀c∈l,bE (QL X) c.body)→(∀c∈l,∀x∈pfR c.body,σ x=1+w30 x)→mSa σ l=fQ l
 | [],_,_=>by rw[mSa,fQ]
 | .mk f n s v c::l,h,hp=>by rw[mSa,fQ,aSp hn c (h _ φ) (hp _ φ),aVh hn l (fun x hx=>h x (η _ hx)) fun x hx=>hp x (η _ hx)]
end
noncomputable def dL (c:Core) (l:List (Str×Str)):Core:=l.foldl (fun c p=>bW (m30 c) c p.1 (vC p.2)) c
noncomputable def fY (c:Core) (l:List (Str×Core)):Core:=l.foldl (fun c p=>bW (m30 c) c p.1 p.2) c
def i7 (c:Core) (l:List Core):List Str:=pfR c++l.flatMap pfR
noncomputable def uV (c:Core) (names:List Str) (l:List Core):Core:=fY (dL c (names.zip (oR (i7 c l) names.length))) ((oR (i7 c l) names.length).zip l)
structure PO (D M X B:Nat) (c:Core) (l:List Core):Prop where
 q:bE (QL X) c
 dep:cw kQ 0 c r0≤D
 bq:∀b∈l,bE (QL X) b
 bdep:∀b∈l,cw kQ 0 b r0≤D
 ty:∃U:List Str,U.length+2*(tlC c+(l.map tlC).sum)≤M∧(∀x∈tyR c,x∈U)∧∀b∈l,∀x∈tyR b,x∈U
 one:1≤B
 bsz:∀b∈l,m30 b≤31*B
 sz:m30 c*B≤Big
 bsum:(l.map m30).sum≤Big
structure PR (X B:Nat) (c:Core) (l:List Core) (r:Core):Prop where
 q:bE (QL X) r
 cw:∀(A:Alg) (E:Nat) (ρ:Str→Nat) (K:Nat),cw A E c ρ≤K→(∀b∈l,cw A E b ρ≤K)→cw A E r ρ≤K
 ty:∀x∈tyR r,x∈tyR c∨∃b∈l,x∈tyR b
 tl:tlC r≤tlC c+(l.map tlC).sum
 sz:m30 r≤m30 c*B
theorem aDz {l:List Core}{g:Core→Nat}{b:Core}(h:b∈l):g b≤(l.map g).sum:=by
 induction l with
 | nil=>cases h
 | cons x l q=>
  rw[Al,Cc];rcases Ah.1 h with e | h
  ·rw[e];omega
  ·have:=q h;omega
section
variable {D M X B:Nat}{c:Core}{l:List Core}
theorem PO.cg (h:PO D M X B c l):CG D M X c:=by
 obtain⟨U,h1,h2,_⟩:=h.ty;refine⟨h.q,h.dep,?_,le_trans (Ay _ h.one) h.sz⟩;have:=dS h2;omega
theorem PO.cgb (h:PO D M X B c l) {b:Core}(hb:b∈l):CG D M X b:=by
 obtain⟨U,h1,_,h3⟩:=h.ty;refine⟨h.bq b hb,h.bdep b hb,?_,le_trans (aDz hb) h.bsum⟩;have:=dS (h3 b hb);have:=aDz (g:=tlC) hb;omega
theorem y2 (O:cE 540000000000) (I:M+D≤700000) (J:31≤X):∀(ps:List (Str×Str)) (c:Core),CG D M X c→(∀p∈ps,p.2.length≤30)→R0 c (dL c ps)∧CG D M X (dL c ps)
 | [],c,h,_=>⟨R0.refl c,h⟩
 | p::ps,c,h,hp=>by
  have W:=hp p φ;have h1:=aCh O I J (m30 c) c (le_refl _) h p.1 (vC p.2) (CG.vC W J);have h2:=h1.r0 W;obtain⟨h3,h4⟩:=y2 O I J ps (bW (m30 c) c p.1 (vC p.2)) (h2.cg h h1.rx.q) fun q Y=>hp q (η _ Y)
  exact⟨h2.trans h3,h4⟩
structure P2 (X B:Nat) (c:Core) (l:List Core) (own:List Str) (i:Nat) (r:Core):Prop where
 q:bE (QL X) r
 cw:∀(A:Alg) (E:Nat) (ρ:Str→Nat) (K:Nat),cw A E c ρ≤K→(∀b∈l,cw A E b ρ≤K)→cw A E r ρ≤K
 ty:∀x∈tyR r,x∈tyR c∨∃b∈l,x∈tyR b
 tl:tlC r≤tlC c+((l.take i).map tlC).sum
 sz:mS (fun s=>if s∈own then(1+w30 s)*B else 1+w30 s) r≤m30 c*B
theorem aGk {g:Core→Nat}:∀{l:List Core}{i:Nat},((l.take i).map g).sum≤(l.map g).sum
 | [],i=>by simp
 | x::l,0=>by simp
 | x::l,i+1=>by
  rw[A1,Al,Al,Cc,Cc];have:=aGk (g:=g) (l:=l) (i:=i);omega
theorem P2.cg {own:List Str}{i:Nat}{r:Core}(I:PO D M X B c l) (h:P2 X B c l own i r):CG D M X r:=by
 obtain⟨U,h1,h2,h3⟩:=I.ty;refine⟨h.q,h.cw kQ 0 r0 D I.dep I.bdep,?_,?_⟩
 ·have:=dS (c:=r) (a:=U) fun x hx=>by
   rcases h.ty x hx with h | ⟨b,hb,h⟩
   ·exact h2 x h
   ·exact h3 b hb x h
  have:=h.tl;have:=aGk (g:=tlC) (l:=l) (i:=i);omega
 ·refine le_trans (aBo (fun s=>?_) r) (le_trans h.sz I.sz);split
  ·exact Ay _ I.one
  ·exact le_refl _
theorem P2.zero {own:List Str}{r:Core}(q:PO D M X B c l) (h:R0 c r) (I:bE (QL X) r):P2 X B c l own 0 r:=by
 refine⟨I,fun A E ρ K h1 _=>le_trans (h.cw A E ρ) h1,fun x hx=>.inl (h.ty x hx),by simpa using h.tl,?_⟩;refine le_trans (a4t q.one (fun s=>?_) r) (Ar _ h.sz);split
 ·exact le_refl _
 ·exact Ay _ q.one
theorem P2.step (hI:cE 540000000000) (O:M+D≤700000) (hX:31≤X) {tk:List Str}{k i:Nat}{r s b:_}(J:PO D M X B c l) (htk:∀b∈l,∀x∈pfR b,x∈tk) (h:P2 X B c l (oR tk k) i r) (hs:s∈oR tk k) (hs30:s.length≤30) (hb:l[i]?=some b):
  TB X r s b (bW (m30 r) r s b)∧P2 X B c l (oR tk k) (i+1) (bW (m30 r) r s b):=by
 have I:=δ hb;have W:=h.cg J;have Y:=J.cgb I;have h1:=aCh hI O hX (m30 r) r (le_refl _) W s b Y;have h2:=aWv hI O hX (m30 r) r (le_refl _) W s b Y;refine⟨h1,h1.rx.q,fun A E ρ K k1 k2=>?_,fun x hx=>?_,?_,?_⟩
 ·have:=h1.rx.cw A E ρ;have:=h.cw A E ρ K k1 k2;have:=k2 b I;omega
 ·rcases h1.rx.ty x hx with Z | Z
  ·exact h.ty x Z
  ·exact .inr ⟨b,I,Z⟩
 ·have e:(l.take (i+1))=l.take i++[b]:=by rw[Bh,hb];rfl
  rw[e,A6,List.sum_append];have:=h1.rx.tl;have:=h.tl;simp only[Al,Bj,Cc,sum_nil];omega
 ·refine le_trans (h2.ms _ ⟨fun s=>?_,fun l hl=>?_⟩ ?_) h.sz
  ·split
   ·exact Ay _ J.one
   ·exact le_refl _
  ·rw[ψ fun hin=>(rQ hin).2.1 (aH4 l)];unfold w30;omega
  ·have e:=aSp (X:=X) (σ:=fun s=>if s∈oR tk k then(1+w30 s)*B else 1+w30 s) (fun x hx=>by
    rw[ψ fun hin=>(rQ hin).2.1 hx]) b (J.bq b I) (fun x hx=>by
    rw[ψ fun hin=>(rQ hin).1 (htk b I x hx)])
   rw[e,ξ hs];refine le_trans (J.bsz b I) (Ar _ ?_);unfold w30;omega
theorem P2.fin {own:List Str}{r:Core}(I:PO D M X B c l) (h:P2 X B c l own l.length r):PR X B c l r:=by
 refine⟨h.q,h.cw,h.ty,?_,?_⟩
 ·have:=h.tl;rwa [As] at this
 ·refine le_trans (aBo (fun s=>?_) r) h.sz;split
  ·exact Ay _ I.one
  ·exact le_refl _
end
theorem jG {α β γ:Type}(g:γ→α×β→γ) (z:γ) {a:List α}{b:List β}{i:Nat}{x:α}{y:β}(ha:a[i]?=some x) (hb:b[i]?=some y):((a.zip b).take (i+1)).foldl g z=g (((a.zip b).take i).foldl g z) (x,y):=by
 have h:(a.zip b)[i]?=some (x,y):=by rw[List.getElem?_zip_eq_some];exact⟨ha,hb⟩
 rw[Bh,h,Bv];rfl
theorem tL {l:List Core}:∀i,((l.take i).flatMap pfR).length≤(l.map m30).sum:=by
 induction l with
 | nil=>intro i;simp
 | cons c l q=>
  intro i;cases i with
  | zero=>simp
  | succ i=>
   rw[A1,Cg,Ab,Al,Cc];have:=kE c;have:=q i;omega
theorem qU {l:List Core}{i:Nat}{b:Core}(h:l[i]?=some b):(l.take (i+1)).flatMap pfR=(l.take i).flatMap pfR++pfR b:=by
 rw[Bh,h,flatMap_append];simp
theorem aXe (hI:cE 540000000000) {D M X B:Nat}(Y:M+D≤700000) (hX:31≤X) (c:Core) (names:List Str) (l:List Core) (hl:names.length=l.length) (hl2:l.length≤1000000) (J:PO D M X B c l):
  (∀x∈oR (i7 c l) names.length,x.length≤30)∧(∀i,∀p∈(names.zip (oR (i7 c l) names.length)).take i,p.2.length≤30)∧
  ∀i,i≤l.length→P2 X B c l (oR (i7 c l) names.length) i (fY (dL c (names.zip (oR (i7 c l) names.length))) (((oR (i7 c l) names.length).zip l).take i)):=by
 have hBig:Big=250000000000:=rfl;have Z:=J.cg;have hcsz:=Z.sz;have hpfc:=kE c;have O:=J.bsum;have hfl:∀i,((l.take i).flatMap pfR).length≤250000000000:=fun i=>le_trans (tL i) O
 have W:i7 c l=pfR c++(l.take l.length).flatMap pfR:=by rw[As];rfl
 have htkl:(i7 c l).length≤500000000000:=by rw[W,Ab];have:=hfl l.length;omega
 have hNle:=aEf (i7 c l) names.length;have I:∀x∈oR (i7 c l) names.length,x.length≤30:=fun x hx=>by
  obtain⟨_,_,m,hm,rfl⟩:=rQ hx
  exact a13 (lt_of_lt_of_le hm (by
    have:600000000000≤10^29:=by decide
    omega))
 have hownL:=oQ (i7 c l) names.length;have aa:∀p∈names.zip (oR (i7 c l) names.length),p.2.length≤30:=fun p hp=>I p.2 (of_mem_zip (a:=p.1) (b:=p.2) hp).2
 have ac:∀i,∀p∈(names.zip (oR (i7 c l) names.length)).take i,p.2.length≤30:=fun i p hp=>aa p (Br hp)
 have ab:=y2 hI Y hX (names.zip (oR (i7 c l) names.length)) c Z aa;have htk:∀b∈l,∀x∈pfR b,x∈i7 c l:=fun b hb x hx=>χ.2 (.inr (Bw.2 ⟨b,hb,hx⟩))
 have hP2:∀i,i≤l.length→P2 X B c l (oR (i7 c l) names.length) i (fY (dL c (names.zip (oR (i7 c l) names.length))) (((oR (i7 c l) names.length).zip l).take i)):=by
  intro i
  induction i with
  | zero=>intro _;exact P2.zero J ab.1 ab.2.q
  | succ i ih=>
   intro hi;obtain⟨b,hb⟩:=aL (show i<l.length by omega);obtain⟨s,hs⟩:=aL (show i<(oR (i7 c l) names.length).length by omega);have:=(P2.step hI Y hX J htk (ih (by omega)) (δ hs) (I s (δ hs)) hb).2
   unfold fY at this ⊢;rw[jG _ _ hs hb];exact this
 exact⟨I,ac,hP2⟩
theorem aTa (hI:cE 540000000000) {D M X B:Nat}(ab:M+D≤700000) (hX:31≤X) (c:Core) (names:List Str) (l:List Core) (hl:names.length=l.length) (hl2:l.length≤1000000) (ho:PO D M X B c l):
  aU Tryz.prog 125 [.pa (aB c),bK names,.one (.c (.sl 10 (l.map aB)))] [] (.pa (aB (uV c names l))) []∧PR X B c l (uV c names l):=by
 have hBig:Big=250000000000:=rfl;have hcg:=ho.cg;have hcs:=bU c;have hcsz:=hcg.sz;have hpfc:=kE c;have hbsum:=ho.bsum;have hfl:∀i,((l.take i).flatMap pfR).length≤250000000000:=fun i=>le_trans (tL i) hbsum
 have hfr:=aTb c (by omega);have hkL:(l.map aB).length=l.length:=ζ _;have ac:(names.map bC).length=names.length:=ζ _;have ad:i7 c l=pfR c++(l.take l.length).flatMap pfR:=by rw[As];rfl
 have htkl:(i7 c l).length≤500000000000:=by rw[ad,Ab];have:=hfl l.length;omega
 have hNle:=aEf (i7 c l) names.length;obtain⟨Y,hzpi,hP2⟩:=aXe hI ab hX c names l hl hl2 ho;have hownL:=oQ (i7 c l) names.length;have hkO:((oR (i7 c l) names.length).map bC).length=(oR (i7 c l) names.length).length:=ζ _;have htk:∀b∈l,∀x∈pfR b,x∈i7 c l:=fun b hb x hx=>χ.2 (.inr (Bw.2 ⟨b,hb,hx⟩))
 have hzl:((oR (i7 c l) names.length).zip l).length=l.length:=by rw[length_zip];omega
 have hfin:=hP2 l.length (le_refl _);rw[←hzl,As,hzl] at hfin;refine⟨?_,hfin.fin ho⟩;refine bL (n:=80) tok Tryz.func125 rfl rfl rfl ?_;refine sg rfl (sk 1 rfl (kc hfr ?_));refine kz 1 rfl (a8 (sg rfl (aC (aO (fun i:Nat=>mk [(1,bK names),(2,.one (.c (.sl 10 (l.map aB)))),(3,.one (.vp 3 0)),(6,.one (.vp 6 0)),(7,ouV (pfR c++(l.take i).flatMap pfR)),(19,.one (.c (.sl 10 (l.map aB)))),(20,I .i64 ((l.map aB).length:Int)),(21,I .i64 i)] [(3,.var 34 (b7 c)),(6,.var 34 bI),(500,ouO (pfR c++(l.take i).flatMap pfR))]) (fun i=>i≤l.length) (fun i=>l.length-i) 0 (Ak _) (by rw[Cr,C3,A8];exact sl) ?_))));intro i hi;refine sg rfl (a8 (aA rfl (fun hb=>?_) (fun hb=>?_)))
 ·have q:=ltD hb hkL;obtain⟨b,J⟩:=aL q;have hb':=bM aB J;have hbm:=δ J;have hbs:=bU b;have hcb:=(ho.cgb hbm).sz;have hfb:=zJ (aV b) b (le_refl _) (by omega);have W:=qU J;have h1:=hfl i;have h2:=kE b;have hx0:(pfR c++(l.take i).flatMap pfR).length≤500000000000:=by rw[Ab];omega
  generalize hG:(l.take i).flatMap pfR=G at W hx0;generalize pfR b=F at hfb W h2;have hkF:(F.map bC).length=F.length:=ζ _;have hkx:((pfR c++G).map bC).length=(pfR c++G).length:=ζ _;refine aD (a8 (aC (sgh [(0,.row i (aB b))] rfl (aE mixed (ak 2 [] rfl (kc hfb ?_))))));refine kz 2 rfl (ag [] rfl ⟨i+1,q,by dsimp only;omega,?_⟩);dsimp only;rw[W,←A0];exact sl (he:=⟨rfl,rfl,rfl,rfl,Go.AM.hs_ren (by simp;omega) (by simp;omega),rfl,rfl,rfl,trivial⟩) (hh:=⟨⟨_,rfl,.varS rfl⟩,⟨_,rfl,.varS rfl⟩,⟨_,rfl,.arrS (by simp)⟩,trivial⟩)
 have Z:=geD hb hkL hi;subst Z;rw[←ad];refine aM (AWp.sub (Sub.freeze (id:=500) rfl) ?_);refine sg rfl (a8 (sg rfl (AWp.sub (Sub.own (t:=10) (id:=720) 9 1 rfl rfl) ?_)));refine aC ?_;have hO:∀n,((n0 (i7 c l) n).map bC).length=(n0 (i7 c l) n).length:=fun n=>ζ _
 refine aO (fun n:Nat=>mk [(1,bK names),(2,.one (.c (.sl 10 (l.map aB)))),(3,.one (.vp 3 0)),(6,.one (.vp 6 0)),(7,ouV (i7 c l)),(10,.one (.hs 720 0 (n0 (i7 c l) n).length (n0 (i7 c l) n).length)),(11,I .i64 n)] [(3,.var 34 (b7 c)),(6,.var 34 bI),(500,.arr 9 1 ((i7 c l).map bC) 2),(720,.arr 9 1 ((n0 (i7 c l) n).map bC) 0)]) (fun n=>n≤aKi (i7 c l) names.length) (fun n=>aKi (i7 c l) names.length-n) 0 (Ak _) sl ?_;intro n hn;have hct:=bR (i7 c l) (pcN n) (by omega);have hit:=hI n (by omega);refine a8 (sg rfl (aA rfl (fun hb=>?_) (fun hb=>?_)))
 ·have q:n<aKi (i7 c l) names.length:=by
   have hb:((n0 (i7 c l) n).length:Int)<((names.map bC).length:Int):=θ hb;rw[ac] at hb;by_cases h:n<aKi (i7 c l) names.length
   ·exact h
   ·have e:n=aKi (i7 c l) names.length:=by omega
    rw[e] at hb;have:(n0 (i7 c l) (aKi (i7 c l) names.length)).length=names.length:=oQ _ _;omega
  have hll:(n0 (i7 c l) n).length≤1000000:=by have:=aM3 _ _ q;omega
  have hdl:=zG n (by omega);have hM:600000000000≤maxLen:=by decide
  have aa:=tO (i7 c l) n;refine aD (a8 (aC (sk 1 rfl (kc hit ?_))));refine ak 2 [] rfl ?_ (hc:=by repeat (first | exact trivial | refine⟨by first | rfl | omega | (simp;omega),?_⟩));refine az (sk 2 rfl (kc hct ?_));refine kz 1 rfl (aA rfl (fun hb=>?_) (fun hb=>?_))
  ·have hni:¬pcN n∈i7 c l:=by simpa using hb
   rw[ψ hni] at aa;generalize n0 (i7 c l) n=O at aa hll;refine ag [(2,.all)] rfl (ag [] rfl ⟨n+1,q,by dsimp only;omega,?_⟩);dsimp only;rw[aa];exact sl
  ·have hni:pcN n∈i7 c l:=by simpa using hb
   rw[ξ hni] at aa;refine aD (ag [] rfl ⟨n+1,q,by dsimp only;omega,?_⟩);dsimp only;rw[aa];exact sl
 have heN:n=aKi (i7 c l) names.length:=by
  have hb:¬((n0 (i7 c l) n).length:Int)<((names.map bC).length:Int):=Aa hb;rw[ac] at hb;by_cases h:n<aKi (i7 c l) names.length
  ·have:=aM3 _ _ h;omega
  ·omega
 subst heN;refine aM (AWp.sub (Sub.freeze (id:=720) rfl) ?_);have hown:n0 (i7 c l) (aKi (i7 c l) names.length)=oR (i7 c l) names.length:=rfl;rw[hown];generalize hTK:i7 c l=TK at *;generalize hOW:oR TK names.length=own at *;refine a8 (sg rfl (aC (aO (fun i:Nat=>mk [(2,.one (.c (.sl 10 (l.map aB)))),(3,.one (.vp 3 0)),(6,.one (.vp 6 0)),(10,.one (.hs 720 0 own.length own.length)),(48,bK names),(49,I .i64 ((names.map bC).length:Int)),(50,I .i64 i)] [(3,.var 34 (b7 (dL c ((names.zip own).take i)))),(6,.var 34 bI),(720,.arr 9 1 (own.map bC) 2)]) (fun i=>i≤names.length) (fun i=>names.length-i) 0 (Ak _) sl ?_)));intro i hi;refine sg rfl (a8 (aA rfl (fun hb=>?_) (fun hb=>?_)))
 ·have q:=ltD hb ac;obtain⟨s,hs⟩:=aL q;obtain⟨o,ho'⟩:=aL (show i<own.length by omega);have hs':=bM bC hs;have ho2:=bM bC ho';have hz:=Y o (δ ho');have hc1:=(y2 hI ab hX ((names.zip own).take i) c hcg (hzpi i)).2
  have hS:=(aCh hI ab hX (m30 (dL c ((names.zip own).take i))) (dL c ((names.zip own).take i)) (le_refl _) hc1 s (vC o) (CG.vC hz hX)).imp;have W:dL c ((names.zip own).take (i+1))=bW (m30 (dL c ((names.zip own).take i))) (dL c ((names.zip own).take i)) s (vC o):=by
   unfold dL;rw[jG _ _ hs ho']
  refine aD (a8 (aC (sgh [(1,.row i (bC s))] rfl (aE mixed (ak 6 [(5,.row i (bC o))] rfl (kc (uJ o) ?_))))));refine kc hS ?_;refine kz 1 rfl (ag [] rfl ⟨i+1,q,by dsimp only;omega,?_⟩);dsimp only;rw[W];exact sl
 have Z:=geD hb ac hi;subst Z;have hzn:(names.zip own).take names.length=names.zip own:=by
  rw[Ax];rw[length_zip];omega
 rw[hzn];refine aM (a8 (sg rfl (aC (aO (fun i:Nat=>mk [(2,.one (.c (.sl 10 (l.map aB)))),(3,.one (.vp 3 0)),(6,.one (.vp 6 0)),(64,.one (.hs 720 0 own.length own.length)),(65,I .i64 (own.length:Int)),(66,I .i64 i)] [(3,.var 34 (b7 (fY (dL c (names.zip own)) ((own.zip l).take i)))),(6,.var 34 bI),(720,.arr 9 1 (own.map bC) 2)]) (fun i=>i≤own.length) (fun i=>own.length-i) 0 (Ak _) sl ?_))));intro i hi;refine sg rfl (a8 (aA rfl (fun hb=>?_) (fun hb=>?_)))
 ·have q:i<own.length:=by have:=θ hb;omega
  obtain⟨s,hs⟩:=aL q;obtain⟨b,J⟩:=aL (show i<l.length by omega);have hs':=bM bC hs;have hb':=bM aB J;have hS:=(P2.step (tk:=TK) (k:=names.length) hI ab hX ho htk (by rw[hOW];exact hP2 i (by omega)) (by rw[hOW];exact δ hs) (Y s (δ hs)) J).1.imp;have W:fY (dL c (names.zip own)) ((own.zip l).take (i+1))=bW (m30 (fY (dL c (names.zip own)) ((own.zip l).take i))) (fY (dL c (names.zip own)) ((own.zip l).take i)) s b:=by
   generalize dL c (names.zip own)=c1;unfold fY;rw[jG _ _ hs J]
  refine aD (a8 (aC (sgh [(2,.row i (bC s))] rfl (aE mixed (ak 6 [(4,.row i (aB b))] rfl (kc hS ?_))))));refine kz 1 rfl (ag [] rfl ⟨i+1,q,by dsimp only;omega,?_⟩);dsimp only;rw[W];exact sl
 have Z:i=own.length:=by have:=Aa hb;omega
 subst Z;have hzn:(own.zip l).take own.length=own.zip l:=by
  rw[Ax];rw[length_zip];omega
 rw[hzn];refine aM (sg rfl ?_);have he:uV c names l=fY (dL c (names.zip own)) (own.zip l):=by unfold uV;rw[hTK,hOW]
 rw[he];exact aF (rtC trw)
end Go.Proofs.YtglfogjcijokpaaGreatDoor
namespace Go.AM
open Go
theorem Sub.fnClo {kf:List Nat}{st:St}(t:Nat) {f:FuncId}(h:st.e t=some (.one (.c (.fn f)))):Sub kf ⟨upd st.e t (some (.one (.clo f []))),st.h,st.d⟩ st:=by
 intro G n S μ a w _ hs;refine⟨S,μ,⟨hs.inv,hs.size,hs.defers,fun s v e=>?_⟩⟩;by_cases q:s=t
 ·subst q;have I:=hs.env s _ h;have e':v=.one (.clo f []):=by
   have:some v=some (V.one (.clo f [])):=by rw[←e];exact aI _ _ _
   cases this;rfl
  subst e';simp only[aZ,b9,Rep,aW] at I ⊢;exact⟨[],I,rfl⟩
 ·exact hs.env s v (by rw[←e];exact(aS _ _ _ q).symm)
def aZ8:BinOp→Int→Int→Option Int
 | .add,a,b=>some (IntKind.i64.wrap (a+b))
 | .sub,a,b=>some (IntKind.i64.wrap (a-b))
 | .mul,a,b=>some (IntKind.i64.wrap (a*b))
 | .quo,a,b=>if b=0 then none else some (IntKind.i64.wrap (a.tdiv b))
 | .rem,a,b=>if b=0 then none else some (a.tmod b)
 | _,_,_=>none
section
variable {P:Program}{n:Nat}{ops:Array Oper}{draw:Bool}{k d:Nat}{st:St}{pre:REs}{Q:St→Prop}{o:Oper}
theorem a5d {op:BinOp}{Y ty:TypeId}{x y:Operand}{a b r:Int}(O:o.op=.binOp op Y x y ty) (hd:o.dst=some d) (J:d<n) (hx:opv st x=some (I .i64 a)) (W:opv st y=some (I .i64 b)) (q:aZ8 op a b=some r):
  Step P n o st ⟨opr x++opr y,[]⟩ ⟨some (d,some (I .i64 r)),[]⟩:=by
 cases op<;>simp only[aZ8] at q<;>try (cases q;done)
 ·cases q;exact aR6 O hd J hx W rfl
 ·cases q;exact aRv O hd J hx W rfl
 ·cases q;exact aR0 O hd J hx W rfl
 ·split at q
  ·cases q
  ·rename_i hb;cases q;exact a1k O hd J hx W hb rfl
 ·split at q
  ·cases q
  ·rename_i hb;cases q;exact a1i O hd J hx W hb rfl
theorem kw {op:BinOp}{O ty:TypeId}{x y:Operand}{a b:Int}(r:Int) (W:aZ8 op a b=some r)
  (hk:k9 P n ops draw (k+1) ⟨upd st.e d (some (I .i64 r)),st.h,st.d⟩ ((⟨opr x++opr y,[]⟩,⟨some (d,some (I .i64 r)),[]⟩)::pre) Q)
  (Y:ops[k]?=some o:=by rfl) (Z:o.guard=none:=by rfl) (q:o.op=.binOp op O x y ty:=by rfl) (hd:o.dst=some d:=by rfl) (J:Nat.blt d n=true:=by rfl) (hx:opv st x=some (I .i64 a):=by rfl) (hy:opv st y=some (I .i64 b):=by rfl):k9 P n ops draw k st pre Q:=
 k_ (g_ Y Z (a5d q hd (fU J) hx hy W)) hk
end
end Go.AM
namespace Go.Proofs.YtglfogjcijokpaaGreatDoor
open Go Go.AM
set_option maxRecDepth 20000
def iQ (n:Int):Core:=.mk 3 n [] zTy [] [] []
def aCc (s:Str):Core:=.mk 2 0 s zTy [] [] []
def zC:Core:=.mk 0 0 [] zTy [] [] []
def aVc:Str:=[97,100,100]
def aU9:Str:=[115,117,98]
def aVb:Str:=[109,117,108]
def aKk:Str:=[100,105,118]
def nEq:Str:=[101,113]
def nLt:Str:=[108,116]
def qR (b:Bool):Core:=aCc (if b then [84,114,117,101] else [70,97,108,115,101])
def dM (s:Str) (a b:Int):Core×Int:=
 if s=aVc then(iQ (IntKind.i64.wrap (a+b)),0)
 else if s=aU9 then(iQ (IntKind.i64.wrap (a-b)),0)
 else if s=aVb then(iQ (IntKind.i64.wrap (a*b)),0)
 else if s=aKk then(if b=0 then(zC,53) else(iQ (IntKind.i64.wrap (a.tdiv b)),0))
 else if s=nEq then(qR (decide (a=b)),0)
 else if s=nLt then(qR (decide (a<b)),0)
 else(zC,51)
theorem aCn (n:Int):aU Tryz.prog 35 [I .i64 n] [] (.pa (aB (iQ n))) []:=aV5 n
theorem aIm (s:Str):aU Tryz.prog 86 [Go.AM.T s] [] (.pa (aB (aCc s))) []:=by
 refine bL (n:=5) tok Tryz.func86 rfl rfl rfl ?_;exact sg rfl (sg rfl (aF (rtC trw)))
theorem aO9 (b:Bool):aU Tryz.prog 156 [B b] [] (.pa (aB (qR b))) []:=by
 refine bL (n:=6) tok Tryz.func156 rfl rfl rfl ?_;refine sg rfl (a8 (sg rfl ?_));cases b with
 | true=>
  refine aA rfl (fun _=>a8 (aE mixed (kc (aIm [84,114,117,101]) ?_))) nofun;exact kz 1 rfl (aF (rtC trw))
 | false=>
  refine aA rfl nofun (fun _=>aD (a8 (aE mixed (kc (aIm [70,97,108,115,101]) ?_))));exact kz 1 rfl (aF (rtC trw))
theorem a3p (a b:Int):aU Tryz.prog 151 [I .i64 a,I .i64 b] [] (.pa (aB (iQ (IntKind.i64.wrap (a+b))))) []:=by
 refine bL (n:=9) tok Tryz.func151 rfl rfl rfl ?_;refine sg rfl (sk 2 rfl (kw (IntKind.i64.wrap (a+b)) rfl ?_));refine kc (aCn _) ?_;exact kz 1 rfl (aF (rtC trw))
theorem a3m (a b:Int):aU Tryz.prog 152 [I .i64 a,I .i64 b] [] (.pa (aB (iQ (IntKind.i64.wrap (a-b))))) []:=by
 refine bL (n:=9) tok Tryz.func152 rfl rfl rfl ?_;refine sg rfl (sk 2 rfl (kw (IntKind.i64.wrap (a-b)) rfl ?_));refine kc (aCn _) ?_;exact kz 1 rfl (aF (rtC trw))
theorem a3n (a b:Int):aU Tryz.prog 153 [I .i64 a,I .i64 b] [] (.pa (aB (iQ (IntKind.i64.wrap (a*b))))) []:=by
 refine bL (n:=9) tok Tryz.func153 rfl rfl rfl ?_;refine sg rfl (sk 2 rfl (kw (IntKind.i64.wrap (a*b)) rfl ?_));refine kc (aCn _) ?_;exact kz 1 rfl (aF (rtC trw))
theorem a3o (a b:Int) (hb:b≠0):aU Tryz.prog 154 [I .i64 a,I .i64 b] [] (.pa (aB (iQ (IntKind.i64.wrap (a.tdiv b))))) []:=by
 refine bL (n:=9) tok Tryz.func154 rfl rfl rfl ?_;refine sg rfl (sk 2 rfl (kw (op:=.quo) (a:=a) (b:=b) (IntKind.i64.wrap (a.tdiv b)) (ψ hb) ?_));refine kc (aCn _) ?_;exact kz 1 rfl (aF (rtC trw))
theorem a6i (a b:Int):aU Tryz.prog 155 [I .i64 a,I .i64 b] [] (.pa (aB (qR (decide (a=b))))) []:=by
 have h:=aO9 (decide (a=b));refine bL (n:=9) tok Tryz.func155 rfl rfl rfl ?_;refine sg rfl (sk 3 rfl (kc h ?_));exact kz 1 rfl (aF (rtC trw))
theorem a6h (a b:Int):aU Tryz.prog 157 [I .i64 a,I .i64 b] [] (.pa (aB (qR (decide (a<b))))) []:=by
 have h:=aO9 (decide (a<b));refine bL (n:=9) tok Tryz.func157 rfl rfl rfl ?_;refine sg rfl (sk 3 rfl (kc h ?_));exact kz 1 rfl (aF (rtC trw))
def w9:List (List C):=[[.str aVc,.fn 151],[.str aU9,.fn 152],[.str aVb,.fn 153],[.str aKk,.fn 154],[.str nEq,.fn 155],[.str nLt,.fn 157]]
theorem aBa:iA w9:=trivial
theorem aY2:aU Tryz.prog 127 [] [] (.one (.c (.mp false w9))) []:=by
 refine bL (n:=3) tok Tryz.func127 rfl rfl rfl ?_;refine sg rfl (sgh [(0,.id 900)] rfl ?_ (hc:=by repeat (first | exact trivial | refine⟨by decide+kernel,?_⟩)));refine AWp.sub (Sub.fmap (id:=900) rfl (by simp[keys]) aBa) ?_;exact aF rtT
end Go.Proofs.YtglfogjcijokpaaGreatDoor
namespace Go.AM
open Go
def uniq (T:List (List C)):Prop:=∀k cs,(.str k::cs)∈T→fJ k T=some cs
theorem kG {r:List C}{l:List (List C)}(h:iA (r::l)):(∃s us,r=.str s::us)∧iA l:=by
 match r,h with
 | .str s::us,h=>exact⟨⟨s,us,rfl⟩,h⟩
theorem tZ {k:List UInt8}{cs:List C}:∀{l:List (List C)},iA l→fJ k l=some cs→(.str k::cs)∈l
 | [],_,h=>by simp[fJ] at h
 | r::l,hm,h=>by
  obtain⟨⟨s,us,rfl⟩,q⟩:=kG hm;simp only[fJ] at h;split at h
  ·rename_i hs;cases h;subst hs;simp
  ·exact η _ (tZ q h)
theorem aBn {k:List UInt8}{cs:List C}:∀{l:List (List C)},iA l→(.str k::cs)∈l→∃q,fJ k l=some q
 | [],_,h=>by simp at h
 | r::l,hm,h=>by
  obtain⟨⟨s,us,rfl⟩,I⟩:=kG hm;simp only[fJ];split
  ·exact⟨us,rfl⟩
  ·rename_i hs;rcases Ah.1 h with h | h
   ·cases h;exact absurd rfl hs
   ·exact aBn I h
theorem aHj {k:List UInt8}{vs:List C}{r:List C}:∀{l:List (List C)},iA l→r∈uT k vs l→r=.str k::vs∨r∈l
 | [],_,h=>by simp only[uT,κ] at h;exact .inl h
 | r'::l,hm,h=>by
  obtain⟨⟨s,us,rfl⟩,q⟩:=kG hm;simp only[uT] at h;split at h
  ·rcases Ah.1 h with h | h
   ·exact .inl h
   ·exact .inr (η _ h)
  ·rcases Ah.1 h with h | h
   ·exact .inr (by rw[h];simp)
   ·exact(aHj q h).imp id fun h=>η _ h
theorem rV {k k':List UInt8}{vs cs:List C}:∀{l:List (List C)},iA l→k'=k∨(.str k'::cs)∈l→∃q,(.str k'::q)∈uT k vs l
 | [],_,h=>by
  rcases h with rfl | h
  ·exact⟨vs,by simp[uT]⟩
  ·simp at h
 | r'::l,hm,h=>by
  obtain⟨⟨s,us,rfl⟩,I⟩:=kG hm;simp only[uT];split
  ·rename_i hs;subst hs;rcases h with rfl | h
   ·exact⟨vs,by simp⟩
   ·rcases Ah.1 h with h | h
    ·cases h;exact⟨vs,by simp⟩
    ·exact⟨cs,η _ h⟩
  ·rcases h with rfl | h
   ·obtain⟨q,h⟩:=rV (cs:=cs) (vs:=vs) I (.inl rfl);exact⟨q,η _ h⟩
   ·rcases Ah.1 h with h | h
    ·cases h;exact⟨_,φ ..⟩
    ·obtain⟨q,h⟩:=rV (k:=k) (vs:=vs) I (.inr h);exact⟨q,η _ h⟩
theorem vV {S:Sto}{agg:Bool}{e:MapEntry}:∀{T:List (List C)},fV S agg T e→∃r∈T,∃vs,cB S r (e.key::vs)∧(e.val=if agg then .agg ⟨vs⟩ else vs.headD undef)∧(agg=false→vs.length=1)
 | [],h=>by simp only[fV] at h
 | r::T,h=>by
  simp only[fV] at h;rcases h with h | h
  ·exact⟨r,by simp,h⟩
  ·obtain⟨r',h1,h2⟩:=vV h;exact⟨r',η _ h1,h2⟩
theorem aAw {S:Sto}{agg:Bool}{e:MapEntry}:∀{T:List (List C)}{r:List C},r∈T→(∃vs,cB S r (e.key::vs)∧(e.val=if agg then .agg ⟨vs⟩ else vs.headD undef)∧(agg=false→vs.length=1))→fV S agg T e
 | r'::T,r,h,k=>by
  simp only[fV];rcases Ah.1 h with h | h
  ·subst h;exact .inl k
  ·exact .inr (aAw h k)
theorem sV {S:Sto}{agg:Bool}{T:List (List C)}:∀{es:List MapEntry},(∀e∈es,fV S agg T e)→∃ents,bB S agg ents es∧∀r∈ents,r∈T
 | [],_=>⟨[],by simp[bB],by simp⟩
 | e::es,h=>by
  obtain⟨r,h1,h2⟩:=vV (h e (by simp));obtain⟨ents,h3,h4⟩:=sV fun x hx=>h x (η _ hx)
  exact⟨r::ents,by simp only[bB];exact⟨e,es,rfl,h2,h3⟩,fun q I=>by
   rcases Ah.1 I with rfl | I
   ·exact h1
   ·exact h4 q I⟩
theorem aB9 {S:Sto}{agg:Bool}{T:List (List C)}:∀{ents:List (List C)}{es:List MapEntry},bB S agg ents es→(∀r∈ents,r∈T)→∀e∈es,fV S agg T e
 | [],_,h,_,e,he=>by simp only[bB] at h;subst h;simp at he
 | r::ents,_,h,k,e,he=>by
  simp only[bB] at h;obtain⟨e0,J,rfl,h1,h2⟩:=h;rcases Ah.1 he with rfl | he
  ·exact aAw (k r (by simp)) h1
  ·exact aB9 h2 (fun q I=>k q (η _ I)) e he
theorem yK {T:List (List C)}(I:iA T):∀{l:List (List C)},(∀r∈l,r∈T)→iA l
 | [],_=>trivial
 | r::l,h=>by
  have key:∀{T:List (List C)},iA T→r∈T→∃s us,r=.str s::us:=by
   intro T
   induction T with
   | nil=>intro _ h;simp at h
   | cons x T J=>
    intro hm h;obtain⟨h1,h2⟩:=kG hm;rcases Ah.1 h with rfl | h
    ·exact h1
    ·exact J h2 h
  obtain⟨s,us,rfl⟩:=key I (h r (by simp));show iA l;exact yK I fun q O=>h q (η _ O)
theorem s7 {S:Sto}{agg:Bool}{k:List UInt8}:∀{ents:List (List C)}{es:List MapEntry},iA ents→bB S agg ents es→((∃e∈es,e.key=.string ⟨⟨k⟩⟩)↔∃cs,(.str k::cs)∈ents)
 | [],_,_,h=>by simp only[bB] at h;subst h;simp
 | r::ents,_,hm,h=>by
  obtain⟨⟨s,us,rfl⟩,I⟩:=kG hm;simp only[bB] at h;obtain⟨e0,Y,rfl,⟨vs,h1,_⟩,h2⟩:=h;simp only[cB,Rep] at h1;obtain⟨v,vs',W,h3,_⟩:=h1;have q:e0.key=.string ⟨⟨s⟩⟩:=by injection W with h4 _;rw[h4,h3]
  have J:=s7 (k:=k) I h2;constructor
  ·rintro⟨e,he,hk⟩;rcases Ah.1 he with rfl | he
   ·rw[q] at hk;have O:s=k:=by simpa using hk
    subst O;exact⟨us,by simp⟩
   ·obtain⟨cs,hc⟩:=J.1 ⟨e,he,hk⟩;exact⟨cs,η _ hc⟩
  ·rintro⟨cs,hc⟩;rcases Ah.1 hc with hc | hc
   ·cases hc;exact⟨e0,by simp,q⟩
   ·obtain⟨e,he,hk⟩:=J.2 ⟨cs,hc⟩;exact⟨e,η _ he,hk⟩
section
variable {P:Program}{n:Nat}
theorem aJb {o:Oper}{st:St}{d:Nat}{t:TypeId}{id:Nat}{agg:Bool}{T:List (List C)}(J:T≠[]) (ho:o.op=.makeMap t none) (hd:o.dst=some d) (O:d<n) (hid:st.h id=none):Step P n o st ⟨[],[id]⟩ ⟨some (d,some (.one (.mr id))),[(id,some (.map agg ([]::T)))]⟩:=by
 intro st' ha G S μ a w K Q hs W;refine aA6 id agg ho hd O hid st' ha G S μ a w K Q hs fun S1 Y Z w1 h1=>W S1 Y Z w1 ?_
 have q:updL st'.h [(id,some (.map agg []))] id=some (.map agg []):=by rw[c7,aI]
 obtain⟨b,es,clk,g1,g2,g3,g4⟩:=h1.inv.obj id _ q;have I:=g3.rep (ents:=[]) trivial;simp only[bB] at I;have h2:=h1.turnMap (id:=id) (agg:=agg) (ents:=[]) (ents':=[]::T) q ⟨b,es,clk,g1,g2,.inr (.inr ⟨T,rfl,J,by rw[I];simp⟩),.inl (g4.kn0 trivial)⟩;have e:(upd (updL st'.h [(id,some (.map agg []))]) id (some (.map agg ([]::T))))=updL st'.h [(id,some (.map agg ([]::T)))]:=by
  rw[c7,c7,nW]
 have h3:Sim G n S1 Y ⟨upd st'.e d (some (.one (.mr id))),upd (updL st'.h [(id,some (.map agg []))]) id (some (.map agg ([]::T))),st'.d⟩ Z w1:=h2;rw[e] at h3;exact h3
theorem kD {o:Oper}{st:St}{T:TT}{t kt et:TypeId}{i ki:TI}{x y z:Operand}{id tid:Nat}{agg:Bool}{k:List UInt8}{v:V}{rs:List R}{cs:List C}{ids:List Nat}{Tr:List (List C)}(hT:Tok P T) (ho:o.op=.insert t x y z) (hd:o.dst=none) (hi:T[t]?=some (some i)) (hk:i.k=.mp kt et)
  (hki:T[kt]?=some (some ki)) (hkk:ki.k=.str) (hx:opv st x=some (.one (.mr id))) (hh:st.h id=some (.map agg ([]::Tr))) (hmT:iA Tr) (htid:st.h tid=none) (hy:opv st y=some (Go.AM.T k))
  (hz:opv st z=some v) (O:(match v with | .one _=>!agg | .pa _=>agg | .ma _=>agg | _=>false)=true) (hc:iV v=some rs) (hp:PureL st.h ids rs cs) (hrow:(.str k::cs)∈Tr):
  Step P n o st ⟨opr x++opr y++opr z,id::tid::ids⟩ ⟨none,[(tid,some (.tok (.mr id) k))]⟩:=by
 intro st' ha G S μ a w K Q hs hK;have W:st'.h id=some (.map agg ([]::Tr)):=(ha.2 id (by simp)).trans hh;have ht':st'.h tid=none:=(ha.2 tid (by simp)).trans htid;have hne:id≠tid:=fun e=>by rw[e,ht'] at W;cases W
 have h1:=aQ hs hx fun t h=>ha.1 t (by simp[h])
 have h3:=kX (aQ hs hy fun t h=>ha.1 t (by simp[h]));have Y:=aQ hs hz fun t h=>ha.1 t (by simp[h])
 simp only[aZ,b9] at h1;obtain⟨agg',ents',b,c,q1,q2,q3⟩:=h1;obtain⟨q,es,clk,g1,g2,g3,g4⟩:=hs.inv.obj id _ W;rw[g1] at q2;cases q2;have hTr:Tr≠[]:=fun e=>by subst e;simp at hrow
 have hrows:∀e∈es.toList,fV S agg Tr e:=by
  rcases g3 with⟨e,_⟩ | g3 | ⟨T',e,_,h⟩
  ·cases e;exact absurd rfl hTr
  ·simp only[bB,cB] at g3;obtain⟨_,_,_,⟨_,g,_⟩,_⟩:=g3;cases g
  ·cases e;exact h
 obtain⟨ents,hents,hsub⟩:=sV hrows;have aa:=yK hmT hsub;have hrep:=hp.rel (fun i h=>ha.2 i (by simp[h])) hs.inv.obj (eG Y hc);have hval:a.eval z=(if agg then .agg ⟨(a.eval z).cells.toList⟩ else(a.eval z).cells.toList.headD undef)∧(agg=false→(a.eval z).cells.toList.length=1):=by
  cases v with
  | one r=>
   simp at O;subst O;simp only[aZ] at Y;rw[Y.one.1];simp
  | pa l=>
   simp at O;subst O;simp only[aZ] at Y;obtain⟨vs,Y,_⟩:=Y;rw[Y];simp[Value.cells]
  | ma l=>
   simp at O;subst O;simp only[aZ] at Y;obtain⟨vs,Y,_⟩:=Y;rw[Y];simp[Value.cells]
  | tup l=>simp at O
 obtain⟨Z,ac,hrun,hnew⟩:=aLv (P:=P) hT ho hi hk hki hkk q3 h3 g2 hents aa hrep hval;have hkeys:∀k',k'=k∨aBt k' es→aBt k' Z:=fun k' h=>by
  refine(s7 (aNo aa) hnew).2 ?_;rcases h with h | h
  ·exact rV (cs:=[]) aa (.inl h)
  ·obtain⟨cs',h⟩:=(s7 aa hents).1 h;exact rV aa (.inr h)
 have hlt:=dV g2
 let w':World:={ w with heap:=w.heap.setIfInBounds b (.map Z ac) }
 have hwb:w'.heap[b]?=some (.map Z ac):=by simp[w',hlt]
 have hwo:∀j,j≠b→w'.heap[j]?=w.heap[j]?:=fun j I=>by
  show(w.heap.setIfInBounds b _)[j]?=_;rw[Bq,ψ (fun e=>I e.symm)]
 let S':Sto:=⟨S.cell,fun q=>if q=b then some (.part fun k'=>aBt k' Z) else S.mapo q⟩
 have ad:S'.mapo b=some (.part fun k'=>aBt k' Z):=ξ rfl;have ae:∀j,j≠b→S'.mapo j=S.mapo j:=fun j I=>ψ I
 have hle:S.le S':=⟨fun _ _ _ e=>e,fun q m e=>by
  by_cases hb:q=b
  ·subst hb;refine⟨_,ad,?_⟩;rcases g4 with g4 | ⟨_,ks,_,_,g4⟩
   ·rw[g4] at e;cases e
   ·rw[g4] at e;cases e;obtain⟨es0,clk0,p1,p2⟩:=hs.inv.holds.2 _ _ g4;rw[g2] at p1;cases p1;exact fun k' h=>hkeys k' (.inr (p2 k' h))
  ·exact⟨m,by rw[ae q hb];exact e,m.le_refl⟩⟩
 have hE:Evolve S μ st'.h S' (upd μ tid none) (upd st'.h tid (some (.tok (.mr id) k))):=⟨hle,fun j x I=>by
  have J:j≠tid:=fun e=>by rw[e,ht'] at I;cases I
  exact⟨x,by rw[aS _ _ _ J];exact I,x.succ_refl (aS _ _ _ J)⟩⟩
 have hoth:∀j x,st'.h j=some x→j≠id→∀q c',μ j=some (q,c')→q≠b:=by
  rintro j x I hji q c' hm rfl;exact hji (hs.inv.inj j id x _ q c' _ I W hm g1)
 have hfr:∀j,j<G.w0.heap.size→¬G.F j→j≠b:=by
  rintro j I hF rfl;rcases hs.inv.own id _ _ _ W g1 with h | h
  ·omega
  ·exact hF h
 have hold:∀j x,upd st'.h tid (some (.tok (.mr id) k)) j=some x→j≠tid→st'.h j=some x:=fun j x I J=>by rwa [aS _ _ _ J] at I
 have hI:Inv G S' (upd μ tid none) (upd st'.h tid (some (.tok (.mr id) k))) w':=by
  refine⟨⟨fun q o u e=>?_,fun q m e=>?_⟩,fun j x I=>?_,fun i j x x' b1 c1 c2 hi I m1 m2=>?_,fun i x b1 c1 hi m1=>?_,?_,Sto.le_trans hs.inv.sle hle,fun q hb hF=>?_,hs.inv.evo.trans hE,Sto.free_of hs.inv.fre (b:=b) (fun j I=>⟨fun _=>rfl,ae j I⟩) fun te lo hi e=>by rw[ad] at e;cases e⟩
  ·obtain⟨vs,t',fr,p1,p2⟩:=hs.inv.holds.1 q o u e;have hb:q≠b:=by rintro rfl;rw[g2] at p1;cases p1
   exact⟨vs,t',fr,by rw[hwo q hb];exact p1,p2⟩
  ·by_cases hb:q=b
   ·subst hb;rw[ad] at e;cases e;exact⟨Z,ac,hwb,fun _ h=>h⟩
   ·rw[ae q hb] at e;rw[hwo q hb];exact hs.inv.holds.2 q m e
  ·by_cases J:j=tid
   ·subst J;have ab:some (AObj.tok (.mr id) k)=some x:=by rw[←I];exact(aI _ _ _).symm
    cases ab;refine⟨aI _ _ _,b,?_,_,ad,hkeys k (.inl rfl)⟩;simp only[b9];exact⟨agg,_,b,_,by rw[aS _ _ _ hne];exact W,by rw[aS _ _ _ hne];exact g1,rfl⟩
   ·have ab:=hold j x I J;by_cases hji:j=id
    ·subst hji;rw[W] at ab;cases ab;refine⟨b,Z,ac,by rw[aS _ _ _ hne];exact g1,hwb,.inr (.inr ⟨Tr,rfl,hTr,?_⟩),.inr ⟨Tr,_,rfl,hTr,ad⟩⟩;refine fun e he=>fV.mono hle _ _ _ (aB9 hnew (fun r hr=>?_) e he)
     rcases aHj aa hr with rfl | hr
     ·exact hrow
     ·exact hsub r hr
    ·refine(hs.inv.obj j x ab).evolve hE (aS _ _ _ J) fun b1 c1 hm=>?_
     have hb:=hoth j x ab hji b1 c1 hm;exact⟨hwo b1 hb,fun _=>rfl,ae b1 hb⟩
  ·have e1:i≠tid:=fun e=>by subst e;rw[aI] at m1;cases m1
   have e2:j≠tid:=fun e=>by subst e;rw[aI] at m2;cases m2
   rw[aS _ _ _ e1] at m1;rw[aS _ _ _ e2] at m2;exact hs.inv.inj i j x x' b1 c1 c2 (hold i x hi e1) (hold j x' I e2) m1 m2
  ·have e1:i≠tid:=fun e=>by subst e;rw[aI] at m1;cases m1
   rw[aS _ _ _ e1] at m1;exact hs.inv.own i x b1 c1 (hold i x hi e1) m1
  ·refine⟨hs.inv.frame.os,hs.inv.frame.tape,hs.inv.frame.output,?_,fun j I hF=>?_,hs.inv.frame.tab⟩
   ·show G.w0.heap.size≤(w.heap.setIfInBounds b _).size;rw[Array.size_setIfInBounds];exact hs.inv.frame.size
   ·rw[hwo j (hfr j I hF)];exact hs.inv.frame.block j I hF
  ·obtain⟨p1,p2⟩:=hs.inv.sto q hb hF;exact⟨p1,(ae q (hfr q hb hF)).trans p2⟩
 refine fun ro=>qO hrun ?_
 rw[hd];refine hK S' (upd μ tid none) _ _ ?_;have:=hs.put_none hI hE undef;unfold Eff.apply;rw[c7];exact this
theorem Sub.fmapU {kf:List Nat}{st:St}{id:Nat}{agg:Bool}{T:List (List C)}(hid:st.h id=some (.map agg ([]::T))) (Y:id∉kf) (Z:T≠[]) (W:∀k cs,(.str k::cs)∈T→∃tid,st.h tid=some (.tok (.mr id) k)):
  Sub kf ⟨fun t=>(st.e t).map (V.fz id (.map agg ([]::T))),hfz id (.map agg ([]::T)) st.h,st.d⟩ st:=by
 intro G n S μ a w hg hs;obtain⟨b,es,clk,h1,h2,h3,h4⟩:=hs.inv.obj id _ hid;obtain⟨S',I,J,O,hle,hh⟩:=aHl hs.inv.holds h2;refine⟨S',μ,oZ hid rfl Y hg hs hle hh ?_ (fun q hb=>⟨fun _=>by rw[I],?_⟩) (Sto.free_of hs.inv.fre (b:=b) (fun q hb=>⟨fun _=>by rw[I],O q hb⟩) fun te lo hi e=>by rw[J] at e;cases e)⟩
 ·intro q c hm;rw[h1] at hm;cases hm;refine⟨es,clk,J,.inr ?_⟩;simp only[aKn];refine⟨trivial,fun e he=>?_,fun k cs hk=>?_⟩
  ·refine fV.mono hle _ _ _ ?_;rcases h3 with⟨e,_⟩ | h3 | ⟨T',e,_,h⟩
   ·cases e;exact absurd rfl Z
   ·simp only[bB,cB] at h3;obtain⟨_,_,_,⟨_,g,_⟩,_⟩:=h3;cases g
   ·cases e;exact h _ he
  ·obtain⟨tid,ht⟩:=W k cs hk;obtain⟨_,b2,q1,m,q2,q3⟩:=hs.inv.obj tid _ ht;simp only[b9] at q1;obtain⟨_,_,b3,c3,p1,p2,p3⟩:=q1;rw[h1] at p2;cases p2;cases p3;have p5:=hs.inv.holds.2 _ _ q2;rw[h2] at p5;exact MK.holds_map p5 k q3
 ·exact O q fun e=>hb (0,0) (by rw[e];exact h1)
theorem tC {o:Oper}{st:St}{d:Nat}{T:TT}{t J O:TypeId}{i W ei:TI}{x y:Operand}{ok:Bool}{agg:Bool}{Tr:List (List C)}{k:List UInt8}{r:Option (List C)}(hT:Tok P T) (ho:o.op=.lookup t x y ok) (hd:o.dst=some d) (Y:d<n) (hi:T[t]?=some (some i)) (hk:i.k=.mp J O)
  (Z:T[J]?=some (some W)) (aa:W.k=.str) (ab:T[O]?=some (some ei)) (ac:ei.k.agg=agg) (hx:opv st x=some (.one (.c (.mp agg ([]::Tr))))) (I:iA Tr) (hu:uniq Tr) (hy:opv st y=some (Go.AM.T k)) (hr:fJ k Tr=r):
  Step P n o st ⟨opr x++opr y,[]⟩ ⟨some (d,some (if ok then .tup [oV ei r,B (uX r)] else oV ei r)),[]⟩:=
 aA7 hT ho hd Y hi hk Z aa ab ac hy fun st' ha G S μ a w hs=>by
  have hv:=aQ hs hx fun t h=>ha.1 t (by simp[h])
  simp only[aZ,b9,Rep] at hv;obtain⟨b,es,clk,h1,h2,h3⟩:=hv;rcases h3 with h3 | h3
  ·simp only[bB,cB] at h3;obtain⟨_,_,_,⟨_,g,_⟩,_⟩:=h3;cases g
  ·simp only[aKn] at h3;obtain⟨_,h4,h5⟩:=h3;obtain⟨ents,h6,h7⟩:=sV h4;have q:=yK I h7;refine⟨es,ents,q,?_,h6,.inr ⟨b,clk,h1,hs.inv.holds.2 _ _ h2⟩⟩;rw[←hr];cases hq:fJ k ents with
   | some cs=>exact(hu k cs (h7 _ (tZ q hq))).symm
   | none=>
    cases hq2:fJ k Tr with
    | none=>rfl
    | some cs=>
     obtain⟨cs',h8⟩:=(s7 q h6).1 (h5 k cs (tZ I hq2))
     obtain⟨cs'',h9⟩:=aBn q h8;rw[hq] at h9;cases h9
end
mutual
def R.toC:R→Option C
 | .c x=>some x
 | .clo f caps=>(R.toCL caps).map (C.clo f)
 | _=>none
def R.toCL:List R→Option (List C)
 | []=>some []
 | r::rs=>(R.toC r).bind fun x=>(R.toCL rs).map (x:: ·)
end
mutual
theorem b9.toC {S:Sto}{μ:Mu}{H:cK}:∀(r:R) (x:C) (v:Value),r.toC=some x→b9 S μ H r v→Rep S x v
 | .c x,y,v,h,k=>by
  simp only[R.toC,Option.some.injEq] at h;subst h;simpa only[b9] using k
 | .clo f caps,y,v,h,k=>by
  simp only[R.toC,Bp] at h;obtain⟨l,h1,rfl⟩:=h;simp only[b9] at k;obtain⟨vs,h2,h3⟩:=k;simp only[Rep];exact⟨vs,h2,aW.toC caps l vs h1 h3⟩
 | .hs ..,_,_,h,_=>by simp[R.toC] at h
 | .tl ..,_,_,h,_=>by simp[R.toC] at h
 | .vp ..,_,_,h,_=>by simp[R.toC] at h
 | .ep ..,_,_,h,_=>by simp[R.toC] at h
 | .mr ..,_,_,h,_=>by simp[R.toC] at h
 | .mth ..,_,_,h,_=>by simp[R.toC] at h
 | .yl ..,_,_,h,_=>by simp[R.toC] at h
 | .ra ..,_,_,h,_=>by simp[R.toC] at h
 | .rp ..,_,_,h,_=>by simp[R.toC] at h
 | .ras ..,_,_,h,_=>by simp[R.toC] at h
 | .pas ..,_,_,h,_=>by simp[R.toC] at h
theorem aW.toC {S:Sto}{μ:Mu}{H:cK}:∀(rs:List R) (l:List C) (vs:List Value),R.toCL rs=some l→aW S μ H rs vs→cB S l vs
 | [],l,vs,h,k=>by
  simp only[R.toCL,Option.some.injEq] at h;subst h;simpa only[aW,cB] using k
 | r::rs,l,vs,h,k=>by
  simp only[R.toCL,Aj,Bp] at h;obtain⟨x,h1,l',h2,rfl⟩:=h;simp only[aW] at k;obtain⟨v,vs',rfl,h3,h4⟩:=k;simp only[cB];exact⟨v,vs',rfl,b9.toC r x v h1 h3,aW.toC rs l' vs' h2 h4⟩
end
theorem cB.rrel {S:Sto}{μ:Mu}{H:cK}:∀{l:List C}{vs:List Value},cB S l vs→aW S μ H (l.map R.c) vs
 | [],_,h=>by simpa only[cB,Bj,aW] using h
 | _::l,_,h=>by
  simp only[cB] at h;obtain⟨v,vs',rfl,h1,h2⟩:=h;simp only[Al,aW];exact⟨v,vs',rfl,by simp only[b9];exact h1,cB.rrel h2⟩
theorem Sub.varRe {kf:List Nat}{st:St}{x tv:Nat}{cells cells':List R}(h:st.h x=some (.var tv cells)) (hc:∀S μ vs,aW S μ st.h cells vs→aW S μ st.h cells' vs):Sub kf ⟨st.e,upd st.h x (some (.var tv cells')),st.d⟩ st:=by
 intro G n S μ a w _ hs;have hi:=hs.inv;obtain⟨b,vs,g1,g2,g3,g4⟩:=hi.obj x _ h
 have J:Evolve S μ st.h S μ (upd st.h x (some (.var tv cells'))):=⟨S.le_refl,fun j y I=>by
  by_cases q:j=x
  ·subst q;rw[h] at I;cases I;exact⟨_,aI _ _ _,by simp[AObj.succ]⟩
  ·exact⟨y,by rw[aS _ _ _ q];exact I,y.succ_refl rfl⟩⟩
 have hold:∀j y,upd st.h x (some (.var tv cells')) j=some y→∃y',st.h j=some y':=fun j y I=>by
  by_cases q:j=x
  ·subst q;exact⟨_,h⟩
  ·rw[aS _ _ _ q] at I;exact⟨_,I⟩
 refine⟨S,μ,⟨⟨hi.holds,fun j y I=>?_,fun i j y y' b c c' O I hm Y=>?_,fun i y b c O hm=>?_,hi.frame,hi.sle,hi.sto,hi.evo.trans J,hi.fre⟩,hs.size,hs.defers.evolve J,fun s v e=>aZ.evolve J v _ (hs.env s v e)⟩⟩
 ·by_cases q:j=x
  ·subst q;have W:some (AObj.var tv cells')=some y:=by rw[←I];exact(aI _ _ _).symm
   cases W;exact⟨b,vs,g1,g2,aW.evolve J _ _ (hc _ _ _ g3),g4⟩
  ·have W:st.h j=some y:=by rw[←I];exact(aS _ _ _ q).symm
   exact(hi.obj j y W).evolve J rfl fun _ _ _=>⟨rfl,fun _=>rfl,rfl⟩
 ·obtain⟨_,h1⟩:=hold _ _ O;obtain⟨_,h2⟩:=hold _ _ I;exact hi.inj i j _ _ b c c' h1 h2 hm Y
 ·obtain⟨_,h1⟩:=hold _ _ O;exact hi.own i _ b c h1 hm
theorem Sub.varC {kf:List Nat}{st:St}{x tv:Nat}{rs:List R}(l:List C) (h:st.h x=some (.var tv rs)) (hl:R.toCL rs=some l):Sub kf ⟨st.e,upd st.h x (some (.var tv (l.map R.c))),st.d⟩ st:=
 Sub.varRe h fun _ _ vs k=>(aW.toC rs l vs hl k).rrel
theorem Step.retell {P:Program}{n:Nat}{o:Oper}{st:St}{rd:Rd}{f:Eff}(t:Nat) {u I:V}(h:st.e t=some u) (hu:∀S μ H v,aZ S μ H u v↔aZ S μ H I v) (hs:Step P n o ⟨upd st.e t (some I),st.h,st.d⟩ rd f) (ht:t∈rd.e):Step P n o st rd f:=by
 intro st' ha G S μ a w K Q O hk;have Y:st'.e t=some u:=(ha.1 t ht).trans h;refine hs ⟨upd st'.e t (some I),st'.h,st'.d⟩ ⟨fun s hs=>?_,ha.2⟩ G S μ a w K Q ?_ fun S1 aa a1 w1 h1=>hk S1 aa a1 w1 ?_
 ·show upd st'.e t (some I) s=upd st.e t (some I) s;by_cases e:s=t
  ·subst e;rw[aI,aI]
  ·rw[aS _ _ _ e,aS _ _ _ e];exact ha.1 s hs
 ·refine⟨O.inv,O.size,O.defers,fun s v e=>?_⟩;by_cases J:s=t
  ·subst J;have e':I=v:=by
    have:some I=some v:=by rw[←e];exact(aI _ _ _).symm
    cases this;rfl
   subst e';exact(hu _ _ _ _).1 (O.env s _ Y)
  ·exact O.env s v (by rw[←e];exact(aS _ _ _ J).symm)
 ·refine⟨h1.inv,h1.size,h1.defers,fun s v e=>?_⟩;obtain⟨fd,fh⟩:=f;cases fd with
  | none=>
   by_cases J:s=t
   ·subst J;have e0:st'.e s=some v:=e;rw[Y] at e0;cases e0;exact(hu _ _ _ _).2 (h1.env s I (aI _ _ _))
   ·exact h1.env s v (by rw[←e];exact aS _ _ _ J)
  | some q=>
   obtain⟨d,Z⟩:=q;by_cases W:s=d
   ·subst W;refine h1.env s v ?_;have e0:upd st'.e s Z s=some v:=e;show upd (upd st'.e t (some I)) s Z s=some v;rw[aI] at e0 ⊢;exact e0
   ·have e0:upd st'.e d Z s=some v:=e;rw[aS _ _ _ W] at e0;by_cases J:s=t
    ·subst J;rw[Y] at e0;cases e0;refine(hu _ _ _ _).2 (h1.env s I ?_);show upd (upd st'.e s (some I)) d Z s=some I;rw[aS _ _ _ W,aI]
    ·refine h1.env s v ?_;show upd (upd st'.e t (some I)) d Z s=some v;rw[aS _ _ _ W,aS _ _ _ J];exact e0
theorem aS3 {f:FuncId}{l:List C}:∀S μ H v,aZ S μ H (.one (.c (.clo f l))) v↔aZ S μ H (.one (.clo f (l.map R.c))) v:=fun S μ H v=>by
 simp only[aZ,b9,Rep];exact⟨fun⟨vs,h1,h2⟩=>⟨vs,h1,h2.rrel⟩,fun⟨vs,h1,h2⟩=>⟨vs,h1,h2.pure⟩⟩
theorem aOw {f:FuncId}:∀S μ H v,aZ S μ H (.one (.c (.fn f))) v↔aZ S μ H (.one (.clo f [])) v:=fun S μ H v=>by
 simp only[aZ,b9,Rep,aW];exact⟨fun h=>⟨[],h,rfl⟩,fun⟨vs,h1,h2⟩=>by rw[h1,h2]⟩
section
variable {P:Program}{n:Nat}{ops:Array Oper}{draw:Bool}{k d:Nat}{st:St}{pre:REs}{Q:St→Prop}{o:Oper}{f:FuncId}{xs:Array Operand}{ts:Array TypeId}{ids:List Nat}{args:List V}{res:V}{hin hout:List (Nat×AObj)}
theorem kvC {x:Operand}{s:Nat}{l:List C}(hf:aU P f (args++(l.map R.c).map V.one) hin res hout)
  (hk:k9 P n ops draw (k+1) ⟨upd st.e d (some res),updL st.h (outs hout),st.d⟩ ((⟨opr x++dD xs.toList,ids++keys hin++keys hout⟩,⟨some (d,some res),outs hout⟩)::pre) Q)
  (hb:jZ P f:=by exact sB (by kernel_rfl)) (O:ops[k]?=some o:=by rfl) (W:o.guard=none:=by rfl) (I:o.op=.call { callee:=.value x,args:=xs,argTypes:=ts }:=by rfl) (hd:o.dst=some d:=by rfl) (J:Nat.blt d n=true:=by rfl) (q:x=.tmp s:=by rfl) (hx:st.e s=some (.one (.c (.clo f l))):=by rfl)
  (ha:ArgsV ⟨upd st.e s (some (.one (.clo f (l.map R.c)))),st.h,st.d⟩ ids xs.toList args:=by repeat (first | exact .nil | (apply Go.AM.ArgsV.cons rfl;(first | exact .refl | exact .one (.c .nl .nil) | exact .one (.c .sn .nil) | exact .one (.hs rfl (by first | rfl | simp) (by first | rfl | (simp;done) | (simp[Go.AM.take_map];done) | exact Go.AM.take_map.symm) .nil) | exact Go.AM.hs_all rfl rfl (by first | rfl | assumption | (simp;done) | (simp;omega)) (by first | rfl | assumption | (simp;done)) | ((first | apply Go.AM.Conv.pa | apply Go.AM.Conv.agg);repeat (first | exact .nil | apply Go.AM.PureL.c .refl | apply Go.AM.PureL.c .nl | apply Go.AM.PureL.c .sn | (apply Go.AM.PureL.hs;rfl;(first | rfl | simp);(first | rfl | (simp;done) | (simp[Go.AM.take_map];done) | exact Go.AM.take_map.symm))))))))
  (hin':eJ (fun p=>st.h p.1=some p.2) hin:=by repeat (first | exact trivial | refine⟨rfl,?_⟩)) (hout':eJ (fun p=>p.1∈keys hin∨st.h p.1=none) hout:=by repeat (first | exact trivial | refine⟨.inr rfl,?_⟩ | refine⟨.inl (by decide),?_⟩ | refine⟨.inl (by repeat (first | exact List.Mem.head _ | apply List.Mem.tail)),?_⟩)) (hok:jJ (args++(l.map R.c).map V.one) hin=true:=by rfl):k9 P n ops draw k st pre Q:=
 k_ (g_ O W (Step.retell s hx aS3 (xY hin hout hb I hd (fU J) (by subst q;exact aI _ _ _) hf ha hin' hout' hok) (by subst q;simp[opr]))) hk
theorem kvF {x:Operand}{s:Nat}(hf:aU P f (args++(([]:List R)).map V.one) hin res hout)
  (hk:k9 P n ops draw (k+1) ⟨upd st.e d (some res),updL st.h (outs hout),st.d⟩ ((⟨opr x++dD xs.toList,ids++keys hin++keys hout⟩,⟨some (d,some res),outs hout⟩)::pre) Q)
  (hb:jZ P f:=by exact sB (by kernel_rfl)) (O:ops[k]?=some o:=by rfl) (W:o.guard=none:=by rfl) (I:o.op=.call { callee:=.value x,args:=xs,argTypes:=ts }:=by rfl) (hd:o.dst=some d:=by rfl) (J:Nat.blt d n=true:=by rfl) (q:x=.tmp s:=by rfl) (hx:st.e s=some (.one (.c (.fn f))):=by rfl)
  (ha:ArgsV ⟨upd st.e s (some (.one (.clo f (([]:List R))))),st.h,st.d⟩ ids xs.toList args:=by repeat (first | exact .nil | (apply Go.AM.ArgsV.cons rfl;(first | exact .refl | exact .one (.c .nl .nil) | exact .one (.c .sn .nil) | exact .one (.hs rfl (by first | rfl | simp) (by first | rfl | (simp;done) | (simp[Go.AM.take_map];done) | exact Go.AM.take_map.symm) .nil) | exact Go.AM.hs_all rfl rfl (by first | rfl | assumption | (simp;done) | (simp;omega)) (by first | rfl | assumption | (simp;done)) | ((first | apply Go.AM.Conv.pa | apply Go.AM.Conv.agg);repeat (first | exact .nil | apply Go.AM.PureL.c .refl | apply Go.AM.PureL.c .nl | apply Go.AM.PureL.c .sn | (apply Go.AM.PureL.hs;rfl;(first | rfl | simp);(first | rfl | (simp;done) | (simp[Go.AM.take_map];done) | exact Go.AM.take_map.symm))))))))
  (hin':eJ (fun p=>st.h p.1=some p.2) hin:=by repeat (first | exact trivial | refine⟨rfl,?_⟩)) (hout':eJ (fun p=>p.1∈keys hin∨st.h p.1=none) hout:=by repeat (first | exact trivial | refine⟨.inr rfl,?_⟩ | refine⟨.inl (by decide),?_⟩ | refine⟨.inl (by repeat (first | exact List.Mem.head _ | apply List.Mem.tail)),?_⟩)) (hok:jJ (args++(([]:List R)).map V.one) hin=true:=by rfl):k9 P n ops draw k st pre Q:=
 k_ (g_ O W (Step.retell s hx aOw (xY hin hout hb I hd (fU J) (by subst q;exact aI _ _ _) hf ha hin' hout' hok) (by subst q;simp[opr]))) hk
theorem a7i {x:Operand}{s j t:Nat}{want b:Bool}(hf:aU P f (args++(([]:List R)).map V.one) hin res hout)
  (hk:k9 P n ops draw (k+1) ⟨upd st.e d (some res),updL st.h (outs hout),st.d⟩ ((⟨t::(opr x++dD xs.toList),ids++keys hin++keys hout⟩,⟨some (d,some res),outs hout⟩)::pre) Q)
  (hb:jZ P f:=by exact sB (by kernel_rfl)) (W:ops[k]?=some o:=by rfl) (Y:o.guard=some (j,want):=by rfl) (Z:(ops[j]?).bind (·.dst)=some t:=by rfl) (I:st.e t=some (.one (.c (.bool b))):=by rfl) (hw:b=want:=by first | rfl | assumption) (J:o.op=.call { callee:=.value x,args:=xs,argTypes:=ts }:=by rfl) (hd:o.dst=some d:=by rfl) (O:Nat.blt d n=true:=by rfl) (q:x=.tmp s:=by rfl) (hx:st.e s=some (.one (.c (.fn f))):=by rfl)
  (ha:ArgsV ⟨upd st.e s (some (.one (.clo f (([]:List R))))),st.h,st.d⟩ ids xs.toList args:=by repeat (first | exact .nil | (apply Go.AM.ArgsV.cons rfl;(first | exact .refl | exact .one (.c .nl .nil) | exact .one (.c .sn .nil) | exact .one (.hs rfl (by first | rfl | simp) (by first | rfl | (simp;done) | (simp[Go.AM.take_map];done) | exact Go.AM.take_map.symm) .nil) | exact Go.AM.hs_all rfl rfl (by first | rfl | assumption | (simp;done) | (simp;omega)) (by first | rfl | assumption | (simp;done)) | ((first | apply Go.AM.Conv.pa | apply Go.AM.Conv.agg);repeat (first | exact .nil | apply Go.AM.PureL.c .refl | apply Go.AM.PureL.c .nl | apply Go.AM.PureL.c .sn | (apply Go.AM.PureL.hs;rfl;(first | rfl | simp);(first | rfl | (simp;done) | (simp[Go.AM.take_map];done) | exact Go.AM.take_map.symm))))))))
  (hin':eJ (fun p=>st.h p.1=some p.2) hin:=by repeat (first | exact trivial | refine⟨rfl,?_⟩)) (hout':eJ (fun p=>p.1∈keys hin∨st.h p.1=none) hout:=by repeat (first | exact trivial | refine⟨.inr rfl,?_⟩ | refine⟨.inl (by decide),?_⟩ | refine⟨.inl (by repeat (first | exact List.Mem.head _ | apply List.Mem.tail)),?_⟩)) (hok:jJ (args++(([]:List R)).map V.one) hin=true:=by rfl):k9 P n ops draw k st pre Q:=
 k_ (GStep.yes W Y Z I hw (Step.retell s hx aOw (xY hin hout hb J hd (fU O) (by subst q;exact aI _ _ _) hf ha hin' hout' hok) (by subst q;simp[opr]))) hk
end
theorem TIok.func {P:Program}{t:TypeId}{i:TI}(h:TIok P t i) (hk:i.k=.fn):∃ps rs v,P.underlying t=some (.func ps rs v):=by
 obtain⟨inf,d,z,h1,h2,h3,h4,h5,q,I,J⟩:=h.ex;rw[hk] at h5;cases d<;>simp[TK.fits] at h5;exact⟨_,_,_,h2⟩
def aYa:V→Option Bool
 | .one (.c (.zv 1))=>some true
 | .one (.c (.fn _))=>some false
 | .one (.c (.clo _ _))=>some false
 | .one (.clo _ _)=>some false
 | _=>none
theorem aOv {S:Sto}{μ:Mu}{H:cK}{v:V}{u:Value}{b:Bool}(h:aZ S μ H v u) (hb:aYa v=some b):(b=true∧u=.nilFunc)∨(b=false∧∃f x y,u=.func f x y):=by
 unfold aYa at hb;split at hb
 ·cases hb;simp only[aZ,b9,Rep,aWn] at h;exact .inl ⟨rfl,h⟩
 ·cases hb;simp only[aZ,b9,Rep] at h;exact .inr ⟨rfl,_,_,_,h⟩
 ·cases hb;simp only[aZ,b9,Rep] at h;obtain⟨vs,h,_⟩:=h;exact .inr ⟨rfl,_,_,_,h⟩
 ·cases hb;simp only[aZ,b9] at h;obtain⟨vs,h,_⟩:=h;exact .inr ⟨rfl,_,_,_,h⟩
 ·cases hb
section
variable {P:Program}{n:Nat}{o:Oper}{st:St}{d:Nat}{T:TT}
theorem aLx {t:TypeId}{ps rs:Array TypeId}{q:Bool}(hu:P.underlying t=some (.func ps rs q)) (d:Nat) (w:World):(Op.equalIn (d+1) t .nilFunc .nilFunc).run P w=.ok true w:=by
 simp only[Op.equalIn,Ag,Ap hu w,ω,Ai]
theorem aLw {t:TypeId}{ps rs:Array TypeId}{q:Bool}(hu:P.underlying t=some (.func ps rs q)) (d:Nat) (f:Fn) (x y:Array Value) (w:World):(Op.equalIn (d+1) t (.func f x y) .nilFunc).run P w=.ok false w:=by
 simp only[Op.equalIn,Ag,Ap hu w,ω,Ai]
theorem aUu {q ty:TypeId}{i:TI}{x y:Operand}{v:V}{b:Bool}(O:Tok P T) (I:o.op=.binOp .neq q x y ty) (hd:o.dst=some d) (J:d<n) (hi:T[q]?=some (some i)) (hk:i.k=.fn) (hx:opv st x=some v) (W:aYa v=some b) (Y:opv st y=some (.one (.c (.zv 1)))):
  Step P n o st ⟨opr x++opr y,[]⟩ ⟨some (d,some (B (!b))),[]⟩:=by
 refine Step.value hd J fun _ ha _ _ _ ac w hs=>?_
 have h2:=aQ hs Y (eI ha).2;simp only[aZ,b9,Rep,aWn] at h2;obtain⟨ps,rs,Z,hu⟩:=(O.get hi).func hk;rcases aOv (aQ hs hx (eI ha).1) W with⟨rfl,h1⟩ | ⟨rfl,f,c1,c2,h1⟩
 ·exact⟨.bool (!true),xS I h1 h2 (gD _ _ _ _ _ _ _ rfl) rfl (aLx hu _ _),by simp[aZ,b9,Rep]⟩
 ·exact⟨.bool (!false),xS I h1 h2 (gD _ _ _ _ _ _ _ rfl) rfl (aLw hu _ _ _ _ _),by simp[aZ,b9,Rep]⟩
end
end Go.AM
namespace Go.Proofs.YtglfogjcijokpaaGreatDoor
open Go Go.AM
set_option maxRecDepth 20000
def opC (h g:FuncId):List C:=[.clo h [.pt [.fn g]],.zv 1]
theorem aTd (g:FuncId):aU Tryz.prog 82 [.one (.c (.fn g))] [] (.pa (opC 83 g)) []:=by
 refine bL (n:=5) tok Tryz.func82 rfl rfl rfl ?_;refine sgh [(0,.id 601)] rfl (sg rfl (AWp.sub (Sub.fvar (id:=601) (l:=[.fn g]) rfl (by simp[keys])) ?_));refine AWp.sub (Sub.varC (x:=2) (opC 83 g) rfl rfl) ?_;exact aF (rtC trw)
theorem a3s (g:FuncId):aU Tryz.prog 84 [.one (.c (.fn g))] [] (.pa (opC 85 g)) []:=by
 refine bL (n:=5) tok Tryz.func84 rfl rfl rfl ?_;refine sgh [(0,.id 601)] rfl (sg rfl (AWp.sub (Sub.fvar (id:=601) (l:=[.fn g]) rfl (by simp[keys])) ?_));refine AWp.sub (Sub.varC (x:=2) (opC 85 g) rfl rfl) ?_;exact aF (rtC trw)
def aXq:List C:=[.clo 83 [.pt [.fn 87]],.fn 88]
def uS:List (List C):=[
 .str aVc::opC 83 89,
 .str aU9::opC 83 90,
 .str aVb::opC 83 91,
 .str aKk::aXq,
 .str nEq::opC 85 92,
 .str nLt::opC 85 93]
def a61:C:=.mp true ([]::uS)
theorem oS:iA uS:=trivial
theorem aNa:uniq uS:=by
 intro k cs h;simp only[uS,Ah,Ca,C8,List.cons.injEq,C.str.injEq] at h;rcases h with⟨rfl,rfl⟩ | ⟨rfl,rfl⟩ | ⟨rfl,rfl⟩ | ⟨rfl,rfl⟩ | ⟨rfl,rfl⟩ | ⟨rfl,rfl⟩<;>rfl
theorem a3r:aU Tryz.prog 41 [] [] (.one (.c a61)) []:=by
 refine bL (n:=20) tok Tryz.func41 rfl rfl rfl ?_;refine sg rfl (sg rfl (sg rfl (sk 1 rfl (kv (args:=[.one (.c (.fn 87))]) (caps:=[]) (aTd _) ?_ (ha:=.cons rfl (.one (.fn .nil)) .nil)))));refine kz 2 rfl (sg rfl (a8 (aE mixed (k_ (g_ rfl rfl (aJb (d:=7) (id:=620) (agg:=true) (T:=uS) (by simp[uS]) rfl rfl (fU rfl) rfl)) ?_))));refine ak 1 [] rfl (kv (args:=[.one (.c (.fn 89))]) (caps:=[]) (aTd _) ?_ (ha:=.cons rfl (.one (.fn .nil)) .nil));refine k_ (g_ rfl rfl (kD (id:=620) (tid:=621) (agg:=true) (Tr:=uS) tok rfl rfl (tg rfl) rfl (tg rfl) rfl rfl rfl oS rfl rfl rfl rfl rfl .of_pure (.head _))) ?_;refine ak 1 [] rfl (kv (args:=[.one (.c (.fn 90))]) (caps:=[]) (aTd _) ?_ (ha:=.cons rfl (.one (.fn .nil)) .nil));refine k_ (g_ rfl rfl (kD (id:=620) (tid:=622) (agg:=true) (Tr:=uS) tok rfl rfl (tg rfl) rfl (tg rfl) rfl rfl rfl oS rfl rfl rfl rfl rfl .of_pure (.tail _ (.head _)))) ?_;refine ak 1 [] rfl (kv (args:=[.one (.c (.fn 91))]) (caps:=[]) (aTd _) ?_ (ha:=.cons rfl (.one (.fn .nil)) .nil));refine k_ (g_ rfl rfl (kD (id:=620) (tid:=623) (agg:=true) (Tr:=uS) tok rfl rfl (tg rfl) rfl (tg rfl) rfl rfl rfl oS rfl rfl rfl rfl rfl .of_pure (.tail _ (.tail _ (.head _))))) ?_;refine ak 1 [] rfl (k_ (g_ rfl rfl (kD (id:=620) (tid:=624) (agg:=true) (Tr:=uS) tok rfl rfl (tg rfl) rfl (tg rfl) rfl rfl rfl oS rfl rfl rfl rfl rfl (.c .refl (.fn .nil)) (.tail _ (.tail _ (.tail _ (.head _)))))) ?_);refine ak 1 [] rfl (kv (args:=[.one (.c (.fn 92))]) (caps:=[]) (a3s _) ?_ (ha:=.cons rfl (.one (.fn .nil)) .nil));refine k_ (g_ rfl rfl (kD (id:=620) (tid:=625) (agg:=true) (Tr:=uS) tok rfl rfl (tg rfl) rfl (tg rfl) rfl rfl rfl oS rfl rfl rfl rfl rfl .of_pure (.tail _ (.tail _ (.tail _ (.tail _ (.head _))))))) ?_;refine ak 1 [] rfl (kv (args:=[.one (.c (.fn 93))]) (caps:=[]) (a3s _) ?_ (ha:=.cons rfl (.one (.fn .nil)) .nil));refine k_ (g_ rfl rfl (kD (id:=620) (tid:=626) (agg:=true) (Tr:=uS) tok rfl rfl (tg rfl) rfl (tg rfl) rfl rfl rfl oS rfl rfl rfl rfl rfl .of_pure (.tail _ (.tail _ (.tail _ (.tail _ (.tail _ (.head _)))))))) ?_;refine kz 2 rfl (AWp.sub (Sub.fmapU (id:=620) (agg:=true) (T:=uS) rfl (by simp[keys]) (by simp[uS]) fun k cs h=>?_) ?_)
 ·simp only[uS,Ah,Ca,C8,List.cons.injEq,C.str.injEq] at h;rcases h with⟨rfl,_⟩ | ⟨rfl,_⟩ | ⟨rfl,_⟩ | ⟨rfl,_⟩ | ⟨rfl,_⟩ | ⟨rfl,_⟩
  ·exact⟨621,rfl⟩
  ·exact⟨622,rfl⟩
  ·exact⟨623,rfl⟩
  ·exact⟨624,rfl⟩
  ·exact⟨625,rfl⟩
  ·exact⟨626,rfl⟩
 exact aF rtT
end Go.Proofs.YtglfogjcijokpaaGreatDoor
