/-
  Texts Ly6 to Li8 in one.
-/
import Derived.Test.YtglfogjcijokpaaGreatDoorM10
import Derived.Shelf.Strconv.Itoa3
import Derived.Lib.LaidTab
open List (append_assoc append_nil drop_left drop_zero flatMap_append flatMap_cons flatMap_nil foldl_append length_append length_cons length_drop length_eq_zero_iff length_map length_nil length_range length_set length_take length_zip map_append map_congr_left map_cons map_map map_nil map_set mem_append mem_cons mem_cons_of_mem mem_cons_self mem_filter mem_flatMap mem_map mem_of_mem_drop mem_of_mem_take mem_range mem_singleton nil_append nodup_range sum_cons sum_nil take_add_one take_left take_length take_of_length_le take_succ_cons take_zero)
open Nat (add_assoc add_mul le_mul_of_pos_right le_refl le_trans lt_of_le_of_lt lt_of_lt_of_le mul_le_mul_right zero_le)
namespace Go.Proofs.YtglfogjcijokpaaGreatDoor
open Go Go.AM
set_option maxRecDepth 20000
set_option maxHeartbeats 4000000
theorem wY {G:List Str}{x:Str}:∀{l o:List Str},x∈pfP G o l→x∈o∨(x∈l∧¬x∈G)
 | [],o,h=>.inl h
 | y::l,o,h=>by
  rcases wY (l:=l) (o:=pfG G o y) h with h | ⟨h,q⟩
  ·unfold pfG at h;split at h
   ·exact .inl h
   ·rename_i I;rcases x8.1 h with h | h
    ·exact .inl h
    ·exact .inr ⟨by rw[h];exact η,by rw[h];exact I⟩
  ·exact .inr ⟨ω _ h,q⟩
theorem aFj {G:List Str}{x:Str}:∀{l:List Core}{o:List Str},x∈r7 G l o→x∈o∨∃c∈l,x∈pfR c∧¬x∈G
 | [],o,h=>by rw[r7] at h;exact .inl h
 | c::l,o,h=>by
  rw[r7] at h;rcases aFj h with h | ⟨d,hd,h⟩
  ·rcases wY h with h | h
   ·exact .inl h
   ·exact .inr ⟨c,η,h⟩
  ·exact .inr ⟨d,ω _ hd,h⟩
theorem aFl {G:List Str}{x:Str}:∀{l:List Bind}{o:List Str},x∈tL G l o→x∈o∨∃c∈l,x∈pfR c.body∧¬x∈G
 | [],o,h=>by rw[tL] at h;exact .inl h
 | .mk s t c::l,o,h=>by
  rw[tL] at h;rcases aFl h with h | ⟨d,hd,h⟩
  ·rcases wY h with h | h
   ·exact .inl h
   ·exact .inr ⟨.mk s t c,η,h⟩
  ·exact .inr ⟨d,ω _ hd,h⟩
theorem aFn {x:Str}:∀{l:List Alt}{o:List Str},x∈tU l o→x∈o∨∃a∈l,x∈pfR a.body∧¬x∈a.vars
 | [],o,h=>by rw[tU] at h;exact .inl h
 | .mk f n s v c::l,o,h=>by
  rw[tU] at h;rcases aFn h with h | ⟨d,hd,h⟩
  ·rcases wY h with h | h
   ·exact .inl h
   ·exact .inr ⟨.mk f n s v c,η,h⟩
  ·exact .inr ⟨d,ω _ hd,h⟩
section
variable {f n:Int}{nm:Str}{t:Ty}{ks:List Core}{bs:List Bind}{al:List Alt}{x:Str}
theorem dU (hf:f≠1):x∈pfR (.mk f n nm t ks bs al)↔(∃p∈ks++bs.map Bind.body,x∈pfR p∧¬x∈gvN f nm bs)∨∃a∈al,x∈pfR a.body∧¬x∈a.vars:=by
 constructor
 ·intro h;rw[pfR,φ hf] at h;rcases aFn h with h | h
  ·rcases aFl h with h | ⟨b,hb,h⟩
   ·rcases aFj h with h | ⟨c,hc,h⟩
    ·cases h
    ·exact .inl ⟨c,δ.2 (.inl hc),h⟩
   ·exact .inl ⟨b.body,δ.2 (.inr (Af.2 ⟨b,hb,rfl⟩)),h⟩
  ·exact .inr h
 ·rintro(⟨p,hp,h1,h2⟩ | ⟨a,ha,h1,h2⟩)
  ·rw[pfR,φ hf];refine aCy ?_;rcases δ.1 hp with hp | hp
   ·exact aCx (aFi hp h1 h2)
   ·obtain⟨b,hb,rfl⟩:=Af.1 hp;exact aFk hb h1 h2
  ·rw[pfR,φ hf];exact aFm ha h1 h2
end
mutual
def mS (σ:Str→Nat):Core→Nat
 | .mk f _ s _ ks bs al=>(if f=1 then σ s else 1+w30 s)+mSs σ ks+mSb σ bs+mSa σ al
def mSs (σ:Str→Nat):List Core→Nat
 | []=>0
 | c::l=>mS σ c+mSs σ l
def mSb (σ:Str→Nat):List Bind→Nat
 | []=>0
 | .mk s _ c::l=>1+w30 s+mS σ c+mSb σ l
def mSa (σ:Str→Nat):List Alt→Nat
 | []=>0
 | .mk _ _ s vs c::l=>1+w30 s+(vs.map fun v=>1+w30 v).sum+mS σ c+mSa σ l
end
mutual
theorem aAa {σ:Str→Nat}(h:∀s,1+w30 s≤σ s):∀c:Core,m30 c≤mS σ c
 | .mk f n s t ks bs al=>by
  rw[m30,mS];have:=aLx h ks;have:=aLy h bs;have:=aLz h al;have:=h s;split<;>omega
theorem aLx {σ:Str→Nat}(h:∀s,1+w30 s≤σ s):∀l:List Core,dI l≤mSs σ l
 | []=>le_refl _
 | c::l=>by rw[dI,mSs];have:=aAa h c;have:=aLx h l;omega
theorem aLy {σ:Str→Nat}(h:∀s,1+w30 s≤σ s):∀l:List Bind,gM l≤mSb σ l
 | []=>le_refl _
 | .mk s t c::l=>by rw[gM,mSb];have:=aAa h c;have:=aLy h l;omega
theorem aLz {σ:Str→Nat}(h:∀s,1+w30 s≤σ s):∀l:List Alt,j2 l≤mSa σ l
 | []=>le_refl _
 | .mk f n s v c::l=>by rw[j2,mSa];have:=aAa h c;have:=aLz h l;omega
end
mutual
theorem a1a {σ:Str→Nat}{B:Nat}(q:1≤B) (h:∀s,σ s≤(1+w30 s)*B):∀c:Core,mS σ c≤m30 c*B
 | .mk f n s t ks bs al=>by
  rw[m30,mS,Ay,Ay,Ay];have:=aY7 q h ks;have:=aY9 q h bs;have:=aZa q h al;have:=h s;have:1+w30 s≤(1+w30 s)*B:=Bb _ q;split<;>omega
theorem aY7 {σ:Str→Nat}{B:Nat}(q:1≤B) (h:∀s,σ s≤(1+w30 s)*B):∀l:List Core,mSs σ l≤dI l*B
 | []=>by rw[mSs];exact Aj _
 | c::l=>by rw[dI,mSs,Ay];have:=a1a q h c;have:=aY7 q h l;omega
theorem aY9 {σ:Str→Nat}{B:Nat}(q:1≤B) (h:∀s,σ s≤(1+w30 s)*B):∀l:List Bind,mSb σ l≤gM l*B
 | []=>by rw[mSb];exact Aj _
 | .mk s t c::l=>by
  rw[gM,mSb,Ay,Ay];have:=a1a q h c;have:=aY9 q h l;have:1+w30 s≤(1+w30 s)*B:=Bb _ q;omega
theorem aZa {σ:Str→Nat}{B:Nat}(q:1≤B) (h:∀s,σ s≤(1+w30 s)*B):∀l:List Alt,mSa σ l≤j2 l*B
 | []=>by rw[mSa];exact Aj _
 | .mk f n s v c::l=>by
  rw[j2,mSa,Ay,Ay];have:=a1a q h c;have:=aZa q h l;have:1+w30 s+(v.map fun v=>1+w30 v).sum≤(1+w30 s+(v.map fun v=>1+w30 v).sum)*B:=Bb _ q;omega
end
structure Sg (σ:Str→Nat):Prop where
 ge:∀s,1+w30 s≤σ s
 fr:∀l,(b9 l).length≤30→σ (b9 l)≤31
section
variable {σ:Str→Nat}
theorem a2d {z:Str}:mS σ (vC z)=σ z:=by unfold vC;rw[mS,ξ rfl,mSs,mSb,mSa];rfl
theorem aLu {g:Core→Core}:∀{l:List Core},(∀x∈l,mS σ (g x)≤mS σ x)→mSs σ (l.map g)≤mSs σ l
 | [],_=>le_refl _
 | c::l,h=>by
  rw[Al,mSs,mSs];have:=h c η;have:=aLu (l:=l) fun x hx=>h x (ω _ hx)
  omega
theorem aLv {ts:Ty→Ty}{g:Core→Core}:∀{l:List Bind},(∀x∈l,mS σ (g x.body)≤mS σ x.body)→mSb σ (l.map fun b=>.mk b.name (ts b.ty) (g b.body))≤mSb σ l
 | [],_=>le_refl _
 | .mk s t c::l,h=>by
  rw[Al,mSb,mSb];have h1:=h _ η;have h2:=aLv (ts:=ts) (l:=l) fun x hx=>h x (ω _ hx)
  simp only[Bind.body,Bind.name] at h1 h2 ⊢;omega
theorem aLw {g:Core→Core}:∀{l:List Alt},(∀x∈l,mS σ (g x.body)≤mS σ x.body)→mSa σ (l.map fun a=>.mk a.form a.n a.name a.vars (g a.body))≤mSa σ l
 | [],_=>le_refl _
 | .mk f n s vs c::l,h=>by
  rw[Al,mSa,mSa];have h1:=h _ η;have h2:=aLw (l:=l) fun x hx=>h x (ω _ hx)
  simp only[Alt.body,Alt.name,Alt.vars] at h1 h2 ⊢;omega
theorem aS4 {ts:Ty→Ty}{sb:Core→Core}{f n:Int}{nm nm1:Str}{t:Ty}{ks ks1:List Core}{bs:List Bind}{al:List Alt}(q:f=1→nm1=nm) (hn:w30 nm1≤w30 nm) (hk:mSs σ ks1≤mSs σ ks)
  (h1:∀x∈ks1,mS σ (sb x)≤mS σ x) (h2:∀b∈bs,mS σ (sb b.body)≤mS σ b.body) (h3:∀a∈al,mS σ (sb a.body)≤mS σ a.body):
  mS σ (fQ ts sb (.mk f n nm1 t ks1 bs al))≤mS σ (.mk f n nm t ks bs al):=by
 rw[fQ,mS,mS];have:=aLu h1;have:=aLv (ts:=ts) h2;have:=aLw h3;by_cases e:f=1
 ·rw[ξ e,ξ e,q e];omega
 ·rw[φ e,φ e];omega
end
theorem kS:∀(k:Nat) (c:Core) (name:Str) (u:Ty),skT (sTR k c name u)=skT c
 | 0,c,_,_=>rfl
 | k+1,.mk f n nm t ks bs al,name,u=>by
  rw[sTR];split
  ·rfl
  ·split
   ·rename_i h;refine aJx (fun h7=>absurd h.1 h7) ?_ (fun x _=>kS k x name u) (fun b _=>kS k b.body name u) (fun a _=>kS k a.body name u);rw[Bj];exact Bk fun x _=>kS k x nm _
   ·exact aJx (fun _=>rfl) rfl (fun x _=>kS k x name u) (fun b _=>kS k b.body name u) (fun a _=>kS k a.body name u)
theorem aYw (k:Nat) (c:Core) (name:Str) (u:Ty):pfR (sTR k c name u)=pfR c:=by rw[←aKy,kS,aKy]
theorem aOz (N:dA 540000000000) {D M X:Nat}(J:M+D≤700000) {kid:Core}(g1:CG D M X kid) (g2:(tyR kid).length+2*tlC kid+1≤M) (k:Nat) (hk:m30 kid≤k) (nm z:Str):CG D M X (sTR k kid nm (vT z)):=by
 have I:=aDj N J k kid hk g1 nm (vT z) (UOk.var z);refine⟨I.q,?_,?_,le_trans I.sz g1.sz⟩
 ·have:=I.cw jS 0 r0;have e:tW jS (vT z) r0=0:=rfl;rw[e,aJ3] at this;exact le_trans this g1.dep
 ·have h1:=dP (a:=z::tyR kid) (c:=sTR k kid nm (vT z)) fun x hx=>by
   rcases I.ty x hx with h | h
   ·exact ω _ h
   ·rw[tT] at h;rw[ζ.1 h];exact η
  rw[Ak] at h1;have h2:=I.tl;omega
theorem aZb (O:dA 540000000000) {D M X:Nat}(I:M+D≤700000) {σ:Str→Nat}:∀(k:Nat) (c:Core),m30 c≤k→CG D M X c→∀(name:Str) (u:Ty),UOk u→mS σ (sTR k c name u)≤mS σ c:=by
 intro k
 induction k with
 | zero=>intro c h;have:=eY c;omega
 | succ k J=>
 intro c h hc name u hu;obtain⟨f,n,nm,t,ks,bs,al⟩:=c;rw[sTR];split
 ·exact le_refl _
 ·split
  ·rename_i h7;obtain⟨rfl,ab⟩:=h7;obtain⟨⟨kid,rfl⟩,rfl,rfl⟩:=fJ hc.q (.inr (.inr rfl));obtain⟨g1,g2,g3⟩:=hc.kid (x:=kid) η;rw[ξ rfl] at g2;obtain⟨_,Z⟩:=g1.types I;have ac:=oB u;have aa:=hu.fv;have W:[kid].flatMap tyR=tyR kid:=by simp
   rw[W,Al,Bn];have N:(b9 (tfR u++tyR kid)).length≤30:=pK _ (by rw[τ];omega);have h1:=J kid (by omega) g1 nm (vT (b9 (tfR u++tyR kid))) (UOk.var _);have Y:=aOz O I g1 g2 k (by omega) nm (b9 (tfR u++tyR kid));have ad:=(aDj O I k kid (by omega) g1 nm (vT (b9 (tfR u++tyR kid))) (UOk.var _)).sz;have h2:=J _ (by omega) Y name u hu;refine aS4 (fun e=>absurd e (by decide)) (aHf N) (by rw[mSs,mSs,mSs,mSs];omega) (fun x hx=>?_) (fun b hb=>by cases hb) (fun a ha=>by cases ha);rw[ζ.1 hx];exact h2
  ·exact aS4 (fun _=>rfl) (le_refl _) (le_refl _) (fun x hx=>J x (by have:=(hc.kid hx).2.2;omega) (hc.kid hx).1 name u hu) (fun x hx=>J x.body (by have:=(hc.bind hx).2;omega) (hc.bind hx).1 name u hu) (fun x hx=>J x.body (by have:=(hc.alt hx).2;omega) (hc.alt hx).1 name u hu)
def Fr (z:Str):Prop:=∃l,z=b9 l
section
variable {sb:Core→Str→Core→Core}{P:Core→Prop}
theorem xJ {far:List Str}:∀{ns:List Str}{st:List Str×List Core×List Str},(∀x∈st.1,x∈(mF sb far ns st).1)∧∀n∈ns,n∈(mF sb far ns st).1∨n∈far
 | [],st=>⟨fun _ h=>h,fun n hn=>by cases hn⟩
 | n::ns,st=>by
  obtain⟨h1,h2⟩:=xJ (far:=far) (ns:=ns) (st:=eZ sb far st n);have e:mF sb far (n::ns) st=mF sb far ns (eZ sb far st n):=rfl;rw[e];refine⟨fun x hx=>h1 x ?_,fun m hm=>?_⟩
  ·unfold eZ;split<;>exact δ.2 (.inl hx)
  ·rcases Ai.1 hm with rfl | hm
   ·by_cases hf:m∈far
    ·exact .inr hf
    ·refine .inl (h1 m ?_);unfold eZ;rw[φ hf];exact δ.2 (.inr (ζ.2 rfl))
   ·exact h2 m hm
structure RN (p:Core) (out:List Str) (q:Core):Prop where
 pf:∀x∈pfR q,x∈pfR p∨x∈out
 ms:∀σ,Sg σ→mS σ q≤mS σ p
theorem aC5 {far:List Str}(N:∀p n z,P p→Fr z→z.length≤30→P (sb p n (vC z))∧(∀x∈pfR (sb p n (vC z)),x∈pfR p∨x=z)∧∀σ,Sg σ→mS σ (sb p n (vC z))≤mS σ p):
  ∀{ns:List Str} {st:List Str×List Core×List Str},st.2.2.length+ns.length≤540000000000→(∀p∈st.2.1,P p)→A2 (fun p q=>P q∧RN p (mF sb far ns st).1 q) st.2.1 (mF sb far ns st).2.1
 | [],st,_,I=>by
  show A2 (fun p q=>P q∧RN p st.1 q) st.2.1 st.2.1;have key:∀l:List Core,(∀p∈l,P p)→A2 (fun p q=>P q∧RN p st.1 q) l l:=by
   intro l
   induction l with
   | nil=>intro _;exact .nil
   | cons p l ih=>intro h;exact .cons ⟨h p η,fun x hx=>.inl hx,fun _ _=>le_refl _⟩ (ih fun q J=>h q (ω _ J))
  exact key _ I
 | n::ns,st,hl,I=>by
  simp only[Ak] at hl;have W:=sL (sb:=sb) (far:=far) (st:=st) (n:=n);have e:mF sb far (n::ns) st=mF sb far ns (eZ sb far st n):=rfl;rw[e];have hf:(b9 st.2.2).length≤30:=pK _ (by omega);by_cases hn:n∈far
  ·have es:eZ sb far st n=(st.1++[b9 st.2.2],st.2.1.map (fun p=>sb p n (vC (b9 st.2.2))),st.2.2++[b9 st.2.2]):=by unfold eZ;rw[ξ hn]
   rw[es] at W ⊢;have Y:∀p∈st.2.1.map (fun p=>sb p n (vC (b9 st.2.2))),P p:=fun p hp=>by
    obtain⟨q,J,rfl⟩:=Af.1 hp;exact(N q n _ (I q J) ⟨_,rfl⟩ hf).1
   have O:=aC5 N (far:=far) (ns:=ns) (st:=(st.1++[b9 st.2.2],st.2.1.map (fun p=>sb p n (vC (b9 st.2.2))),st.2.2++[b9 st.2.2])) (by omega) Y;have hout:=(xJ (sb:=sb) (far:=far) (ns:=ns) (st:=(st.1++[b9 st.2.2],st.2.1.map (fun p=>sb p n (vC (b9 st.2.2))),st.2.2++[b9 st.2.2]))).1 (b9 st.2.2) (δ.2 (.inr (ζ.2 rfl)))
   generalize mF sb far ns (st.1++[b9 st.2.2],st.2.1.map (fun p=>sb p n (vC (b9 st.2.2))),st.2.2++[b9 st.2.2])=r at O hout ⊢;dsimp only at O;have key:∀(l:List Core) (m:List Core),(∀p∈l,P p)→A2 (fun p q=>P q∧RN p r.1 q) (l.map (fun p=>sb p n (vC (b9 st.2.2)))) m→A2 (fun p q=>P q∧RN p r.1 q) l m:=by
    intro l
    induction l with
    | nil=>intro m _ h;cases h;exact .nil
    | cons p l Z=>
     intro m hp h;cases h with
     | cons h1 h2=>
      obtain⟨_,z2,z3⟩:=N p n _ (hp p η) ⟨_,rfl⟩ hf;refine .cons ⟨h1.1,fun x hx=>?_,fun σ hσ=>le_trans (h1.2.ms σ hσ) (z3 σ hσ)⟩ (Z _ (fun q J=>hp q (ω _ J)) h2);rcases h1.2.pf x hx with h | h
      ·rcases z2 x h with h | h
       ·exact .inl h
       ·exact .inr (by rw[h];exact hout)
      ·exact .inr h
   exact key _ _ I O
  ·have es:eZ sb far st n=(st.1++[n],st.2.1,st.2.2):=by unfold eZ;rw[φ hn]
   rw[es] at W ⊢;exact aC5 N (far:=far) (ns:=ns) (st:=(st.1++[n],st.2.1,st.2.2)) (by omega) I
structure RB (s:Str) (b:Core) (ns out:List Str) (p q:Core):Prop where
 pf:∀x∈pfR q,¬x∈out→(x∈pfR p∧¬x=s∧¬x∈ns)∨x∈pfR b
 ms:∀σ,Sg σ→mS σ b≤σ s→mS σ q≤mS σ p
theorem aKt {s:Str}{b:Core}{ns:List Str}{ps:List Core}(Z:∀p∈ps,P p)
  (hz:∀p n z,P p→Fr z→z.length≤30→P (sb p n (vC z))∧(∀x∈pfR (sb p n (vC z)),x∈pfR p∨x=z)∧∀σ,Sg σ→mS σ (sb p n (vC z))≤mS σ p)
  (hs:∀p,P p→(∀x∈pfR (sb p s b),(x∈pfR p∧¬x=s)∨x∈pfR b)∧∀σ,Sg σ→mS σ b≤σ s→mS σ (sb p s b)≤mS σ p)
  (hl:(ps.flatMap pfR).length+2*ns.length+(pfR b).length≤540000000000):A2 (RB s b ns (dN sb s b ns ps).1) ps (dN sb s b ns ps).2:=by
 unfold dN;split
 ·rename_i hin;have O:=aC5 hz (far:=pfR b) (ns:=ns) (st:=([],ps,ps.flatMap pfR++ns++pfR b)) (by simp only[τ];omega) Z;have ho:=(xJ (sb:=sb) (far:=pfR b) (ns:=ns) (st:=([],ps,ps.flatMap pfR++ns++pfR b))).2
  generalize mF sb (pfR b) ns ([],ps,ps.flatMap pfR++ns++pfR b)=r at O ho ⊢;dsimp only at O ⊢;have key:∀(l m:List Core),A2 (fun p q=>P q∧RN p r.1 q) l m→A2 (RB s b ns r.1) l (m.map fun p=>sb p s b):=by
   intro l m h
   induction h with
   | nil=>exact .nil
   | cons h1 _ J=>
    refine .cons ⟨fun x hx I=>?_,fun σ hσ hb=>le_trans ((hs _ h1.1).2 σ hσ hb) (h1.2.ms σ hσ)⟩ J;rcases(hs _ h1.1).1 x hx with⟨h,Y⟩ | h
    ·rcases h1.2.pf x h with h | h
     ·by_cases N:x∈ns
      ·rcases ho x N with W | W
       ·exact absurd W I
       ·exact .inr W
      ·exact .inl ⟨h,Y,N⟩
     ·exact absurd h I
    ·exact .inr h
  exact key _ _ O
 ·rename_i hin;have key:∀l:List Core,(∀p∈l,p∈ps)→A2 (RB s b ns ns) l l:=by
   intro l
   induction l with
   | nil=>intro _;exact .nil
   | cons p l J=>
    intro h;refine .cons ⟨fun x hx I=>.inl ⟨hx,fun e=>hin ⟨mem_flatMap.2 ⟨p,h p η,by rw[←e];exact hx⟩,by rw[←e];exact I⟩,I⟩,fun _ _ _=>le_refl _⟩ (J fun q hq=>h q (ω _ hq))
  exact key ps fun p hp=>hp
end
section
variable {σ:Str→Nat}
theorem aY8 {l m:List Core}(h:A2 (fun p q=>mS σ q≤mS σ p) l m):mSs σ m≤mSs σ l:=by
 induction h with
 | nil=>exact le_refl _
 | cons r _ I=>rw[mSs,mSs];omega
theorem aS0:∀{ts:List Ty}{ns:List Str}{ps:List Core}{bs:List Bind},A2 (fun(b:Bind) n=>w30 n≤w30 b.name) bs ns→A2 (fun(b:Bind) p=>mS σ p≤mS σ b.body) bs ps→mSb σ (mkB ts ns ps)≤mSb σ bs
 | [],_,_,_,_,_=>by unfold mkB;rw[mSb];exact Aj _
 | t::ts,_,_,_,.nil,.nil=>by unfold mkB;rw[mSb];exact le_refl _
 | t::ts,n::ns,p::ps,.mk s ty c::bs,.cons h1 h2,.cons h3 h4=>by
  unfold mkB;rw[mSb,mSb];have:=aS0 (ts:=ts) h2 h4;have h1:w30 n≤w30 s:=h1;have h3:mS σ p≤mS σ c:=h3;omega
end
structure PL (c:Core) (s:Str) (b r:Core):Prop where
 pf:∀x∈pfR r,(x∈pfR c∧¬x=s)∨x∈pfR b
 ms:∀σ,Sg σ→mS σ b≤σ s→mS σ r≤mS σ c
section
variable {sb:Core→Str→Core→Core}{X:Nat}{s:Str}{b:Core}{f n:Int}{nm:Str}{t:Ty}{ks:List Core}{bs:List Bind}{al:List Alt}
theorem aWw (J:f≠1) (hq:dD (QL X) (.mk f n nm t ks bs al)) (hn:A2 NR (gvN f nm bs) (dN sb s b (gvN f nm bs) (ks++bs.map Bind.body)).1)
  (hg:A2 (RB s b (gvN f nm bs) (dN sb s b (gvN f nm bs) (ks++bs.map Bind.body)).1) (ks++bs.map Bind.body) (dN sb s b (gvN f nm bs) (ks++bs.map Bind.body)).2)
  (ha:∀a∈al,A2 NR a.vars (dN sb s b a.vars [a.body]).1∧A2 (RB s b a.vars (dN sb s b a.vars [a.body]).1) [a.body] (dN sb s b a.vars [a.body]).2):PL (.mk f n nm t ks bs al) s b (tS sb s b (.mk f n nm t ks bs al)):=by
 have hA:∀a∈al,RB s b a.vars (n1 sb s b a).vars a.body (n1 sb s b a).body∧A2 NR a.vars (n1 sb s b a).vars:=fun a W=>by
  obtain⟨g2,g1⟩:=ha a W;refine⟨?_,g2⟩;show RB s b a.vars (dN sb s b a.vars [a.body]).1 a.body ((dN sb s b a.vars [a.body]).2.headD a.body);cases hx:(dN sb s b a.vars [a.body]).2 with
  | nil=>rw[hx] at g1;cases g1
  | cons y l'=>
   rw[hx] at g1;cases g1 with
   | cons h _=>exact h
 have Y:f=5→bs=[]:=fun h5=>(fJ hq (.inl h5)).2.1
 rw[tS];unfold zNm zKs zBs;generalize dN sb s b (gvN f nm bs) (ks++bs.map Bind.body)=r at hg hn ⊢;obtain⟨N,Z⟩:=r;dsimp only at *;have hK:=hg.take ks.length;rw[take_left] at hK;have hB:=hg.drop ks.length;rw[drop_left] at hB;have hBl:(Z.drop ks.length).length=bs.length:=by rw[hB.length,θ]
 have I:=hn.length;have hgv:gvN f (if f=5 then N.headD nm else nm) (mkB (bs.map Bind.ty) N (Z.drop ks.length))=N:=by
  by_cases h5:f=5
  ·have:=Y h5;subst this;unfold gvN at hn I ⊢;rw[ξ h5] at hn I;rw[ξ h5,ξ h5]
   match N,I with
   | [y],_=>show [y]++(mkB [] [y] _).map Bind.name=[y];unfold mkB;rfl
  ·unfold gvN at I ⊢;rw[φ h5,Bd] at I;rw[θ] at I;rw[φ h5,Bd,nX (by rw[θ];exact I) (by rw[θ];exact hBl)]
 refine⟨fun x hx=>?_,fun σ hσ hb=>?_⟩
 ·rcases(dU J).1 hx with⟨q,hq',h1,h2⟩ | ⟨a,W,h1,h2⟩
  ·rw[hgv] at h2;have hqm:q∈Z:=by
    rcases δ.1 hq' with h | h
    ·exact Bx h
    ·obtain⟨y,hy,rfl⟩:=Af.1 h;exact C1 (pE hy).1
   obtain⟨p,hp,hr⟩:=hg.mem q hqm;rcases hr.pf x h1 h2 with⟨g1,g2,g3⟩ | h
   ·exact .inl ⟨(dU J).2 (.inl ⟨p,hp,g1,g3⟩),g2⟩
   ·exact .inr h
  ·obtain⟨a0,ha0,rfl⟩:=Af.1 W;rcases(hA a0 ha0).1.pf x h1 h2 with⟨g1,g2,g3⟩ | h
   ·exact .inl ⟨(dU J).2 (.inr ⟨a0,ha0,g1,g3⟩),g2⟩
   ·exact .inr h
 ·rw[mS,mS,φ J,φ J];have e1:w30 (if f=5 then N.headD nm else nm)≤w30 nm:=by
   split
   ·rename_i hf;unfold gvN at hn;rw[ξ hf] at hn;cases hn with
    | cons h _=>exact h.w
   ·exact le_refl _
  have e2:mSs σ (Z.take ks.length)≤mSs σ ks:=aY8 (A2.mono (fun p q h=>h.ms σ hσ hb) hK);have e3:mSb σ (mkB (bs.map Bind.ty) N (Z.drop ks.length))≤mSb σ bs:=by
   by_cases hf:f=5
   ·have:=Y hf;subst this;show mSb σ (mkB [] _ _)≤_;unfold mkB;rw[mSb];exact Aj _
   ·have h4:=hn;unfold gvN at h4;rw[φ hf,Bd] at h4;exact aS0 (A2.mapL (A2.mono (fun a b h=>h.w) h4)) (A2.mapL (A2.mono (fun p q h=>h.ms σ hσ hb) hB))
  have e4:mSa σ (al.map (n1 sb s b))≤mSa σ al:=by
   clear ha hq
   induction al with
   | nil=>exact le_refl _
   | cons a l ihl=>
    obtain⟨af,an,anm,vs,O⟩:=a;obtain⟨g1,g2⟩:=hA _ η;have:=ihl fun x hx=>hA x (ω _ hx)
    have g3:=g1.ms σ hσ hb;have g4:=aE0 g2;have e:n1 sb s b (Alt.mk af an anm vs O)=.mk af an anm (n1 sb s b (Alt.mk af an anm vs O)).vars (n1 sb s b (Alt.mk af an anm vs O)).body:=rfl;have g3:mS σ (n1 sb s b (Alt.mk af an anm vs O)).body≤mS σ O:=g3;have g4:((n1 sb s b (Alt.mk af an anm vs O)).vars.map fun v=>1+w30 v).sum≤(vs.map fun v=>1+w30 v).sum:=g4;rw[Al,e,mSa,mSa];omega
  omega
end
theorem aT7 (hI:dA 540000000000) {D M X:Nat}(N:M+D≤700000) (hX:31≤X):∀(k:Nat) (c:Core),m30 c≤k→CG D M X c→∀(s:Str) (b:Core),CG D M X b→PL c s b (eQ k c s b):=by
 intro k
 induction k with
 | zero=>intro c h;have:=eY c;omega
 | succ k ih=>
 intro c h hc s b hb;have hBig:Big=250000000000:=rfl;have hsz:=hc.sz;have hszb:=hb.sz;have hpfb:=kI b;obtain⟨hbty,hbtl⟩:=hb.types N;obtain⟨f,n,nm,t,ks,bs,al⟩:=c;have hq:=hc.q;rw[eQ];by_cases hv:f=1∧nm=s
 ·rw[ξ (show(Core.mk f n nm t ks bs al).form=1∧(Core.mk f n nm t ks bs al).name=s from hv)];obtain⟨rfl,rfl⟩:=hv;refine⟨fun x hx=>.inr hx,fun σ hσ I=>le_trans I ?_⟩;rw[mS,ξ rfl];omega
 rw[φ (show ¬((Core.mk f n nm t ks bs al).form=1∧(Core.mk f n nm t ks bs al).name=s) from hv)]
 let P:Core→Prop:=fun x=>m30 x<m30 (.mk f n nm t ks bs al)∧CG D M X x
 have Z:∀p,P p→∀W J,CG D M X J→PL p W J (eQ k p W J):=fun p hp W J I=>ih p (by have:=hp.1;omega) hp.2 W J I
 have Y:∀p,P p→∀W J,CG D M X J→TB X p W J (eQ k p W J):=fun p hp W J I=>aAt hI N hX k p (by have:=hp.1;omega) hp.2 W J I
 have hz:∀p m z,P p→Fr z→z.length≤30→P (eQ k p m (vC z))∧(∀x∈pfR (eQ k p m (vC z)),x∈pfR p∨x=z)∧∀σ,Sg σ→mS σ (eQ k p m (vC z))≤mS σ p:=fun p m z hp hF O=>by
  have hcg:=CG.vC (D:=D) (M:=M) O hX;have h1:=Y p hp m (vC z) hcg;have h2:=h1.r0 O;have h3:=Z p hp m (vC z) hcg;refine⟨⟨lt_of_le_of_lt h2.sz hp.1,h2.cg hp.2 h1.rx.q⟩,fun x hx=>(h3.pf x hx).imp And.left fun h=>?_,fun σ hσ=>h3.ms σ hσ ?_⟩
  ·have:pfR (vC z)=[z]:=rfl;rw[this] at h;exact ζ.1 h
  ·rw[a2d];obtain⟨l,rfl⟩:=hF;have:=hσ.fr l O;have:=hσ.ge m;have:=kP m;omega
 have hzR:∀p m z,P p→z.length≤30→P (eQ k p m (vC z))∧R0 p (eQ k p m (vC z)):=fun p m z hp O=>by
  have h1:=Y p hp m (vC z) (CG.vC O hX);have h2:=h1.r0 O;exact⟨⟨lt_of_le_of_lt h2.sz hp.1,h2.cg hp.2 h1.rx.q⟩,h2⟩
 have hPq:∀p,P p→dD (QL X) p:=fun p hp=>hp.2.q
 have hSR:∀p,P p→RX X b p (eQ k p s b):=fun p hp=>(Y p hp s b hb).rx
 have hs:∀p,P p→(∀x∈pfR (eQ k p s b),(x∈pfR p∧¬x=s)∨x∈pfR b)∧∀σ,Sg σ→mS σ b≤σ s→mS σ (eQ k p s b)≤mS σ p:=fun p hp=>⟨(Z p hp s b hb).pf,(Z p hp s b hb).ms⟩
 by_cases hf1:f=1
 ·subst hf1;obtain⟨rfl,rfl,rfl⟩:=aBm hq rfl;rw[φ (fun h=>absurd h.1 (by show ¬(1:Int)=7;decide))];have hne:¬nm=s:=fun e=>hv ⟨rfl,e⟩
  have e:tS (eQ k) s b (.mk 1 n nm t [] [] [])=.mk 1 n nm t [] [] []:=by
   rw[tS];unfold zNm zKs zBs;rw[φ (by decide)];have:(([]:List Core)++([]:List Bind).map Bind.body)=[]:=rfl;rw[this];have hp:dN (eQ k) s b (gvN 1 nm []) []=(gvN 1 nm [],[]):=by
    unfold dN;rw[φ fun h=>by cases h.1]
   rw[hp];rfl
  rw[e]
  exact⟨fun x hx=>.inl ⟨hx,fun e=>hne (by
   have:pfR (.mk 1 n nm t [] [] [])=[nm]:=rfl
   rw[this] at hx;rw[←ζ.1 hx,e])⟩,fun _ _ _=>le_refl _⟩
 have aa:∀nm1 ks1,(f=5→nm1=nm)→dD (QL X) (.mk f n nm1 t ks1 bs al)→(∀x∈ks1,P x)→dI ks1≤dI ks→PL (.mk f n nm1 t ks1 bs al) s b (tS (eQ k) s b (.mk f n nm1 t ks1 bs al)):=fun nm1 ks1 _ hq1 hP1 hkm=>by
  have hP2:∀x∈bs,P x.body:=fun x hx=>⟨(hc.bind hx).2,(hc.bind hx).1⟩
  have hP3:∀x∈al,P x.body:=fun x hx=>⟨(hc.alt hx).2,(hc.alt hx).1⟩
  have hPs:∀p∈ks1++bs.map Bind.body,P p:=fun p hp=>by
   rcases δ.1 hp with hp | hp
   ·exact hP1 p hp
   ·obtain⟨x,hx,rfl⟩:=Af.1 hp;exact hP2 x hx
  have hm:=hsz;rw[m30] at hm;have hfm:=aMq (ks1++bs.map Bind.body);rw[xC] at hfm;have hbsb:=xB bs;have hgv:=aMb (f:=f) (nm:=nm1) (bs:=bs);have hgl:((ks1++bs.map Bind.body).flatMap pfR).length+2*(gvN f nm1 bs).length+(pfR b).length≤540000000000:=by omega
  have hal':∀a∈al,(([a.body]:List Core).flatMap pfR).length+2*a.vars.length+(pfR b).length≤540000000000:=fun a ha=>by
   have h1:=gU ha;have h2:=wI a.vars;have h3:=kI a.body;simp only[Cj,C4,A8];omega
  have hN:=(s7 (sb:=eQ k) (P:=P) (X:=X) (s:=s) (b:=b) (ns:=gvN f nm1 bs) hPs hPq hzR hSR hgl).2
  have hRB:=aKt (sb:=eQ k) (P:=P) (s:=s) (b:=b) (ns:=gvN f nm1 bs) hPs hz hs hgl;exact aWw hf1 hq1 hN hRB fun a ha=>⟨(s7 (sb:=eQ k) (P:=P) (X:=X) (s:=s) (b:=b) (fun p hp=>by rw[ζ.1 hp];exact hP3 a ha) hPq hzR hSR (hal' a ha)).2,aKt (sb:=eQ k) (P:=P) (s:=s) (b:=b) (fun p hp=>by rw[ζ.1 hp];exact hP3 a ha) hz hs (hal' a ha)⟩
 have hPk:∀x∈ks,P x:=fun x hx=>⟨(hc.kid hx).2.2,(hc.kid hx).1⟩
 by_cases hcl:f=7∧s∈pfR (.mk f n nm t ks bs al)
 ·rw[ξ (show(Core.mk f n nm t ks bs al).form=7∧s∈pfR (Core.mk f n nm t ks bs al) from hcl),aZ4];by_cases hnb:nm∈tyR b
  ·rw[ξ hnb];obtain⟨rfl,hin⟩:=hcl;obtain⟨⟨kid,rfl⟩,rfl,rfl⟩:=fJ hq (.inr (.inr rfl));obtain⟨g1,g2,g3⟩:=hc.kid (x:=kid) η;rw[ξ rfl] at g2;obtain⟨_,hktl⟩:=g1.types N;obtain⟨q1,_⟩:=aY.1 hq;have efm:[kid].flatMap tyR=tyR kid:=by simp
   rw[efm,Al,Bn];have ab:(b9 (tyR b++tyR kid)).length≤30:=pK _ (by rw[τ];omega);have hzn:=xN (tyR b++tyR kid);generalize b9 (tyR b++tyR kid)=z at ab hzn;have hS1:=aDj hI N (m30 kid) kid (le_refl _) g1 nm (vT z) (UOk.var z);have ac:=aOz hI N g1 g2 (m30 kid) (le_refl _) nm z;have hq1:dD (QL X) (.mk 7 n z t [sTR (m30 kid) kid nm (vT z)] [] []):=by
    refine aY.2 ⟨⟨q1.1,fun h=>⟨(q1.2.1 h).1,hzn⟩,q1.2.2.1,fun p hp=>(by cases hp),le_trans (xD (aHf ab) rfl rfl) q1.2.2.2.2.1,fun e=>absurd e (by decide),fun p hp=>(by cases hp),fun p hp=>(by cases hp)⟩,fun x hx=>?_,fun x hx=>(by cases hx),fun x hx=>(by cases hx)⟩;rw[ζ.1 hx];exact ac.q
   have hr:=aa z [sTR (m30 kid) kid nm (vT z)] (fun e=>absurd e (by decide)) hq1 (fun x hx=>by rw[ζ.1 hx];exact⟨lt_of_le_of_lt hS1.sz g3,ac⟩) (by rw[dI,dI,dI,dI];have:=hS1.sz;omega);refine⟨fun x hx=>(hr.pf x hx).imp (fun h=>⟨?_,h.2⟩) id,fun σ hσ I=>le_trans (hr.ms σ hσ I) ?_⟩
   ·rcases(dU (by decide)).1 h.1 with⟨p,hp,h1,h2⟩ | ⟨a,ha,_⟩
    ·have hpe:p=sTR (m30 kid) kid nm (vT z):=by simpa using hp
     rw[hpe,aYw] at h1;exact(dU (by decide)).2 (.inl ⟨kid,by simp,h1,by unfold gvN;rw[φ (by decide)];simp⟩)
    ·cases ha
   ·rw[mS,mS,φ (by decide),φ (by decide),mSs,mSs,mSs,mSs,mSb,mSa];have:=aZb hI N (σ:=σ) (m30 kid) kid (le_refl _) g1 nm (vT z) (UOk.var z);have:=aHf (s:=nm) ab;omega
  ·rw[φ hnb];exact aa nm ks (fun _=>rfl) hq hPk (le_refl _)
 ·rw[φ (show ¬((Core.mk f n nm t ks bs al).form=7∧s∈pfR (Core.mk f n nm t ks bs al)) from hcl)];exact aa nm ks (fun _=>rfl) hq hPk (le_refl _)
def nM {α:Type}(L:List α) (i:Nat):List α:=L.reverse.take i++((L.drop i).take (L.length-2*i)++L.reverse.drop (L.length-i))
section
variable {α:Type}{L:List α}{i:Nat}
theorem wR (h:2*i≤L.length) (k:Nat):(nM L i)[k]?=if k<i then L.reverse[k]? else if k<L.length-i then L[k]? else L.reverse[k]?:=by
 have h1:(L.reverse.take i).length=i:=by rw[Aq,List.length_reverse];omega
 have h2:((L.drop i).take (L.length-2*i)).length=L.length-2*i:=by rw[Aq,Bz];omega
 unfold nM;by_cases hk:k<i
 ·rw[ξ hk,Ba (by omega),List.getElem?_take_of_lt hk]
 ·rw[φ hk,Az (by omega),h1];by_cases q:k<L.length-i
  ·rw[ξ q,Ba (by omega),List.getElem?_take_of_lt (by omega),An];congr 1;omega
  ·rw[φ q,Az (by omega),h2,An];congr 1;omega
theorem wQ (h:2*i≤L.length):(nM L i).length=L.length:=by
 unfold nM;simp only[τ,Aq,List.length_reverse,Bz];omega
theorem zE (h:2*i+1<L.length) {x y:α}(hx:(nM L i)[i]?=some x) (q:(nM L i)[L.length-1-i]?=some y):((nM L i).set i y).set (L.length-1-i) x=nM L (i+1):=by
 refine Bw fun k=>?_
 have hl:=wQ (L:=L) (i:=i) (by omega);rw[wR (by omega)] at hx q;rw[φ (by omega),ξ (by omega)] at hx q;rw[List.getElem?_set,List.getElem?_set,Cn,hl,wR (by omega),wR (by omega)];have I:∀j,j<L.length→L.reverse[j]?=L[L.length-1-j]?:=fun j J=>List.getElem?_reverse J
 by_cases h1:L.length-1-i=k
 ·subst h1;rw[ξ rfl,ξ (by omega),φ (by omega),φ (by omega),I _ (by omega),←hx];congr 1;omega
 ·rw[φ h1];by_cases h2:i=k
  ·subst h2;rw[ξ rfl,ξ (by omega),ξ (by omega),I _ (by omega),←q]
  ·rw[φ h2];by_cases h3:k<i
   ·rw[ξ h3,ξ (by omega)]
   ·rw[φ h3,φ (show ¬k<i+1 by omega)];by_cases h4:k<L.length-(i+1)
    ·rw[ξ (by omega),ξ h4]
    ·rw[φ (show ¬k<L.length-i by omega),φ h4]
theorem aE9 (h:2*i≤L.length) (h2:L.length≤2*i+1):nM L i=L.reverse:=by
 refine Bw fun k=>?_
 rw[wR h];have q:∀j,j<L.length→L.reverse[j]?=L[L.length-1-j]?:=fun j I=>List.getElem?_reverse I
 by_cases h3:k<i
 ·rw[ξ h3]
 ·rw[φ h3];by_cases h4:k<L.length-i
  ·rw[ξ h4,q k (by omega)];congr 1;omega
  ·rw[φ h4]
theorem zD:nM L 0=L:=by unfold nM;simp
end
theorem aNf (L:List Core) (hL:L.length≤570000000000):aQ Tryz.prog 122 [.one (.hs 720 0 L.length L.length)] [(720,.arr 34 10 (L.map aC) 0)] (.tup []) [(720,.arr 34 10 (L.reverse.map aC) 0)]:=by
 have hkL:(L.map aC).length=L.length:=θ _;refine bM (n:=28) tok Tryz.func122 rfl rfl rfl ?_;refine sg rfl (aB (aK (fun i:Nat=>mk [(0,.one (.hs 720 0 L.length L.length)),(2,I .i64 i),(3,I .i64 ((L.length:Int)-1-i))] [(720,.arr 34 10 ((nM L i).map aC) 0)]) (fun i=>2*i≤L.length) (fun i=>L.length-i) 0 (Aj _) (sl (he:=⟨rfl,rfl,by show some (I .i64 _)=some (I .i64 _);congr 2;simp,trivial⟩) (hh:=⟨⟨_,rfl,.arrS (by rw[zD])⟩,trivial⟩)) ?_));intro i hi;have J:=wQ (L:=L) hi;have N:((nM L i).map aC).length=L.length:=by rw[θ,J]
 refine a8 (sg rfl (aA rfl (fun hb=>?_) (fun hb=>?_)))
 ·have hlt:(i:Int)<(L.length:Int)-1-i:=ψ hb;obtain⟨x,hx⟩:=aJ (l:=nM L i) (k:=i) (by omega);obtain⟨y,O⟩:=aJ (l:=nM L i) (k:=L.length-1-i) (by omega);have W:=zE (by omega) hx O;have hx':=bO aC hx;have Y:=bO aC O;have ej:(L.length:Int)-1-i=((L.length-1-i:Nat):Int):=by omega
  have Z:i≠L.length-1-i:=by omega
  have hj:L.length-1-i<L.length:=by omega
  have hil:i<L.length:=by omega
  have hy2:(((nM L i).map aC).set i (aC y))[L.length-1-i]?=some (aC y):=by rw[List.getElem?_set_ne Z];exact Y
  have q:(((nM L i).map aC).set i (aC y)).set (L.length-1-i) (aC x)=(nM L (i+1)).map aC:=by rw[←W,map_set,map_set]
  have hks:(((nM L i).map aC).set i (aC y)).length=L.length:=by rw[Cn,N]
  refine aD (AWp.sub (st2:=mk [(0,.one (.hs 720 0 L.length L.length)),(2,I .i64 i),(3,I .i64 ((L.length-1-i:Nat):Int))] [(720,.arr 34 10 ((nM L i).map aC) 0)]) (sl (he:=⟨rfl,rfl,congrArg (fun x=>some (I .i64 x)) ej,trivial⟩)) ?_);generalize L.length-1-i=j at *;refine a8 (aB (ag [(7,.row j (aC y)),(11,.row i (aC x)),(13,.row i (aC x)),(15,.row j (aC y))] rfl (ag [] rfl ⟨i+1,by omega,by dsimp only;omega,sl (he:=⟨rfl,rfl,?_,trivial⟩) (hh:=⟨⟨_,rfl,.arrS q⟩,trivial⟩)⟩)));show some (I .i64 ((j:Int)-1))=some (I .i64 ((L.length:Int)-1-((i+1:Nat):Int)));congr 2;omega
 ·have hge:¬(i:Int)<(L.length:Int)-1-i:=χ hb;rw[aE9 hi (by omega)];exact aL ⟨.inl rfl,⟨_,_,.nil,.nil,rfl⟩,⟨⟨_,rfl,.arr⟩,trivial⟩,rfl⟩
mutual
def gvC:Core→Option (Str×List Core)
 | .mk f _ s _ ks _ _=>if f=2 then some (s,[]) else if f=4 then(gvH ks).map (fun p=>(p.1,p.2++ks.drop 1)) else if f=6 then gvH ks else none
def gvH:List Core→Option (Str×List Core)
 | []=>none
 | c::_=>gvC c
end
def aH8:Option (Str×List Core)→V
 | some (s,l)=>.tup [Go.AM.T s,.one (.c (.sl 10 (l.map aC))),B true]
 | none=>.tup [Go.AM.T [],.one (.c (.sl 10 [])),B false]
theorem w9 {X:Nat}{f n:Int}{s:Str}{t:Ty}{ks:List Core}{bs:List Bind}{al:List Alt}(h:dD (QL X) (.mk f n s t ks bs al)) (hf:f=4∨f=10):(∃a b,ks=[a,b])∧bs=[]∧al=[]:=by
 obtain⟨h1,_⟩:=aY.1 h;have g:=h1.1;unfold okF at g;rw[ξ hf] at g;obtain⟨g1,g2,g3⟩:=ψ g;rw[θ] at g2 g3;refine⟨?_,Bl.1 g2,Bl.1 g3⟩
 match ks,g1 with
 | [a,b],_=>exact⟨a,b,rfl⟩
theorem aNo (X:Nat) (c:Core) (hq:dD (QL X) c) (hsz:bE c≤570000000000):aQ Tryz.prog 68 [.pa (aC c)] [] (aH8 (gvC c)) []:=by
 refine bM (n:=30) tok Tryz.func68 rfl rfl rfl ?_;refine sg rfl (sg rfl (AWp.sub (Sub.own (t:=5) (id:=720) 34 10 rfl rfl) ?_));refine aB (aK (fun x:Core×List Core=>mk [(1,.one (.vp 1 0)),(5,.one (.hs 720 0 x.2.length x.2.length))] [(720,.arr 34 10 (x.2.map aC) 0),(1,.var 34 (b8 x.1))]) (fun x=>dD (QL X) x.1∧gvC c=(gvC x.1).map (fun p=>(p.1,p.2++x.2.reverse))∧x.2.length+bE x.1≤bE c) (fun x=>bE x.1) (c,[]) ⟨hq,by cases gvC c<;>simp,by simp⟩ sl ?_);rintro⟨c1,acc⟩ ⟨q,I,Y⟩;dsimp only at q I Y ⊢;obtain⟨f,n,s,t,ks,bs,al⟩:=c1;have hka:(acc.map aC).length=acc.length:=θ _;have N:=aNf acc (by omega);obtain⟨_,Z,_,_⟩:=aY.1 q;refine aB (a8 (sg rfl (aB (sg rfl (aA rfl (fun hb=>?_) (fun hb=>?_))))))
 ·have h2:f=2:=ψ hb;have e:gvC c=some (s,acc.reverse):=by rw[I,gvC,ξ h2];rfl
  rw[e];refine sk 1 rfl (kc N ?_);refine az (sg rfl (AWp.sub (Sub.freeze (id:=720) rfl) ?_));exact aF ⟨.inr rfl,⟨_,_,.tmp rfl (.tmp rfl (.tmp rfl .nil)),.cons .refl (.cons (hs_all rfl rfl (by simp) rfl) (.cons .refl .nil)),rfl⟩,trivial,rfl⟩
 have h2:¬f=2:=χ hb;refine sg rfl (aA rfl (fun hb=>?_) (fun hb=>?_))
 ·have h4:f=4:=ψ hb;subst h4;obtain⟨⟨a,b,rfl⟩,rfl,rfl⟩:=w9 q (.inl rfl);have J:gvC c=(gvC a).map (fun p=>(p.1,p.2++(acc++[b]).reverse)):=by
   rw[I,gvC,φ h2,ξ rfl,gvH];cases gvC a<;>simp
  have O:bE (.mk 4 n s t [a,b] [] [])=1+s.length+(bE a+(bE b+0))+0+0:=by rw[bE,dS,dS,dS,iD,iF]
  have hbp:=cD b;have hl1:acc.length+1≤570000000000:=by omega
  refine ag [(3,.row 1 (aC b)),(5,.all)] rfl (ag [(2,.row 0 (aC a))] rfl ⟨(a,acc++[b]),⟨Z a (by simp),J,by rw[τ];show acc.length+1+bE a≤_;omega⟩,by dsimp only;omega,?_⟩);exact sl
 have h4:¬f=4:=χ hb;refine sg rfl (aA rfl (fun hb=>?_) (fun hb=>?_))
 ·have W:f=6:=ψ hb;subst W;obtain⟨⟨a,rfl⟩,rfl,rfl⟩:=fJ q (.inr (.inl rfl));have J:gvC c=(gvC a).map (fun p=>(p.1,p.2++acc.reverse)):=by
   rw[I,gvC,φ h2,φ h4,ξ rfl,gvH]
  have O:bE (.mk 6 n s t [a] [] [])=1+s.length+(bE a+0)+0+0:=by rw[bE,dS,dS,iD,iF]
  exact aD (ag [(2,.row 0 (aC a))] rfl ⟨(a,acc),⟨Z a (by simp),J,by dsimp only;omega⟩,by dsimp only;omega,sl⟩)
 have W:¬f=6:=χ hb;have e:gvC c=none:=by rw[I,gvC,φ h2,φ h4,φ W];rfl
 rw[e];exact sg rfl (aF ⟨.inr rfl,⟨_,_,.tmp rfl (.tmp rfl (.tmp rfl .nil)),.cons .refl (.cons (.one (.c .nl .nil)) (.cons .refl .nil)),rfl⟩,trivial,rfl⟩)
def shC (c:Core):Bool:=decide (c.form=5) || (decide (c.form=7) || (decide (c.form=3) || (gvC c).isSome))
theorem y3 (X:Nat) (c:Core) (J:dD (QL X) c) (q:bE c≤570000000000):aQ Tryz.prog 30 [.pa (aC c)] [] (B (shC c)) []:=by
 have I:=aNo X c J q;obtain⟨f,n,s,t,ks,bs,al⟩:=c;refine bM (n:=19) tok Tryz.func30 rfl rfl rfl ?_;refine sg rfl (a8 (sg rfl ?_));by_cases h:f=5∨f=7∨f=3
 ·have e:shC (.mk f n s t ks bs al)=true:=by
   unfold shC;show(decide (f=5) || (decide (f=7) || (decide (f=3) || _)))=true;rcases h with h | h | h
   ·rw[Ah h];rfl
   ·rw[Ah h];simp
   ·rw[Ah h];simp
  rw[e];have N:¬f=5→¬f=7→some (B (decide (f=3)))=some (B true):=fun h5 h7=>by rw[Ah (show f=3 by omega)]
  refine aB (a8 (AWp.cut (mk [(8,B true)] []) ?_ ?_))
  ·refine sg rfl (aA rfl (fun hb=>?_) (fun hb=>?_))
   ·have h5:f=5:=ψ hb;exact aD (sl (he:=⟨by show some (B (decide (f=5)))=some (B true);rw[Ah h5],trivial⟩))
   have h5:¬f=5:=χ hb;refine sg rfl (aA rfl (fun hb=>?_) (fun hb=>?_))
   ·have h7:f=7:=ψ hb;exact aD (sl (he:=⟨by show some (B (decide (f=7)))=some (B true);rw[Ah h7],trivial⟩))
   have h7:¬f=7:=χ hb;exact ag [] rfl (sl (he:=⟨N h5 h7,trivial⟩))
  exact aA rfl (fun _=>sg rfl (aF rtT)) nofun
 ·have h5:¬f=5:=fun e=>h (.inl e)
  have h7:¬f=7:=fun e=>h (.inr (.inl e))
  have h3:¬f=3:=fun e=>h (.inr (.inr e))
  have e:shC (.mk f n s t ks bs al)=(gvC (.mk f n s t ks bs al)).isSome:=by
   unfold shC;show(decide (f=5) || (decide (f=7) || (decide (f=3) || _)))=_;rw[Am h5,Am h7,Am h3];rfl
  rw[e];refine aB (a8 (AWp.cut (mk [(1,.one (.vp 1 0)),(8,B false)] [(1,.var 34 (b8 (.mk f n s t ks bs al)))]) ?_ ?_))
  ·exact sg rfl (aA rfl (fun hb=>absurd (ψ hb) h5) (fun _=>sg rfl (aA rfl (fun hb=>absurd (ψ hb) h7) (fun _=>ag [] rfl (sl (he:=⟨rfl,by show some (B (decide (f=3)))=some (B false);rw[Am h3],trivial⟩))))))
  refine aA rfl nofun (fun _=>aD ?_);cases hx:gvC (.mk f n s t ks bs al) with
  | none=>
   rw[hx] at I;exact sgh [(1,.pc (aH8 none))] rfl (sg rfl (aF rtT))
  | some p=>
   obtain⟨s1,O⟩:=p;rw[hx] at I;exact sgh [(1,.pc (aH8 (some (s1,O))))] rfl (sg rfl (aF rtT))
theorem aNg (c:Core) (q:LC c) (I:NFr c):aQ Tryz.prog 133 [.pa (aC c)] [] (ouV (pfR c)) [(500,ouO (pfR c))]:=oP c (fun x _=>y5 (bE x) x (le_refl _)) q I
theorem aRi (c:Core) (q:bE c≤570000000000):aQ Tryz.prog 133 [.pa (aC c)] [] (ouV (pfR c)) [(500,ouO (pfR c))]:=aNg c (LC.of _ c (le_refl _) q) (NFr.of _ c (le_refl _) q)
def pcN (n:Nat):Str:=37::Lib.decDigits n
theorem aK5 (n m:Nat) (h:pcN n=pcN m):n=m:=aMy _ _ (List.cons.inj h).2
theorem mA (n:Nat):¬nh (pcN n):=fun h=>h.1 rfl
def mB (tk:List Str) (n:Nat):List Str:=((List.range n).map pcN).filter fun s=>decide (¬s∈tk)
theorem sD (tk:List Str) (n:Nat):mB tk (n+1)=if pcN n∈tk then mB tk n else mB tk n++[pcN n]:=by
 unfold mB;rw[List.range_succ,A4,List.filter_append];by_cases h:pcN n∈tk
 ·rw[ξ h];simp[h]
 ·rw[φ h];simp[h]
theorem aQb {tk:List Str}{n:Nat}{x:Str}(h:x∈mB tk n):¬x∈tk∧∃m,m<n∧x=pcN m:=by
 obtain⟨h1,h2⟩:=mem_filter.1 h;obtain⟨m,hm,rfl⟩:=Af.1 h1;exact⟨ψ h2,m,mem_range.1 hm,rfl⟩
theorem aQc (tk:List Str) (n:Nat):n≤(mB tk n).length+tk.length:=by
 have I:((List.range n).map pcN).Nodup:=by
  rw[List.Nodup,List.pairwise_map];exact List.Pairwise.imp (fun h e=>h (aK5 _ _ e)) nodup_range
 have h:=fK ((List.range n).map pcN) (mB tk n++tk) I fun x hx=>by
  by_cases q:x∈tk
  ·exact δ.2 (.inr q)
  ·exact δ.2 (.inl (mem_filter.2 ⟨hx,Ah q⟩))
 rw[θ,length_range,τ] at h;exact h
theorem wZ (tk:List Str):∀k:Nat,∃N,N≤tk.length+k∧(mB tk N).length=k∧∀m,m<N→(mB tk m).length<k:=by
 intro k;have h0:∀n,(mB tk (n+1)).length≤(mB tk n).length+1:=fun n=>by rw[sD];split<;>simp
 have key:∀M:Nat,k≤(mB tk M).length→∃N,N≤M∧(mB tk N).length=k∧∀m,m<N→(mB tk m).length<k:=by
  intro M
  induction M with
  | zero=>intro h;exact⟨0,le_refl _,by have:(mB tk 0).length=0:=rfl;omega,fun m hm=>by omega⟩
  | succ M J=>
   intro h;by_cases O:k≤(mB tk M).length
   ·obtain⟨N,h1,h2,h3⟩:=J O;exact⟨N,by omega,h2,h3⟩
   ·refine⟨M+1,le_refl _,by have:=h0 M;omega,fun m hm=>?_⟩;by_cases W:k≤(mB tk m).length
    ·exfalso;have q:∀d,(mB tk m).length≤(mB tk (m+d)).length:=fun d=>by
      induction d with
      | zero=>exact le_refl _
      | succ d I=>
       rw[←Co,sD];split
       ·exact I
       ·rw[τ];omega
     have:=q (M-m);rw[show m+(M-m)=M by omega] at this;omega
    ·omega
 exact key (tk.length+k) (by have:=aQc tk (tk.length+k);omega)
noncomputable def aIs (tk:List Str) (k:Nat):Nat:=Classical.choose (wZ tk k)
noncomputable def nW (tk:List Str) (k:Nat):List Str:=mB tk (aIs tk k)
theorem aCz (tk:List Str) (k:Nat):aIs tk k≤tk.length+k:=(B8 (wZ tk k)).1
theorem nV (tk:List Str) (k:Nat):(nW tk k).length=k:=(B8 (wZ tk k)).2.1
theorem aLa (tk:List Str) (k:Nat) {m:Nat}(h:m<aIs tk k):(mB tk m).length<k:=(B8 (wZ tk k)).2.2 m h
theorem r8 {tk:List Str}{k:Nat}{x:Str}(h:x∈nW tk k):¬x∈tk∧¬nh x∧∃m,m<tk.length+k∧x=pcN m:=by
 obtain⟨h1,m,hm,rfl⟩:=aQb h;exact⟨h1,mA m,m,by have:=aCz tk k;omega,rfl⟩
theorem aMx:∀(k n:Nat),n<10^(k+1)→(Lib.decDigits n).length≤k+1
 | 0,n,h=>by rw[Lib.decDigits,dif_pos (by omega)];exact le_refl _
 | k+1,n,h=>by
  rw[Lib.decDigits];split
  ·simp
  ·rw[τ];have:=aMx k (n/10) (by rw[Nat.pow_succ] at h;omega);simp only[Be,List.length_nil];omega
theorem aYz {n:Nat}(h:n<10^29):(pcN n).length≤30:=by
 have:=aMx 28 n h;unfold pcN;rw[Ak];omega
mutual
theorem aQq {X:Nat}{σ:Str→Nat}(hn:∀x,nh x→σ x=1+w30 x):∀c:Core,dD (QL X) c→(∀x∈pfR c,σ x=1+w30 x)→mS σ c=m30 c
 | .mk f n s t ks bs al,h,hp=>by
  obtain⟨⟨_,_,_,_,_,N,O,W⟩,Y,Z,qa⟩:=aY.1 h;rw[mS,m30];by_cases h1:f=1
  ·obtain⟨rfl,rfl,rfl⟩:=aBm h h1;rw[ξ h1,hp s (by rw[pfR,ξ h1];exact ζ.2 rfl)];rfl
  ·rw[φ h1];have hg:∀x∈gvN f s bs,nh x:=fun x hx=>by
    unfold gvN at hx;rcases δ.1 hx with hx | hx
    ·by_cases h5:f=5
     ·rw[ξ h5] at hx;rw[ζ.1 hx];exact N h5
     ·rw[φ h5] at hx;cases hx
    ·obtain⟨b,hb,rfl⟩:=Af.1 hx;exact O (bhd b) (Af.2 ⟨b,hb,rfl⟩)
   have J:∀p∈ks++bs.map Bind.body,∀x∈pfR p,σ x=1+w30 x:=fun p I x hx=>by
    by_cases q:x∈gvN f s bs
    ·exact hn x (hg x q)
    ·exact hp x ((dU h1).2 (.inl ⟨p,I,hx,q⟩))
   have ha:∀a∈al,∀x∈pfR a.body,σ x=1+w30 x:=fun a ha x hx=>by
    by_cases q:x∈a.vars
    ·exact hn x (W (ahd a) (Af.2 ⟨a,ha,rfl⟩) x q)
    ·exact hp x ((dU h1).2 (.inr ⟨a,ha,hx,q⟩))
   rw[aS1 hn ks Y fun p I=>J p (δ.2 (.inl I)),aS2 hn bs Z fun b hb=>J b.body (δ.2 (.inr (Af.2 ⟨b,hb,rfl⟩))),aS3 hn al qa ha]
theorem aS1 {X:Nat}{σ:Str→Nat}(hn:∀x,nh x→σ x=1+w30 x):∀l:List Core,(∀c∈l,dD (QL X) c)→(∀c∈l,∀x∈pfR c,σ x=1+w30 x)→mSs σ l=dI l
 | [],_,_=>by rw[mSs,dI]
 | c::l,h,hp=>by rw[mSs,dI,aQq hn c (h c η) (hp c η),aS1 hn l (fun x hx=>h x (ω _ hx)) fun x hx=>hp x (ω _ hx)]
theorem aS2 {X:Nat}{σ:Str→Nat}(hn:∀x,nh x→σ x=1+w30 x):∀l:List Bind,(∀c∈l,dD (QL X) c.body)→(∀c∈l,∀x∈pfR c.body,σ x=1+w30 x)→mSb σ l=gM l
 | [],_,_=>by rw[mSb,gM]
 | .mk s t c::l,h,hp=>by rw[mSb,gM,aQq hn c (h _ η) (hp _ η),aS2 hn l (fun x hx=>h x (ω _ hx)) fun x hx=>hp x (ω _ hx)]
theorem aS3 {X:Nat}{σ:Str→Nat}(hn:∀x,nh x→σ x=1+w30 x):∀l:List Alt,(∀c∈l,dD (QL X) c.body)→(∀c∈l,∀x∈pfR c.body,σ x=1+w30 x)→mSa σ l=j2 l
 | [],_,_=>by rw[mSa,j2]
 | .mk f n s v c::l,h,hp=>by rw[mSa,j2,aQq hn c (h _ η) (hp _ η),aS3 hn l (fun x hx=>h x (ω _ hx)) fun x hx=>hp x (ω _ hx)]
end
noncomputable def iR (c:Core) (l:List (Str×Str)):Core:=l.foldl (fun c p=>eQ (m30 c) c p.1 (vC p.2)) c
noncomputable def nP (c:Core) (l:List (Str×Core)):Core:=l.foldl (fun c p=>eQ (m30 c) c p.1 p.2) c
def gJ (c:Core) (l:List Core):List Str:=pfR c++l.flatMap pfR
noncomputable def wX (c:Core) (names:List Str) (l:List Core):Core:=nP (iR c (names.zip (nW (gJ c l) names.length))) ((nW (gJ c l) names.length).zip l)
structure PO (D M X B:Nat) (c:Core) (l:List Core):Prop where
 q:dD (QL X) c
 dep:cw jS 0 c r0≤D
 bq:∀b∈l,dD (QL X) b
 bdep:∀b∈l,cw jS 0 b r0≤D
 ty:∃U:List Str,U.length+2*(tlC c+(l.map tlC).sum)≤M∧(∀x∈tyR c,x∈U)∧∀b∈l,∀x∈tyR b,x∈U
 one:1≤B
 bsz:∀b∈l,m30 b≤31*B
 sz:m30 c*B≤Big
 bsum:(l.map m30).sum≤Big
structure PR (X B:Nat) (c:Core) (l:List Core) (r:Core):Prop where
 q:dD (QL X) r
 cw:∀(A:Alg) (E:Nat) (ρ:Str→Nat) (K:Nat),cw A E c ρ≤K→(∀b∈l,cw A E b ρ≤K)→cw A E r ρ≤K
 ty:∀x∈tyR r,x∈tyR c∨∃b∈l,x∈tyR b
 tl:tlC r≤tlC c+(l.map tlC).sum
 sz:m30 r≤m30 c*B
theorem aCc {l:List Core}{g:Core→Nat}{b:Core}(h:b∈l):g b≤(l.map g).sum:=by
 induction l with
 | nil=>cases h
 | cons x l q=>
  rw[Al,Ce];rcases Ai.1 h with e | h
  ·rw[e];omega
  ·have:=q h;omega
section
variable {D M X B:Nat}{c:Core}{l:List Core}
theorem PO.cg (h:PO D M X B c l):CG D M X c:=by
 obtain⟨U,h1,h2,_⟩:=h.ty;refine⟨h.q,h.dep,?_,le_trans (Bb _ h.one) h.sz⟩;have:=dP h2;omega
theorem PO.cgb (h:PO D M X B c l) {b:Core}(hb:b∈l):CG D M X b:=by
 obtain⟨U,h1,_,h3⟩:=h.ty;refine⟨h.bq b hb,h.bdep b hb,?_,le_trans (aCc hb) h.bsum⟩;have:=dP (h3 b hb);have:=aCc (g:=tlC) hb;omega
theorem wV (N:dA 540000000000) (I:M+D≤700000) (J:31≤X):∀(ps:List (Str×Str)) (c:Core),CG D M X c→(∀p∈ps,p.2.length≤30)→R0 c (iR c ps)∧CG D M X (iR c ps)
 | [],c,h,_=>⟨R0.refl c,h⟩
 | p::ps,c,h,hp=>by
  have O:=hp p η;have h1:=aAt N I J (m30 c) c (le_refl _) h p.1 (vC p.2) (CG.vC O J);have h2:=h1.r0 O;obtain⟨h3,h4⟩:=wV N I J ps (eQ (m30 c) c p.1 (vC p.2)) (h2.cg h h1.rx.q) fun q W=>hp q (ω _ W)
  exact⟨h2.trans h3,h4⟩
structure P2 (X B:Nat) (c:Core) (l:List Core) (own:List Str) (i:Nat) (r:Core):Prop where
 q:dD (QL X) r
 cw:∀(A:Alg) (E:Nat) (ρ:Str→Nat) (K:Nat),cw A E c ρ≤K→(∀b∈l,cw A E b ρ≤K)→cw A E r ρ≤K
 ty:∀x∈tyR r,x∈tyR c∨∃b∈l,x∈tyR b
 tl:tlC r≤tlC c+((l.take i).map tlC).sum
 sz:mS (fun s=>if s∈own then(1+w30 s)*B else 1+w30 s) r≤m30 c*B
theorem aEx {g:Core→Nat}:∀{l:List Core}{i:Nat},((l.take i).map g).sum≤(l.map g).sum
 | [],i=>by simp
 | x::l,0=>by simp
 | x::l,i+1=>by
  rw[Ar,Al,Al,Ce,Ce];have:=aEx (g:=g) (l:=l) (i:=i);omega
theorem P2.cg {own:List Str}{i:Nat}{r:Core}(ho:PO D M X B c l) (h:P2 X B c l own i r):CG D M X r:=by
 obtain⟨U,h1,h2,h3⟩:=ho.ty;refine⟨h.q,h.cw jS 0 r0 D ho.dep ho.bdep,?_,?_⟩
 ·have:=dP (c:=r) (a:=U) fun x hx=>by
   rcases h.ty x hx with h | ⟨b,hb,h⟩
   ·exact h2 x h
   ·exact h3 b hb x h
  have:=h.tl;have:=aEx (g:=tlC) (l:=l) (i:=i);omega
 ·refine le_trans (aAa (fun s=>?_) r) (le_trans h.sz ho.sz);split
  ·exact Bb _ ho.one
  ·exact le_refl _
theorem P2.zero {own:List Str}{r:Core}(ho:PO D M X B c l) (h:R0 c r) (q:dD (QL X) r):P2 X B c l own 0 r:=by
 refine⟨q,fun A E ρ K h1 _=>le_trans (h.cw A E ρ) h1,fun x hx=>.inl (h.ty x hx),by simpa using h.tl,?_⟩;refine le_trans (a1a ho.one (fun s=>?_) r) (Av _ h.sz);split
 ·exact le_refl _
 ·exact Bb _ ho.one
theorem P2.step (Y:dA 540000000000) (J:M+D≤700000) (Z:31≤X) {tk:List Str}{k i:Nat}{r s b:_}(ho:PO D M X B c l) (aa:∀b∈l,∀x∈pfR b,x∈tk) (h:P2 X B c l (nW tk k) i r) (hs:s∈nW tk k) (hs30:s.length≤30) (hb:l[i]?=some b):
  TB X r s b (eQ (m30 r) r s b)∧P2 X B c l (nW tk k) (i+1) (eQ (m30 r) r s b):=by
 have I:=Ab hb;have N:=h.cg ho;have O:=ho.cgb I;have h1:=aAt Y J Z (m30 r) r (le_refl _) N s b O;have h2:=aT7 Y J Z (m30 r) r (le_refl _) N s b O;refine⟨h1,h1.rx.q,fun A E ρ K k1 k2=>?_,fun x hx=>?_,?_,?_⟩
 ·have:=h1.rx.cw A E ρ;have:=h.cw A E ρ K k1 k2;have:=k2 b I;omega
 ·rcases h1.rx.ty x hx with W | W
  ·exact h.ty x W
  ·exact .inr ⟨b,I,W⟩
 ·have e:(l.take (i+1))=l.take i++[b]:=by rw[Bi,hb];rfl
  rw[e,A4,List.sum_append];have:=h1.rx.tl;have:=h.tl;simp only[Al,Bn,Ce,sum_nil];omega
 ·refine le_trans (h2.ms _ ⟨fun s=>?_,fun l hl=>?_⟩ ?_) h.sz
  ·split
   ·exact Bb _ ho.one
   ·exact le_refl _
  ·rw[φ fun hin=>(r8 hin).2.1 (aGg l)];unfold w30;omega
  ·have e:=aQq (X:=X) (σ:=fun s=>if s∈nW tk k then(1+w30 s)*B else 1+w30 s) (fun x hx=>by
    rw[φ fun hin=>(r8 hin).2.1 hx]) b (ho.bq b I) (fun x hx=>by
    rw[φ fun hin=>(r8 hin).1 (aa b I x hx)])
   rw[e,ξ hs];refine le_trans (ho.bsz b I) (Av _ ?_);unfold w30;omega
theorem P2.fin {own:List Str}{r:Core}(ho:PO D M X B c l) (h:P2 X B c l own l.length r):PR X B c l r:=by
 refine⟨h.q,h.cw,h.ty,?_,?_⟩
 ·have:=h.tl;rwa [As] at this
 ·refine le_trans (aAa (fun s=>?_) r) h.sz;split
  ·exact Bb _ ho.one
  ·exact le_refl _
end
theorem sQ {α β γ:Type}(g:γ→α×β→γ) (z:γ) {a:List α}{b:List β}{i:Nat}{x:α}{y:β}(ha:a[i]?=some x) (hb:b[i]?=some y):((a.zip b).take (i+1)).foldl g z=g (((a.zip b).take i).foldl g z) (x,y):=by
 have h:(a.zip b)[i]?=some (x,y):=by rw[List.getElem?_zip_eq_some];exact⟨ha,hb⟩
 rw[Bi,h,Bu];rfl
theorem sB {l:List Core}:∀i,((l.take i).flatMap pfR).length≤(l.map m30).sum:=by
 induction l with
 | nil=>intro i;simp
 | cons c l q=>
  intro i;cases i with
  | zero=>simp
  | succ i=>
   rw[Ar,Cj,τ,Al,Ce];have:=kI c;have:=q i;omega
theorem zT {l:List Core}{i:Nat}{b:Core}(h:l[i]?=some b):(l.take (i+1)).flatMap pfR=(l.take i).flatMap pfR++pfR b:=by
 rw[Bi,h,flatMap_append];simp
theorem aUo (hI:dA 540000000000) {D M X B:Nat}(O:M+D≤700000) (hX:31≤X) (c:Core) (names:List Str) (l:List Core) (hl:names.length=l.length) (hl2:l.length≤1000000) (ho:PO D M X B c l):
  (∀x∈nW (gJ c l) names.length,x.length≤30)∧(∀i,∀p∈(names.zip (nW (gJ c l) names.length)).take i,p.2.length≤30)∧
  ∀i,i≤l.length→P2 X B c l (nW (gJ c l) names.length) i (nP (iR c (names.zip (nW (gJ c l) names.length))) (((nW (gJ c l) names.length).zip l).take i)):=by
 have hBig:Big=250000000000:=rfl;have W:=ho.cg;have hcsz:=W.sz;have hpfc:=kI c;have J:=ho.bsum;have hfl:∀i,((l.take i).flatMap pfR).length≤250000000000:=fun i=>le_trans (sB i) J
 have N:gJ c l=pfR c++(l.take l.length).flatMap pfR:=by rw[As];rfl
 have htkl:(gJ c l).length≤500000000000:=by rw[N,τ];have:=hfl l.length;omega
 have hNle:=aCz (gJ c l) names.length;have I:∀x∈nW (gJ c l) names.length,x.length≤30:=fun x hx=>by
  obtain⟨_,_,m,hm,rfl⟩:=r8 hx
  exact aYz (Cv hm (by
    have:600000000000≤10^29:=by decide
    omega))
 have hownL:=nV (gJ c l) names.length;have Y:∀p∈names.zip (nW (gJ c l) names.length),p.2.length≤30:=fun p hp=>I p.2 (List.of_mem_zip (a:=p.1) (b:=p.2) hp).2
 have aa:∀i,∀p∈(names.zip (nW (gJ c l) names.length)).take i,p.2.length≤30:=fun i p hp=>Y p (Bx hp)
 have Z:=wV hI O hX (names.zip (nW (gJ c l) names.length)) c W Y;have htk:∀b∈l,∀x∈pfR b,x∈gJ c l:=fun b hb x hx=>δ.2 (.inr (mem_flatMap.2 ⟨b,hb,hx⟩))
 have hP2:∀i,i≤l.length→P2 X B c l (nW (gJ c l) names.length) i (nP (iR c (names.zip (nW (gJ c l) names.length))) (((nW (gJ c l) names.length).zip l).take i)):=by
  intro i
  induction i with
  | zero=>intro _;exact P2.zero ho Z.1 Z.2.q
  | succ i ih=>
   intro hi;obtain⟨b,hb⟩:=aJ (show i<l.length by omega);obtain⟨s,hs⟩:=aJ (show i<(nW (gJ c l) names.length).length by omega);have:=(P2.step hI O hX ho htk (ih (by omega)) (Ab hs) (I s (Ab hs)) hb).2
   unfold nP at this ⊢;rw[sQ _ _ hs hb];exact this
 exact⟨I,aa,hP2⟩
theorem aRh (hI:dA 540000000000) {D M X B:Nat}(aa:M+D≤700000) (hX:31≤X) (c:Core) (names:List Str) (l:List Core) (hl:names.length=l.length) (hl2:l.length≤1000000) (ho:PO D M X B c l):
  aQ Tryz.prog 125 [.pa (aC c),bI names,.one (.c (.sl 10 (l.map aC)))] [] (.pa (aC (wX c names l))) []∧PR X B c l (wX c names l):=by
 have hBig:Big=250000000000:=rfl;have hcg:=ho.cg;have hcs:=cV c;have hcsz:=hcg.sz;have hpfc:=kI c;have hbsum:=ho.bsum;have hfl:∀i,((l.take i).flatMap pfR).length≤250000000000:=fun i=>le_trans (sB i) hbsum
 have hfr:=aRi c (by omega);have hkL:(l.map aC).length=l.length:=θ _;have ab:(names.map bL).length=names.length:=θ _;have ac:gJ c l=pfR c++(l.take l.length).flatMap pfR:=by rw[As];rfl
 have htkl:(gJ c l).length≤500000000000:=by rw[ac,τ];have:=hfl l.length;omega
 have hNle:=aCz (gJ c l) names.length;obtain⟨W,hzpi,hP2⟩:=aUo hI aa hX c names l hl hl2 ho;have hownL:=nV (gJ c l) names.length;have hkO:((nW (gJ c l) names.length).map bL).length=(nW (gJ c l) names.length).length:=θ _;have htk:∀b∈l,∀x∈pfR b,x∈gJ c l:=fun b hb x hx=>δ.2 (.inr (mem_flatMap.2 ⟨b,hb,hx⟩))
 have hzl:((nW (gJ c l) names.length).zip l).length=l.length:=by rw[length_zip];omega
 have hfin:=hP2 l.length (le_refl _);rw[←hzl,As,hzl] at hfin;refine⟨?_,hfin.fin ho⟩;refine bM (n:=80) tok Tryz.func125 rfl rfl rfl ?_;refine sg rfl (sk 1 rfl (kc hfr ?_));refine kz 1 rfl (a8 (sg rfl (aB (aK (fun i:Nat=>mk [(1,bI names),(2,.one (.c (.sl 10 (l.map aC)))),(3,.one (.vp 3 0)),(6,.one (.vp 6 0)),(7,ouV (pfR c++(l.take i).flatMap pfR)),(19,.one (.c (.sl 10 (l.map aC)))),(20,I .i64 ((l.map aC).length:Int)),(21,I .i64 i)] [(3,.var 34 (b8 c)),(6,.var 34 bR),(500,ouO (pfR c++(l.take i).flatMap pfR))]) (fun i=>i≤l.length) (fun i=>l.length-i) 0 (Aj _) (by rw[Cb,C4,A8];exact sl) ?_))));intro i hi;refine sg rfl (a8 (aA rfl (fun hb=>?_) (fun hb=>?_)))
 ·have q:=ltD hb hkL;obtain⟨b,J⟩:=aJ q;have hb':=bO aC J;have hbm:=Ab J;have hbs:=cV b;have hcb:=(ho.cgb hbm).sz;have hfb:=y6 (bE b) b (le_refl _) (by omega);have N:=zT J;have h1:=hfl i;have h2:=kI b;have hx0:(pfR c++(l.take i).flatMap pfR).length≤500000000000:=by rw[τ];omega
  generalize hG:(l.take i).flatMap pfR=G at N hx0;generalize pfR b=F at hfb N h2;have hkF:(F.map bL).length=F.length:=θ _;have hkx:((pfR c++G).map bL).length=(pfR c++G).length:=θ _;refine aD (a8 (aB (sgh [(0,.row i (aC b))] rfl (aE mixed (ak 2 [] rfl (kc hfb ?_))))));refine kz 2 rfl (ag [] rfl ⟨i+1,q,by dsimp only;omega,?_⟩);dsimp only;rw[N,←A0];exact sl (he:=⟨rfl,rfl,rfl,rfl,Go.AM.hs_ren (by simp;omega) (by simp;omega),rfl,rfl,rfl,trivial⟩) (hh:=⟨⟨_,rfl,.varS rfl⟩,⟨_,rfl,.varS rfl⟩,⟨_,rfl,.arrS (by simp)⟩,trivial⟩)
 have Y:=geD hb hkL hi;subst Y;rw[←ac];refine aL (AWp.sub (Sub.freeze (id:=500) rfl) ?_);refine sg rfl (a8 (sg rfl (AWp.sub (Sub.own (t:=10) (id:=720) 9 1 rfl rfl) ?_)));refine aB ?_;have hO:∀n,((mB (gJ c l) n).map bL).length=(mB (gJ c l) n).length:=fun n=>θ _
 refine aK (fun n:Nat=>mk [(1,bI names),(2,.one (.c (.sl 10 (l.map aC)))),(3,.one (.vp 3 0)),(6,.one (.vp 6 0)),(7,ouV (gJ c l)),(10,.one (.hs 720 0 (mB (gJ c l) n).length (mB (gJ c l) n).length)),(11,I .i64 n)] [(3,.var 34 (b8 c)),(6,.var 34 bR),(500,.arr 9 1 ((gJ c l).map bL) 2),(720,.arr 9 1 ((mB (gJ c l) n).map bL) 0)]) (fun n=>n≤aIs (gJ c l) names.length) (fun n=>aIs (gJ c l) names.length-n) 0 (Aj _) sl ?_;intro n hn;have hct:=bS (gJ c l) (pcN n) (by omega);have hit:=hI n (by omega);refine a8 (sg rfl (aA rfl (fun hb=>?_) (fun hb=>?_)))
 ·have q:n<aIs (gJ c l) names.length:=by
   have hb:((mB (gJ c l) n).length:Int)<((names.map bL).length:Int):=ψ hb;rw[ab] at hb;by_cases h:n<aIs (gJ c l) names.length
   ·exact h
   ·have e:n=aIs (gJ c l) names.length:=by omega
    rw[e] at hb;have:(mB (gJ c l) (aIs (gJ c l) names.length)).length=names.length:=nV _ _;omega
  have hll:(mB (gJ c l) n).length≤1000000:=by have:=aLa _ _ q;omega
  have hdl:=xY n (by omega);have hM:600000000000≤maxLen:=by decide
  have Z:=sD (gJ c l) n;refine aD (a8 (aB (sk 1 rfl (kc hit ?_))));refine ak 2 [] rfl ?_ (hc:=by repeat (first | exact trivial | refine⟨by first | rfl | omega | (simp;omega),?_⟩));refine az (sk 2 rfl (kc hct ?_));refine kz 1 rfl (aA rfl (fun hb=>?_) (fun hb=>?_))
  ·have hni:¬pcN n∈gJ c l:=by simpa using hb
   rw[φ hni] at Z;generalize mB (gJ c l) n=O at Z hll;refine ag [(2,.all)] rfl (ag [] rfl ⟨n+1,q,by dsimp only;omega,?_⟩);dsimp only;rw[Z];exact sl
  ·have hni:pcN n∈gJ c l:=by simpa using hb
   rw[ξ hni] at Z;refine aD (ag [] rfl ⟨n+1,q,by dsimp only;omega,?_⟩);dsimp only;rw[Z];exact sl
 have heN:n=aIs (gJ c l) names.length:=by
  have hb:¬((mB (gJ c l) n).length:Int)<((names.map bL).length:Int):=χ hb;rw[ab] at hb;by_cases h:n<aIs (gJ c l) names.length
  ·have:=aLa _ _ h;omega
  ·omega
 subst heN;refine aL (AWp.sub (Sub.freeze (id:=720) rfl) ?_);have hown:mB (gJ c l) (aIs (gJ c l) names.length)=nW (gJ c l) names.length:=rfl;rw[hown];generalize hTK:gJ c l=TK at *;generalize hOW:nW TK names.length=own at *;refine a8 (sg rfl (aB (aK (fun i:Nat=>mk [(2,.one (.c (.sl 10 (l.map aC)))),(3,.one (.vp 3 0)),(6,.one (.vp 6 0)),(10,.one (.hs 720 0 own.length own.length)),(48,bI names),(49,I .i64 ((names.map bL).length:Int)),(50,I .i64 i)] [(3,.var 34 (b8 (iR c ((names.zip own).take i)))),(6,.var 34 bR),(720,.arr 9 1 (own.map bL) 2)]) (fun i=>i≤names.length) (fun i=>names.length-i) 0 (Aj _) sl ?_)));intro i hi;refine sg rfl (a8 (aA rfl (fun hb=>?_) (fun hb=>?_)))
 ·have q:=ltD hb ab;obtain⟨s,hs⟩:=aJ q;obtain⟨o,ho'⟩:=aJ (show i<own.length by omega);have hs':=bO bL hs;have ho2:=bO bL ho';have hz:=W o (Ab ho');have hc1:=(wV hI aa hX ((names.zip own).take i) c hcg (hzpi i)).2
  have hS:=(aAt hI aa hX (m30 (iR c ((names.zip own).take i))) (iR c ((names.zip own).take i)) (le_refl _) hc1 s (vC o) (CG.vC hz hX)).imp;have N:iR c ((names.zip own).take (i+1))=eQ (m30 (iR c ((names.zip own).take i))) (iR c ((names.zip own).take i)) s (vC o):=by
   unfold iR;rw[sQ _ _ hs ho']
  refine aD (a8 (aB (sgh [(1,.row i (bL s))] rfl (aE mixed (ak 6 [(5,.row i (bL o))] rfl (kc (sY o) ?_))))));refine kc hS ?_;refine kz 1 rfl (ag [] rfl ⟨i+1,q,by dsimp only;omega,?_⟩);dsimp only;rw[N];exact sl
 have Y:=geD hb ab hi;subst Y;have hzn:(names.zip own).take names.length=names.zip own:=by
  rw[A3];rw[length_zip];omega
 rw[hzn];refine aL (a8 (sg rfl (aB (aK (fun i:Nat=>mk [(2,.one (.c (.sl 10 (l.map aC)))),(3,.one (.vp 3 0)),(6,.one (.vp 6 0)),(64,.one (.hs 720 0 own.length own.length)),(65,I .i64 (own.length:Int)),(66,I .i64 i)] [(3,.var 34 (b8 (nP (iR c (names.zip own)) ((own.zip l).take i)))),(6,.var 34 bR),(720,.arr 9 1 (own.map bL) 2)]) (fun i=>i≤own.length) (fun i=>own.length-i) 0 (Aj _) sl ?_))));intro i hi;refine sg rfl (a8 (aA rfl (fun hb=>?_) (fun hb=>?_)))
 ·have q:i<own.length:=by have:=ψ hb;omega
  obtain⟨s,hs⟩:=aJ q;obtain⟨b,J⟩:=aJ (show i<l.length by omega);have hs':=bO bL hs;have hb':=bO aC J;have hS:=(P2.step (tk:=TK) (k:=names.length) hI aa hX ho htk (by rw[hOW];exact hP2 i (by omega)) (by rw[hOW];exact Ab hs) (W s (Ab hs)) J).1.imp;have N:nP (iR c (names.zip own)) ((own.zip l).take (i+1))=eQ (m30 (nP (iR c (names.zip own)) ((own.zip l).take i))) (nP (iR c (names.zip own)) ((own.zip l).take i)) s b:=by
   generalize iR c (names.zip own)=c1;unfold nP;rw[sQ _ _ hs J]
  refine aD (a8 (aB (sgh [(2,.row i (bL s))] rfl (aE mixed (ak 6 [(4,.row i (aC b))] rfl (kc hS ?_))))));refine kz 1 rfl (ag [] rfl ⟨i+1,q,by dsimp only;omega,?_⟩);dsimp only;rw[N];exact sl
 have Y:i=own.length:=by have:=χ hb;omega
 subst Y;have hzn:(own.zip l).take own.length=own.zip l:=by
  rw[A3];rw[length_zip];omega
 rw[hzn];refine aL (sg rfl ?_);have he:wX c names l=nP (iR c (names.zip own)) (own.zip l):=by unfold wX;rw[hTK,hOW]
 rw[he];exact aF (rtC trw)
end Go.Proofs.YtglfogjcijokpaaGreatDoor
namespace Go.AM
open Go
theorem Sub.fnClo {kf:List Nat}{st:St}(t:Nat) {f:FuncId}(h:st.e t=some (.one (.c (.fn f)))):Sub kf ⟨upd st.e t (some (.one (.clo f []))),st.h,st.d⟩ st:=by
 intro G n S μ a w _ hs;refine⟨S,μ,⟨hs.inv,hs.size,hs.defers,fun s v e=>?_⟩⟩;by_cases q:s=t
 ·subst q;have hv:=hs.env s _ h;have e':v=.one (.clo f []):=by
   have:some v=some (V.one (.clo f [])):=by rw[←e];exact aI _ _ _
   cases this;rfl
  subst e';simp only[aT,b6,Rep,aW] at hv ⊢;exact⟨[],hv,rfl⟩
 ·exact hs.env s v (by rw[←e];exact(aS _ _ _ q).symm)
def a1i:BinOp→Int→Int→Option Int
 | .add,a,b=>some (IntKind.i64.wrap (a+b))
 | .sub,a,b=>some (IntKind.i64.wrap (a-b))
 | .mul,a,b=>some (IntKind.i64.wrap (a*b))
 | .quo,a,b=>if b=0 then none else some (IntKind.i64.wrap (a.tdiv b))
 | .rem,a,b=>if b=0 then none else some (a.tmod b)
 | _,_,_=>none
section
variable {P:Program}{n:Nat}{ops:Array Oper}{draw:Bool}{k d:Nat}{st:St}{pre:REs}{Q:St→Prop}{o:Oper}
theorem a1t {op:BinOp}{O ty:TypeId}{x y:Operand}{a b r:Int}(ho:o.op=.binOp op O x y ty) (hd:o.dst=some d) (J:d<n) (hx:opv st x=some (I .i64 a)) (N:opv st y=some (I .i64 b)) (q:a1i op a b=some r):
  Step P n o st ⟨opr x++opr y,[]⟩ ⟨some (d,some (I .i64 r)),[]⟩:=by
 cases op<;>simp only[a1i] at q<;>try (cases q;done)
 ·cases q;exact aP4 ho hd J hx N rfl
 ·cases q;exact aPt ho hd J hx N rfl
 ·cases q;exact aPy ho hd J hx N rfl
 ·split at q
  ·cases q
  ·rename_i hb;cases q;exact aYg ho hd J hx N hb rfl
 ·split at q
  ·cases q
  ·rename_i hb;cases q;exact aYe ho hd J hx N hb rfl
theorem kw {op:BinOp}{N ty:TypeId}{x y:Operand}{a b:Int}(r:Int) (O:a1i op a b=some r)
  (hk:kE P n ops draw (k+1) ⟨upd st.e d (some (I .i64 r)),st.h,st.d⟩ ((⟨opr x++opr y,[]⟩,⟨some (d,some (I .i64 r)),[]⟩)::pre) Q)
  (ho:ops[k]?=some o:=by rfl) (W:o.guard=none:=by rfl) (q:o.op=.binOp op N x y ty:=by rfl) (hd:o.dst=some d:=by rfl) (J:Nat.blt d n=true:=by rfl) (hx:opv st x=some (I .i64 a):=by rfl) (Y:opv st y=some (I .i64 b):=by rfl):kE P n ops draw k st pre Q:=
 k_ (g_ ho W (a1t q hd (iE J) hx Y O)) hk
end
end Go.AM
namespace Go.Proofs.YtglfogjcijokpaaGreatDoor
open Go Go.AM
set_option maxRecDepth 20000
def gN (n:Int):Core:=.mk 3 n [] zTy [] [] []
def tO (s:Str):Core:=.mk 2 0 s zTy [] [] []
def zC:Core:=.mk 0 0 [] zTy [] [] []
def aBo:Str:=[97,100,100]
def aW5:Str:=[115,117,98]
def aUz:Str:=[109,117,108]
def aO0:Str:=[100,105,118]
def nEq:Str:=[101,113]
def nLt:Str:=[108,116]
def aB1 (b:Bool):Core:=tO (if b then [84,114,117,101] else [70,97,108,115,101])
def iS (s:Str) (a b:Int):Core×Int:=
 if s=aBo then(gN (IntKind.i64.wrap (a+b)),0)
 else if s=aW5 then(gN (IntKind.i64.wrap (a-b)),0)
 else if s=aUz then(gN (IntKind.i64.wrap (a*b)),0)
 else if s=aO0 then(if b=0 then(zC,53) else(gN (IntKind.i64.wrap (a.tdiv b)),0))
 else if s=nEq then(aB1 (decide (a=b)),0)
 else if s=nLt then(aB1 (decide (a<b)),0)
 else(zC,51)
theorem aGx (n:Int):aQ Tryz.prog 35 [I .i64 n] [] (.pa (aC (gN n))) []:=aNq n
theorem aTk (s:Str):aQ Tryz.prog 86 [Go.AM.T s] [] (.pa (aC (tO s))) []:=by
 refine bM (n:=5) tok Tryz.func86 rfl rfl rfl ?_;exact sg rfl (sg rfl (aF (rtC trw)))
theorem aM8 (b:Bool):aQ Tryz.prog 156 [B b] [] (.pa (aC (aB1 b))) []:=by
 refine bM (n:=6) tok Tryz.func156 rfl rfl rfl ?_;refine sg rfl (a8 (sg rfl ?_));cases b with
 | true=>
  refine aA rfl (fun _=>a8 (aE mixed (kc (aTk [84,114,117,101]) ?_))) nofun;exact kz 1 rfl (aF (rtC trw))
 | false=>
  refine aA rfl nofun (fun _=>aD (a8 (aE mixed (kc (aTk [70,97,108,115,101]) ?_))));exact kz 1 rfl (aF (rtC trw))
theorem a0h (a b:Int):aQ Tryz.prog 151 [I .i64 a,I .i64 b] [] (.pa (aC (gN (IntKind.i64.wrap (a+b))))) []:=by
 refine bM (n:=9) tok Tryz.func151 rfl rfl rfl ?_;refine sg rfl (sk 2 rfl (kw (IntKind.i64.wrap (a+b)) rfl ?_));refine kc (aGx _) ?_;exact kz 1 rfl (aF (rtC trw))
theorem a0e (a b:Int):aQ Tryz.prog 152 [I .i64 a,I .i64 b] [] (.pa (aC (gN (IntKind.i64.wrap (a-b))))) []:=by
 refine bM (n:=9) tok Tryz.func152 rfl rfl rfl ?_;refine sg rfl (sk 2 rfl (kw (IntKind.i64.wrap (a-b)) rfl ?_));refine kc (aGx _) ?_;exact kz 1 rfl (aF (rtC trw))
theorem a0f (a b:Int):aQ Tryz.prog 153 [I .i64 a,I .i64 b] [] (.pa (aC (gN (IntKind.i64.wrap (a*b))))) []:=by
 refine bM (n:=9) tok Tryz.func153 rfl rfl rfl ?_;refine sg rfl (sk 2 rfl (kw (IntKind.i64.wrap (a*b)) rfl ?_));refine kc (aGx _) ?_;exact kz 1 rfl (aF (rtC trw))
theorem a0g (a b:Int) (hb:b≠0):aQ Tryz.prog 154 [I .i64 a,I .i64 b] [] (.pa (aC (gN (IntKind.i64.wrap (a.tdiv b))))) []:=by
 refine bM (n:=9) tok Tryz.func154 rfl rfl rfl ?_;refine sg rfl (sk 2 rfl (kw (op:=.quo) (a:=a) (b:=b) (IntKind.i64.wrap (a.tdiv b)) (φ hb) ?_));refine kc (aGx _) ?_;exact kz 1 rfl (aF (rtC trw))
theorem a2u (a b:Int):aQ Tryz.prog 155 [I .i64 a,I .i64 b] [] (.pa (aC (aB1 (decide (a=b))))) []:=by
 have h:=aM8 (decide (a=b));refine bM (n:=9) tok Tryz.func155 rfl rfl rfl ?_;refine sg rfl (sk 3 rfl (kc h ?_));exact kz 1 rfl (aF (rtC trw))
theorem a2t (a b:Int):aQ Tryz.prog 157 [I .i64 a,I .i64 b] [] (.pa (aC (aB1 (decide (a<b))))) []:=by
 have h:=aM8 (decide (a<b));refine bM (n:=9) tok Tryz.func157 rfl rfl rfl ?_;refine sg rfl (sk 3 rfl (kc h ?_));exact kz 1 rfl (aF (rtC trw))
def uT:List (List C):=[[.str aBo,.fn 151],[.str aW5,.fn 152],[.str aUz,.fn 153],[.str aO0,.fn 154],[.str nEq,.fn 155],[.str nLt,.fn 157]]
theorem zQ:kJ uT:=trivial
theorem aWa:aQ Tryz.prog 127 [] [] (.one (.c (.mp false uT))) []:=by
 refine bM (n:=3) tok Tryz.func127 rfl rfl rfl ?_;refine sg rfl (sgh [(0,.id 900)] rfl ?_ (hc:=by repeat (first | exact trivial | refine⟨by decide+kernel,?_⟩)));refine AWp.sub (Sub.fmap (id:=900) rfl (by simp[keys]) zQ) ?_;exact aF rtT
end Go.Proofs.YtglfogjcijokpaaGreatDoor
namespace Go.AM
open Go
def aBp:List (List C)→Prop
 | []=>True
 | (.int .i64 _::_)::r=>aBp r
 | _::_=>False
def n8 (m:Int):List (List C)→Option (List C)
 | []=>none
 | (.int _ n::vs)::r=>if n=m then some vs else n8 m r
 | _::r=>n8 m r
theorem aQn {r:List C}{l:List (List C)}(h:aBp (r::l)):∃n us,r=.int .i64 n::us∧aBp l:=by
 unfold aBp at h;split at h
 ·rename_i e;cases e
 ·rename_i e;cases e;exact⟨_,_,rfl,h⟩
 ·cases h
theorem u7.repI {S:Sto}{agg:Bool}{ents:List (List C)}{es:List MapEntry}(hm:aBp ents) (k:u7 S agg ents es):b7 S agg ents es:=
 k.elim (fun h=>by rw[h.1] at hm;simp[aBp] at hm) fun k=>k.elim id fun⟨T,h,_⟩=>by rw[h] at hm;simp[aBp] at hm
theorem aBn.knI {S:Sto}{b:Nat}{ents:List (List C)}(h:aBn S b ents) (hm:aBp ents):S.mapo b=none:=by
 rcases h with h | ⟨T,ks,h,_⟩
 ·exact h
 ·rw[h] at hm;simp[aBp] at hm
theorem lF {S:Sto}{agg:Bool}{m:Int}:∀(l:List (List C)) (es:List MapEntry) (i:Nat),b7 S agg l es→aBp l→
  (∀vs,n8 m l=some vs→∃(j:Nat) (e:MapEntry),Instr.findNow (.int .i64) (.int .i64 m) es i=some (some (i+j,e.val))∧(∃us,cZ S vs us∧e.val=(if agg then .agg ⟨us⟩ else us.headD undef)∧(agg=false→us.length=1)))∧
  (n8 m l=none→Instr.findNow (.int .i64) (.int .i64 m) es i=some none)
 | [],es,i,h,_=>by
  simp only[b7] at h;subst h;exact⟨fun vs hv=>by simp[n8] at hv,fun _=>rfl⟩
 | r::l,es,i,h,hm=>by
  simp only[b7] at h;obtain⟨e,q,rfl,⟨vs,h1,h2,h3⟩,h4⟩:=h;obtain⟨n,us,rfl,hm⟩:=aQn hm;simp only[cZ] at h1;obtain⟨v,vs',hv,h5,Z⟩:=h1;simp only[Rep] at h5;injection hv with N O;subst O;have I:e.key=.int .i64 n:=by rw[N,h5]
  have W:=lF (m:=m) l q (i+1) h4 hm;by_cases hs:n=m
  ·subst hs;refine⟨fun ws hw=>?_,fun hn=>by simp[n8] at hn⟩;simp only[n8,B3,Option.some.injEq] at hw;subst hw;refine⟨0,e,?_,⟨vs,Z,h2,h3⟩⟩;simp[Instr.findNow,I,Instr.sameNow]
  ·have J:Instr.findNow (.int .i64) (.int .i64 m) (e::q) i=Instr.findNow (.int .i64) (.int .i64 m) q (i+1):=by
    have Y:(m==n)=false:=beq_eq_false_iff_ne.2 fun e=>hs e.symm
    simp only[Instr.findNow,I,Instr.sameNow,B3,Y]
   refine⟨fun ws hw=>?_,fun hn=>?_⟩
   ·simp only[n8,hs,Br] at hw;obtain⟨j,e',q1,q3⟩:=W.1 ws hw;exact⟨j+1,e',by rw[J,q1,show i+1+j=i+(j+1) by omega],q3⟩
   ·simp only[n8,hs,Br] at hn;rw[J,W.2 hn]
variable {P:Program}{T:TT}{n d:Nat}{o:Oper}{st:St}
theorem qJ {t:TypeId}(hu:P.underlying t=some (.int .i64)) (b:Bool) (d:Nat) (m:Int) (w:World):(Instr.checkKey b (d+1) t (.int .i64 m)).run P w=.ok () w:=by
 simp only[Instr.checkKey,Ad,Ao hu w,κ,Ae]
theorem MapE.relI {G:Ctx}{S:Sto}{μ:Mu}{st':St}{a:Act}{w:World}{ids:List Nat}{v:V}{agg:Bool}{ents:List (List C)}{u:Value}(hs:Sim G n S μ st' a w) (h:MapE st ids v agg ents) (q:aBp ents) (hi:∀i∈ids,st'.h i=st.h i) (hv:aT S μ st'.h v u):
  ∃es:Array MapEntry,b7 S agg ents es.toList∧((u=.map none∧es= #[])∨∃b clk,u=.map (some b)∧w.heap[b]?=some (.map es clk)):=by
 cases h with
 | mr hh=>
  have I:=(hi _ (by simp)).trans hh;simp only[aT,b6] at hv;obtain⟨N,J,b,c,h1,h2,h3⟩:=hv;rw[I] at h1;cases h1;obtain⟨O,es,clk,g1,g2,g3,g4⟩:=hs.inv.obj _ _ I;rw[h2] at g1;cases g1;exact⟨es,g3.repI q,.inr ⟨_,clk,h3,g2⟩⟩
 | mp=>
  simp only[aT,b6,Rep] at hv;obtain⟨b,es,clk,h1,h2,h3⟩:=hv;refine⟨es,h3.elim id fun h3=>?_,.inr ⟨b,clk,h1,hs.inv.holds.2 _ _ h2⟩⟩;cases ents with
  | nil=>simp only[aIw] at h3
  | cons r l=>simp only[aIw] at h3;rw[h3.1] at q;simp[aBp] at q
 | nil=>
  simp only[aT,b6,Rep,aW1] at hv;exact⟨#[],by simp[b7],.inl ⟨hv,rfl⟩⟩
theorem aHo {t kt et:TypeId}{i ki ei:TI}{x y:Operand}{ok:Bool}{ids:List Nat}{agg:Bool}{m:Int}{r:Option (List C)}(Y:Tok P T) (ho:o.op=.lookup t x y ok) (hd:o.dst=some d) (hdn:d<n) (hi:T[t]?=some (some i)) (hk:i.k=.mp kt et)
  (hki:T[kt]?=some (some ki)) (hkk:ki.k=.int .i64) (Z:T[et]?=some (some ei)) (J:ei.k.agg=agg) (hy:opv st y=some (I .i64 m))
  (hrel:∀(st':St),mN ⟨opr x++opr y,ids⟩ st st'→∀(G:Ctx) (S:Sto) (μ:Mu) (a:Act) (w:World),Sim G n S μ st' a w→∃(es:Array MapEntry) (ents:List (List C)),aBp ents∧n8 m ents=r∧b7 S agg ents es.toList∧((a.eval x=.map none∧es= #[])∨∃b clk,a.eval x=.map (some b)∧w.heap[b]?=some (.map es clk))):
  Step P n o st ⟨opr x++opr y,ids⟩ ⟨some (d,some (if ok then .tup [jI ei r,B (tX r)] else jI ei r)),[]⟩:=by
 refine Step.value hd hdn fun st' ha G S μ a w hs=>?_
 obtain⟨es,ents,hms,hr,h1,h2⟩:=hrel st' ha G S μ a w hs;have h3:=eJ (aM hs hy fun t h=>ha.1 t (by simp[h]));have hu:=Ao ((Y.get hi).map hk) w;have aa:=(Y.get hki).int hkk;obtain⟨z,hz,hzr,hz1,hz2⟩:=(Y.get Z).zero_run;have N:=lF (m:=m) ents es.toList 0 h1 hms;have key:∃r0:Option (Nat×Value),(Instr.findKey kt (.int .i64 m) es.toList).run P w=.ok r0 w∧aT S μ st'.h (jI ei r) (vE r0 z)∧tX r=r0.isSome:=by
  cases O:n8 m ents with
  | some vs=>
   obtain⟨j,e,q1,us,W,q4,q5⟩:=N.1 vs O;refine⟨some (0+j,e.val),?_,?_,by rw[←hr,O];rfl⟩
   ·simp only[Instr.findKey,Ad,Ao aa w,κ,q1,Ae]
   ·rw[←hr,O];simp only[jI,J];cases agg with
    | true=>
     simp only[B3,aT] at q4 ⊢;exact⟨us,q4,W⟩
    | false=>
     simp only[A1,Br] at q4 ⊢;have hl:=q5 rfl;have hl2:=W.length
     match vs,us,W,hl,hl2 with
     | [c],[u],W,_,_=>
      simp only[cZ] at W;obtain⟨v,vs',hv,hc,_⟩:=W;cases hv;rw[q4];simp only[aT,b6];exact hc
  | none=>
   have q1:=N.2 O;refine⟨none,?_,?_,by rw[←hr,O];rfl⟩
   ·simp only[Instr.findKey,Ad,Ao aa w,κ,q1,Ae]
   ·rw[←hr,O];simp only[jI,J];have q:=hzr S;cases agg with
    | true=>
     rw[J,ξ rfl] at hz1;simp only[B3,aT];exact⟨z.cells.toList,hz1,q⟩
    | false=>
     obtain⟨u,hu1,hu2⟩:=hz2 J;simp only[A1,Br];have hl:=(Y.get Z).len;rw[(Y.get Z).one J] at hl
     match hzz:ei.zero,hl with
     | [c],_=>
      rw[hzz,hu1] at q;simp only[cZ] at q;obtain⟨v,vs',hv,hc,_⟩:=q;cases hv;rw[hu2];simp only[aT,b6];exact hc
 obtain⟨r0,hf,hv,hb⟩:=key;have hck:=fun b=>qJ (P:=P) aa b 9999 m w
 have fin:aT S μ st'.h (if ok then .tup [jI ei r,B (tX r)] else jI ei r) (if ok then .tuple #[(vE r0 z),.bool r0.isSome] else(vE r0 z)):=by
  cases ok with
  | false=>exact hv
  | true=>
   simp only[B3,aT,bG];exact⟨[_,.bool r0.isSome],rfl,_,[.bool r0.isSome],rfl,hv,.bool r0.isSome,[],rfl,by rw[hb];simp[b6,Rep],rfl⟩
 refine⟨_,?_,fin⟩;rcases h2 with⟨h2,rfl⟩ | ⟨b,clk,h2,h4⟩
 ·simp only[execOp,ho,h2,h3,Ad,Instr.lookup,hu,κ,Ae];rw[show(10000:Nat)=9999+1 from rfl,hck];simp only[κ,hf];cases r0 with
  | none=>simp only[Ad,hz w,κ,Ae];rfl
  | some p=>rfl
 ·simp only[execOp,ho,h2,h3,Ad,Instr.lookup,hu,κ,Ae,gP w b es clk h4];rw[show(10000:Nat)=9999+1 from rfl,hck];simp only[κ,hf];cases r0 with
  | none=>simp only[Ad,hz w,κ,Ae];rfl
  | some p=>rfl
theorem aKg {t J N:TypeId}{i O ei:TI}{x y:Operand}{ok:Bool}{v:V}{ids:List Nat}{agg:Bool}{ents:List (List C)}{m:Int}{r:Option (List C)}(hT:Tok P T) (ho:o.op=.lookup t x y ok) (hd:o.dst=some d) (W:d<n) (hi:T[t]?=some (some i)) (hk:i.k=.mp J N)
  (Y:T[J]?=some (some O)) (Z:O.k=.int .i64) (aa:T[N]?=some (some ei)) (ab:ei.k.agg=agg) (hx:opv st x=some v) (hm:MapE st ids v agg ents) (q:aBp ents) (hy:opv st y=some (I .i64 m)) (hr:n8 m ents=r):
  Step P n o st ⟨opr x++opr y,ids⟩ ⟨some (d,some (if ok then .tup [jI ei r,B (tX r)] else jI ei r)),[]⟩:=
 aHo hT ho hd W hi hk Y Z aa ab hy fun _ ha _ _ _ _ _ hs=>by
  obtain⟨es,h1,h2⟩:=hm.relI hs q ha.2 (aM hs hx fun t h=>ha.1 t (by simp[h]));exact⟨es,ents,q,hr,h1,h2⟩
theorem eW {t kt et:TypeId}{i ki:TI}{x y z:Operand}{id:Nat}{agg:Bool}{ents:List (List C)}{m:Int}{v:V}{rs:List R}{cs:List C}{ids:List Nat}(hT:Tok P T) (ho:o.op=.insert t x y z) (hd:o.dst=none) (hi:T[t]?=some (some i)) (hk:i.k=.mp kt et)
  (hki:T[kt]?=some (some ki)) (hkk:ki.k=.int .i64) (hx:opv st x=some (.one (.mr id))) (hh:st.h id=some (.map agg ents)) (O:aBp ents) (hno:n8 m ents=none) (hy:opv st y=some (I .i64 m))
  (hz:opv st z=some v) (q:(match v with | .one _=>!agg | .pa _=>agg | .ma _=>agg | _=>false)=true) (hc:i6 v=some rs) (hp:PureL st.h ids rs cs):
  Step P n o st ⟨opr x++opr y++opr z,id::ids⟩ ⟨none,[(id,some (.map agg (ents++[.int .i64 m::cs])))]⟩:=by
 refine Step.turn hd hh (by simp) (by simp[AObj.succ]) fun st' ha hh' G S μ a w hs=>?_
 have h1:=aM hs hx fun t h=>ha.1 t (by simp[h])
 have h3:=eJ (aM hs hy fun t h=>ha.1 t (by simp[h]));have hv:=aM hs hz fun t h=>ha.1 t (by simp[h])
 simp only[aT,b6] at h1;obtain⟨agg',ents',b,c,q1,q2,q3⟩:=h1;obtain⟨b',es,clk,g1,g2,g3,g4⟩:=hs.inv.obj id _ hh';rw[g1] at q2;cases q2;have g3:=g3.repI O;have aa:=hp.rel (fun i h=>ha.2 i (by simp[h])) hs.inv.obj (dW hv hc);have W:a.eval z=(if agg then .agg ⟨(a.eval z).cells.toList⟩ else(a.eval z).cells.toList.headD undef)∧(agg=false→(a.eval z).cells.toList.length=1):=by
  cases v with
  | one r=>
   simp at q;subst q;simp only[aT] at hv;rw[hv.one.1];simp
  | pa l=>
   simp at q;subst q;simp only[aT] at hv;obtain⟨vs,hv,_⟩:=hv;rw[hv];simp[Value.cells]
  | ma l=>
   simp at q;subst q;simp only[aT] at hv;obtain⟨vs,hv,_⟩:=hv;rw[hv];simp[Value.cells]
  | tup l=>simp at q
 have Z:=(hT.get hki).int hkk;have hu:=Ao ((hT.get hi).map hk) w;have Y:=(lF (m:=m) ents es.toList 0 g3 O).2 hno;have hck:=fun b=>qJ (P:=P) Z b 9999 m w
 have ab:∀(ob:Obj),(setObj b ob).run P w=.ok () { w with heap:=w.heap.setIfInBounds b ob }:=by
  intro ob;exact MapKept.run_setObj_map _ g2
 obtain⟨N,J,ac,ad⟩:∃N J,(execOp a.eval o).run P w=.ok .skip { w with heap:=w.heap.setIfInBounds b (.map N J) }∧b7 S agg (ents++[.int .i64 m::cs]) N.toList:=by
  refine⟨es.push { key:=.int .i64 m,val:=a.eval z,born:=clk },clk+1,?_,?_⟩
  ·simp only[execOp,ho,q3,h3,Ad,Instr.mapUpdate,hu,κ,gP w b es clk g2];rw[show(10000:Nat)=9999+1 from rfl,hck];simp only[κ,Instr.findKey,Ad,Ao Z w,Y,Ae,ab]
  ·rw[Array.toList_push];refine dO g3 ?_;simp only[b7];refine⟨_,[],rfl,⟨(a.eval z).cells.toList,?_,W.1,W.2⟩,rfl⟩;simp only[cZ];exact⟨_,_,rfl,by simp[Rep],aa⟩
 have hW:∀ob,WChg w { w with heap:=w.heap.setIfInBounds b ob } b ob:=fun ob=>by
  have hlt:=bZ g2;refine⟨rfl,rfl,rfl,by simp,by simp[hlt],fun k _ hne=>?_⟩;show(w.heap.setIfInBounds b ob)[k]?=_;rw[Bq,φ (fun e=>hne e.symm)]
 have hSc:∀(ob:Obj) (o:Nat) (v:Value),S.cell b o=some v→∃vs t fr,ob=.cells vs t fr∧vs[o]?=some v:=fun ob o v e=>by
  obtain⟨vs,t,fr,p1,_⟩:=hs.inv.holds.1 b o v e;rw[g2] at p1;cases p1
 have g4:=g4.knI O;have hSm:∀m,S.mapo b=some m→w.heap.size≤b:=fun m e=>by rw[g4] at e;cases e
 exact⟨_,.map N J,b,(0,0),ac,g1,hW _,⟨b,_,J,aI _ _ _,(hW _).new,.inr (.inl ad),.inl g4⟩,hSc _,hSm⟩
theorem Sub.fmapI {kf:List Nat}{st:St}{id:Nat}{agg:Bool}{ents:List (List C)}(hid:st.h id=some (.map agg ents)) (O:id∉kf) (W:aBp ents):Sub kf ⟨fun t=>(st.e t).map (V.fz id (.map agg ents)),hfz id (.map agg ents) st.h,st.d⟩ st:=by
 intro G n S μ a w Y hs;obtain⟨b,es,clk,h1,h2,h3,h4⟩:=hs.inv.obj id _ hid;obtain⟨S',I,J,N,hle,hh⟩:=aFy hs.inv.holds h2;refine⟨S',μ,oD hid rfl O Y hs hle hh ?_ (fun q hb=>⟨fun _=>by rw[I],?_⟩) (Sto.free_of hs.inv.fre (b:=b) (fun q hb=>⟨fun _=>by rw[I],N q hb⟩) fun te lo hi e=>by rw[J] at e;cases e)⟩
 ·intro q c hm;rw[h1] at hm;cases hm;exact⟨es,clk,J,.inl (b7.mono hle _ _ _ (h3.repI W))⟩
 ·exact N q fun e=>hb (0,0) (by rw[e];exact h1)
end Go.AM
namespace Go.Proofs.YtglfogjcijokpaaGreatDoor
open Go Go.AM
set_option maxRecDepth 20000
def fmR (k n:Int) (f:FuncId):List C:=[.int .i64 k,.int .i64 n,.fn f]
def iC:List (List C):=[fmR 1 0 109,fmR 2 0 110,fmR 3 0 111,fmR 4 2 112,fmR 5 1 113,fmR 6 1 114,fmR 7 1 115,fmR 8 1 116,fmR 9 1 117,fmR 10 2 118,fmR 11 0 119]
theorem aWf:aQ Tryz.prog 61 [] [] (.one (.c (.mp true iC))) []:=by
 refine bM (n:=14) tok Tryz.func61 rfl rfl rfl ?_;refine sg rfl (skh 2 [(0,.id 620)] rfl (k_ (g_ rfl rfl (eW (id:=620) (ents:=iC.take 0) tok rfl rfl (tg rfl) rfl (tg rfl) rfl rfl rfl trivial rfl rfl rfl rfl rfl (.c .refl (.fn .nil)))) ?_));refine ak 1 [] rfl (k_ (g_ rfl rfl (eW (id:=620) (ents:=iC.take 1) tok rfl rfl (tg rfl) rfl (tg rfl) rfl rfl rfl trivial rfl rfl rfl rfl rfl (.c .refl (.fn .nil)))) ?_);refine ak 1 [] rfl (k_ (g_ rfl rfl (eW (id:=620) (ents:=iC.take 2) tok rfl rfl (tg rfl) rfl (tg rfl) rfl rfl rfl trivial rfl rfl rfl rfl rfl (.c .refl (.fn .nil)))) ?_);refine ak 1 [] rfl (k_ (g_ rfl rfl (eW (id:=620) (ents:=iC.take 3) tok rfl rfl (tg rfl) rfl (tg rfl) rfl rfl rfl trivial rfl rfl rfl rfl rfl (.c .refl (.fn .nil)))) ?_);refine ak 1 [] rfl (k_ (g_ rfl rfl (eW (id:=620) (ents:=iC.take 4) tok rfl rfl (tg rfl) rfl (tg rfl) rfl rfl rfl trivial rfl rfl rfl rfl rfl (.c .refl (.fn .nil)))) ?_);refine ak 1 [] rfl (k_ (g_ rfl rfl (eW (id:=620) (ents:=iC.take 5) tok rfl rfl (tg rfl) rfl (tg rfl) rfl rfl rfl trivial rfl rfl rfl rfl rfl (.c .refl (.fn .nil)))) ?_);refine ak 1 [] rfl (k_ (g_ rfl rfl (eW (id:=620) (ents:=iC.take 6) tok rfl rfl (tg rfl) rfl (tg rfl) rfl rfl rfl trivial rfl rfl rfl rfl rfl (.c .refl (.fn .nil)))) ?_);refine ak 1 [] rfl (k_ (g_ rfl rfl (eW (id:=620) (ents:=iC.take 7) tok rfl rfl (tg rfl) rfl (tg rfl) rfl rfl rfl trivial rfl rfl rfl rfl rfl (.c .refl (.fn .nil)))) ?_);refine ak 1 [] rfl (k_ (g_ rfl rfl (eW (id:=620) (ents:=iC.take 8) tok rfl rfl (tg rfl) rfl (tg rfl) rfl rfl rfl trivial rfl rfl rfl rfl rfl (.c .refl (.fn .nil)))) ?_);refine ak 1 [] rfl (k_ (g_ rfl rfl (eW (id:=620) (ents:=iC.take 9) tok rfl rfl (tg rfl) rfl (tg rfl) rfl rfl rfl trivial rfl rfl rfl rfl rfl (.c .refl (.fn .nil)))) ?_);refine ak 1 [] rfl (k_ (g_ rfl rfl (eW (id:=620) (ents:=iC.take 10) tok rfl rfl (tg rfl) rfl (tg rfl) rfl rfl rfl trivial rfl rfl rfl rfl rfl (.c .refl (.fn .nil)))) ?_);refine kz 2 rfl (AWp.sub (Sub.fmapI (id:=620) (agg:=true) (ents:=iC) rfl (by simp[keys]) trivial) ?_);exact aF rtT
theorem lQ:aQ Tryz.prog 62 [B true] [] (.tup []) []:=by
 refine bM (n:=6) tok Tryz.func62 rfl rfl rfl ?_;exact sg rfl (aA rfl nofun (fun _=>aD ⟨.inl rfl,⟨_,_,.nil,.nil,rfl⟩,trivial,rfl⟩))
theorem sW {b:Bool}(h:b=true):aQ Tryz.prog 62 [B b] [] (.tup []) []:=by subst h;exact lQ
end Go.Proofs.YtglfogjcijokpaaGreatDoor
namespace Go.AM
open Go
section
variable {fn:Func}{st:St}{hin hout:List (Nat×AObj)}{res res2 res3:V}
theorem jX {tr:Tr}{a t u:Nat}{i:TI}{id off tv:Nat}{cells:List R}{v v2:V}{ids q:List Nat}(hw:tr.wf=true) (I:fn.results.toList=[.cell a t,.tmp u]:=by rfl) (hi:tr.get t=some i:=by rfl) (ha:st.e a=some (.one (.vp id off)):=by rfl) (hh:st.h id=some (.var tv cells):=by rfl) (hb:Nat.ble (off+i.size) cells.length=true:=by rfl) (hv:qS i ((cells.drop off).take i.size)=some v:=by rfl) (hu:st.e u=some v2:=by rfl)
  (hc:Conv st.h ids v res:=by first | exact .refl | exact .one (.c .nl .nil) | ((first | apply Go.AM.Conv.pa | apply Go.AM.Conv.agg);repeat (first | exact .nil | apply Go.AM.PureL.c .refl | apply Go.AM.PureL.c .nl | (apply Go.AM.PureL.hs;rfl;(first | rfl | assumption | simp);(first | rfl | exact Go.AM.take_all (by first | assumption | rfl | (simp;done)) | exact Go.AM.take_map.symm)))))
  (hc2:Conv st.h q v2 res2:=by exact .refl)
  (ho:dM (fun p=>∃o,st.h p.1=some o∧Ole (fun i=>i) o p.2) hout:=by repeat (first | exact trivial | refine⟨⟨_,rfl,by first | exact Go.AM.Ole.arr | exact Go.AM.Ole.var rfl | exact Go.AM.Ole.varS rfl⟩,?_⟩))
  (hok:(subset (V.tup [res,res2]).refs (keys hout)&&subset (cO hout) (keys hout)&&distinct (keys hout)&&subset (keys hin) (keys hout)&&(hin.all fun p=>p.2.plain)&&(hout.all fun p=>p.2.plain))=true:=by rfl):(Exit.ret=.normal∨Exit.ret=.ret)∧Fin tr.flat fn st hin (.tup [res,res2]) hout:=
 ⟨.inr rfl,⟨[v,v2],[res,res2],by rw[I];exact .cell ha (Tr.get_ok hw hi) hh hb hv (.tmp hu .nil),.cons hc (.cons hc2 .nil),rfl⟩,ho,hok⟩
theorem a09 {tr:Tr}{a t u J:Nat}{i:TI}{id off tv:Nat}{cells:List R}{v v2 v3:V}{ids q I:List Nat}(hw:tr.wf=true) (W:fn.results.toList=[.cell a t,.tmp u,.tmp J]:=by rfl) (hi:tr.get t=some i:=by rfl) (ha:st.e a=some (.one (.vp id off)):=by rfl) (hh:st.h id=some (.var tv cells):=by rfl) (hb:Nat.ble (off+i.size) cells.length=true:=by rfl) (hv:qS i ((cells.drop off).take i.size)=some v:=by rfl) (hu:st.e u=some v2:=by rfl) (N:st.e J=some v3:=by rfl)
  (hc:Conv st.h ids v res:=by first | exact .refl | exact .one (.c .nl .nil) | ((first | apply Go.AM.Conv.pa | apply Go.AM.Conv.agg);repeat (first | exact .nil | apply Go.AM.PureL.c .refl | apply Go.AM.PureL.c .nl | (apply Go.AM.PureL.hs;rfl;(first | rfl | assumption | simp);(first | rfl | exact Go.AM.take_all (by first | assumption | rfl | (simp;done)) | exact Go.AM.take_map.symm)))))
  (hc2:Conv st.h q v2 res2:=by exact .refl) (O:Conv st.h I v3 res3:=by exact .refl)
  (ho:dM (fun p=>∃o,st.h p.1=some o∧Ole (fun i=>i) o p.2) hout:=by repeat (first | exact trivial | refine⟨⟨_,rfl,by first | exact Go.AM.Ole.arr | exact Go.AM.Ole.var rfl | exact Go.AM.Ole.varS rfl⟩,?_⟩))
  (hok:(subset (V.tup [res,res2,res3]).refs (keys hout)&&subset (cO hout) (keys hout)&&distinct (keys hout)&&subset (keys hin) (keys hout)&&(hin.all fun p=>p.2.plain)&&(hout.all fun p=>p.2.plain))=true:=by rfl):(Exit.ret=.normal∨Exit.ret=.ret)∧Fin tr.flat fn st hin (.tup [res,res2,res3]) hout:=
 ⟨.inr rfl,⟨[v,v2,v3],[res,res2,res3],by rw[W];exact .cell ha (Tr.get_ok hw hi) hh hb hv (.tmp hu (.tmp N .nil)),.cons hc (.cons hc2 (.cons O .nil)),rfl⟩,ho,hok⟩
end
end Go.AM
namespace Go.Proofs.YtglfogjcijokpaaGreatDoor
open Go Go.AM
set_option maxRecDepth 20000
set_option maxHeartbeats 4000000
structure Fld where
 name:Str
 tag:Int
 many:Int
 arity:Int
 ty:Ty
def cR (x:Fld):List C:=[.str x.name,.int .i64 x.tag,.int .i64 x.many,.int .i64 x.arity]++aO x.ty
structure Mod where
 fields:List Fld
 binds:List Bind
def lJ (m:Mod):List C:=[.sl 8 (m.fields.map cR),.sl 15 (m.binds.map bJ)]
abbrev CE:Type:=Core×Int
def fD (p:CE):V:=.tup [.pa (aC p.1),I .i64 p.2]
def aL7 (sh:Bool) (p:CE) (g:Core→Core):CE:=if sh then(zC,51) else if p.2=0 then(g p.1,0) else(zC,p.2)
noncomputable def j6 (a:Alt) (c:Core):Option Core:=
 if a.form=3 then some a.body
 else if a.form=2 then(if c.form=3∧c.n=a.n then some a.body else none)
 else match gvC c with
  | some (s,l)=>if s=a.name∧l.length=a.vars.length then some (wX a.body a.vars l) else none
  | none=>none
def aE4 (c:Core) (i:Nat) (r:Core):Core:=match c with | .mk f n s t ks bs al=>.mk f n s t (ks.set i r) bs al
def yL (st:Core→CE) (c:Core) (i:Nat):CE:=match c.kids[i]? with
 | some x=>aL7 (shC x) (st x) (aE4 c i)
 | none=>(zC,51)
def kN (bs:List Bind) (b:Bind):Core:=.mk 8 0 [] zTy [b.body] bs []
noncomputable def dR (bd:List Bind):Nat→Core→CE
 | 0,_=>(zC,51)
 | k+1,c=>
  let hd:=c.kids.headD zC
  if c.form=1 then(match bd.find? fun b=>decide (b.name=c.name) with | some b=>(b.body,0) | none=>(zC,51))
  else if c.form=4∨c.form=6 then
   (if c.form=4∧hd.form=5 then(eQ (m30 (hd.kids.headD zC)) (hd.kids.headD zC) hd.name (c.kids.getD 1 zC),0)
   else if c.form=6∧hd.form=7 then(sTR (m30 (hd.kids.headD zC)) (hd.kids.headD zC) hd.name c.ty,0)
   else yL (dR bd k) c 0)
  else if c.form=8 then(wX hd (c.binds.map Bind.name) (c.binds.map (kN c.binds)),0)
  else if c.form=9 then(if shC hd then(match c.alts.findSome? fun a=>j6 a hd with | some r=>(r,0) | none=>(zC,52)) else yL (dR bd k) c 0)
  else if c.form=10 then
   (if ¬shC hd then yL (dR bd k) c 0
   else if ¬shC (c.kids.getD 1 zC) then yL (dR bd k) c 1
   else if hd.form=3∧(c.kids.getD 1 zC).form=3 then iS c.name hd.n (c.kids.getD 1 zC).n
   else(zC,51))
  else if c.form=11 then(zC,52)
  else(zC,51)
theorem aUb {α:Type}(g:α→List C) (l:List α) (i:Nat) (x:α):(l.map g).set i (g x)=(l.set i x).map g:=by
 induction l generalizing i with
 | nil=>rfl
 | cons y l q=>cases i with
  | zero=>rfl
  | succ i=>show g y::(l.map g).set i (g x)=g y::(l.set i x).map g;rw[q]
theorem a0j (f n:Int) (s:Str) (t:Ty) (ks:List Core) (bs:List Bind) (al:List Alt) (i:Nat) (r:Core) (hi:i<ks.length) (hk:ks.length≤600000000000):
  aQ Tryz.prog 150 ([.pa (aC r)]++[R.vp 4 0,R.vp 5 0].map V.one) [(4,.var 34 (b8 (.mk f n s t ks bs al))),(5,.var 3 [.c (.int .i64 i)])] (.pa (aC (.mk f n s t (ks.set i r) bs al))) [(4,.var 34 (b8 (.mk f n s t (ks.set i r) bs al))),(5,.var 3 [.c (.int .i64 i)])]:=by
 have I:(aR ks).length=ks.length:=by rw[bA,θ]
 have J:=oR (aR ks) (by omega);have q:(aR ks).set i (aC r)=aR (ks.set i r):=by rw[bA,bA,aUb]
 have N:(aR (ks.set i r)).length=ks.length:=by rw[bA,θ,Cn]
 obtain⟨x,hx⟩:=aJ hi;have O:(aR ks)[i]?=some (aC x):=by rw[bA];exact bO aC hx
 refine bM (n:=15) tok Tryz.func150 rfl rfl rfl ?_;refine sgh [(0,.id 3),(1,.id 6)] rfl (sk 2 rfl (kc J ?_));refine kz 2 rfl (sgh [(5,.row i (aC x))] rfl (AWp.sub (Sub.freeze (id:=702) rfl) ?_));refine AWp.sub (Sub.varPure (x:=4) (cs:=aC (.mk f n s t (ks.set i r) bs al)) rfl (.c .refl (.c .refl (.c .refl (.c .refl (.c .refl (.c .refl (.c .refl (.hs rfl (by rw[Cn]) (by rw[Cc];show aR (ks.set i r)=List.take (aR ks).length ((aR ks).set i (aC r));rw[q,A3];rw[N,I];exact le_refl _) (.c .refl (.c .refl .nil))))))))))) ?_;exact sg rfl (aF (rtC trw))
def kO (c:Core) (i:Nat):List (Nat×AObj):=[(4,.var 34 (b8 c)),(5,.var 3 [.c (.int .i64 i)])]
def aAe (sh:Bool) (p:CE) (c:Core) (i:Nat):Core:=if sh then c else if p.2=0 then aE4 c i p.1 else c
theorem aQ8 (m:Mod) (X:Nat) (c x:Core) (i:Nat) (p:CE) (hi:i<c.kids.length) (hk:c.kids.length≤600000000000) (Y:dD (QL X) x) (N:bE x≤570000000000) (q:shC x=false→aQ Tryz.prog 31 [.pa (lJ m),.pa (aC x)] [] (fD p) []):
  aQ Tryz.prog 149 [.pa (lJ m),.pa (aC x),.one (.clo 150 [.vp 4 0,.vp 5 0])] (kO c i) (fD (aL7 (shC x) p (aE4 c i))) (kO (aAe (shC x) p c i) i):=by
 have O:=y3 X x Y N;unfold kO;refine bM (n:=26) tok Tryz.func149 rfl rfl rfl ?_;refine sgh [(0,.id 13),(1,.id 14),(2,.id 16)] rfl (a8 (sk 1 rfl (kc O ?_)));refine az ?_;cases Z:shC x with
 | true=>
  exact aA rfl (fun _=>sg rfl (aF (jX trw))) nofun
 | false=>
  have q:=q Z;refine aA rfl nofun (fun _=>aD (sk 2 rfl (kc q ?_)));refine kz 6 rfl (a8 (sg rfl (aA rfl (fun hb=>?_) (fun hb=>?_))))
  ·have he:¬p.2=0:=by
    intro h;have hb:(!decide (p.2=0))=true:=hb;rw[Ah h] at hb;cases hb
   have I:aL7 false p (aE4 c i)=(zC,p.2):=by unfold aL7;rw[φ A5,φ he]
   have J:aAe false p c i=c:=by unfold aAe;rw[φ A5,φ he]
   rw[I,J];exact sg rfl (aF (jX trw))
  ·have he:p.2=0:=by
    have hb:(!decide (p.2=0))=false:=hb;by_cases h:p.2=0
    ·exact h
    ·rw[Am h] at hb;cases hb
   have I:aL7 false p (aE4 c i)=(aE4 c i p.1,0):=by unfold aL7;rw[φ A5,ξ he]
   have J:aAe false p c i=aE4 c i p.1:=by unfold aAe;rw[φ A5,ξ he]
   rw[I,J];obtain⟨f,n,s,t,ks,bs,al⟩:=c;have W:=a0j f n s t ks bs al i p.1 hi hk;refine aD (sk 2 rfl (kv (args:=[.pa (aC p.1)]) W ?_));exact kz 2 rfl (aF (jX trw))
theorem a2x (m:Mod) (X:Nat) (c x:Core) (i:Nat) (st:Core→CE) (hx:c.kids[i]?=some x) (hk:c.kids.length≤600000000000) (N:dD (QL X) x) (q:bE x≤570000000000) (J:shC x=false→aQ Tryz.prog 31 [.pa (lJ m),.pa (aC x)] [] (fD (st x)) []):
  aQ Tryz.prog 124 [.pa (lJ m),.pa (aC c),I .i64 i] [] (fD (yL st c i)) []:=by
 have hi:i<c.kids.length:=(Aa.1 hx).1
 have hw:=aQ8 m X c x i (st x) hi hk N q J;have O:(aR c.kids)[i]?=some (aC x):=by rw[bA];exact bO aC hx
 have he:yL st c i=aL7 (shC x) (st x) (aE4 c i):=by unfold yL;rw[hx]
 rw[he];obtain⟨f,n,s,t,ks,bs,al⟩:=c;unfold kO at hw;refine bM (n:=18) tok Tryz.func124 rfl rfl rfl ?_;refine sg rfl (skh 7 [(4,.row i (aC x))] rfl (kc hw ?_));exact kz 4 rfl (aF (jX trw))
end Go.Proofs.YtglfogjcijokpaaGreatDoor
namespace Go.AM
open Go
section
variable {P:Program}{n:Nat}
end
theorem Step.retell {P:Program}{n:Nat}{o:Oper}{st:St}{rd:Rd}{f:Eff}(t:Nat) {u I:V}(h:st.e t=some u) (hu:∀S μ H v,aT S μ H u v↔aT S μ H I v) (hs:Step P n o ⟨upd st.e t (some I),st.h,st.d⟩ rd f) (ht:t∈rd.e):Step P n o st rd f:=by
 intro st' ha G S μ a w K Q N hk;have W:st'.e t=some u:=(ha.1 t ht).trans h;refine hs ⟨upd st'.e t (some I),st'.h,st'.d⟩ ⟨fun s hs=>?_,ha.2⟩ G S μ a w K Q ?_ fun S1 Z a1 w1 h1=>hk S1 Z a1 w1 ?_
 ·show upd st'.e t (some I) s=upd st.e t (some I) s;by_cases e:s=t
  ·subst e;rw[aI,aI]
  ·rw[aS _ _ _ e,aS _ _ _ e];exact ha.1 s hs
 ·refine⟨N.inv,N.size,N.defers,fun s v e=>?_⟩;by_cases J:s=t
  ·subst J;have e':I=v:=by
    have:some I=some v:=by rw[←e];exact(aI _ _ _).symm
    cases this;rfl
   subst e';exact(hu _ _ _ _).1 (N.env s _ W)
  ·exact N.env s v (by rw[←e];exact(aS _ _ _ J).symm)
 ·refine⟨h1.inv,h1.size,h1.defers,fun s v e=>?_⟩;obtain⟨fd,fh⟩:=f;cases fd with
  | none=>
   by_cases J:s=t
   ·subst J;have e0:st'.e s=some v:=e;rw[W] at e0;cases e0;exact(hu _ _ _ _).2 (h1.env s I (aI _ _ _))
   ·exact h1.env s v (by rw[←e];exact aS _ _ _ J)
  | some q=>
   obtain⟨d,Y⟩:=q;by_cases O:s=d
   ·subst O;refine h1.env s v ?_;have e0:upd st'.e s Y s=some v:=e;show upd (upd st'.e t (some I)) s Y s=some v;rw[aI] at e0 ⊢;exact e0
   ·have e0:upd st'.e d Y s=some v:=e;rw[aS _ _ _ O] at e0;by_cases J:s=t
    ·subst J;rw[W] at e0;cases e0;refine(hu _ _ _ _).2 (h1.env s I ?_);show upd (upd st'.e s (some I)) d Y s=some I;rw[aS _ _ _ O,aI]
    ·refine h1.env s v ?_;show upd (upd st'.e t (some I)) d Y s=some v;rw[aS _ _ _ O,aS _ _ _ J];exact e0
theorem aVn {f:FuncId}:∀S μ H v,aT S μ H (.one (.c (.fn f))) v↔aT S μ H (.one (.clo f [])) v:=fun S μ H v=>by
 simp only[aT,b6,Rep,aW];exact⟨fun h=>⟨[],h,rfl⟩,fun⟨vs,h1,h2⟩=>by rw[h1,h2]⟩
section
variable {P:Program}{n:Nat}{ops:Array Oper}{draw:Bool}{k d:Nat}{st:St}{pre:REs}{Q:St→Prop}{o:Oper}{f:FuncId}{xs:Array Operand}{ts:Array TypeId}{ids:List Nat}{args:List V}{res:V}{hin hout:List (Nat×AObj)}
theorem kvF {x:Operand}{s:Nat}(hf:aQ P f (args++(([]:List R)).map V.one) hin res hout)
  (hk:kE P n ops draw (k+1) ⟨upd st.e d (some res),updL st.h (outs hout),st.d⟩ ((⟨opr x++dH xs.toList,ids++keys hin++keys hout⟩,⟨some (d,some res),outs hout⟩)::pre) Q)
  (hb:eG P f:=by exact rH (by kernel_rfl)) (ho:ops[k]?=some o:=by rfl) (N:o.guard=none:=by rfl) (I:o.op=.call { callee:=.value x,args:=xs,argTypes:=ts }:=by rfl) (hd:o.dst=some d:=by rfl) (J:Nat.blt d n=true:=by rfl) (q:x=.tmp s:=by rfl) (hx:st.e s=some (.one (.c (.fn f))):=by rfl)
  (ha:ArgsV ⟨upd st.e s (some (.one (.clo f (([]:List R))))),st.h,st.d⟩ ids xs.toList args:=by repeat (first | exact .nil | (apply Go.AM.ArgsV.cons rfl;(first | exact .refl | exact .one (.c .nl .nil) | exact .one (.c .sn .nil) | exact .one (.hs rfl (by first | rfl | simp) (by first | rfl | (simp;done) | (simp[Go.AM.take_map];done) | exact Go.AM.take_map.symm) .nil) | exact Go.AM.hs_all rfl rfl (by first | rfl | assumption | (simp;done) | (simp;omega)) (by first | rfl | assumption | (simp;done)) | ((first | apply Go.AM.Conv.pa | apply Go.AM.Conv.agg);repeat (first | exact .nil | apply Go.AM.PureL.c .refl | apply Go.AM.PureL.c .nl | apply Go.AM.PureL.c .sn | (apply Go.AM.PureL.hs;rfl;(first | rfl | simp);(first | rfl | (simp;done) | (simp[Go.AM.take_map];done) | exact Go.AM.take_map.symm))))))))
  (hin':dM (fun p=>st.h p.1=some p.2) hin:=by repeat (first | exact trivial | refine⟨rfl,?_⟩)) (hout':dM (fun p=>p.1∈keys hin∨st.h p.1=none) hout:=by repeat (first | exact trivial | refine⟨.inr rfl,?_⟩ | refine⟨.inl (by decide),?_⟩ | refine⟨.inl (by repeat (first | exact List.Mem.head _ | apply List.Mem.tail)),?_⟩)) (hok:callOk (args++(([]:List R)).map V.one) hin=true:=by rfl):kE P n ops draw k st pre Q:=
 k_ (g_ ho N (Step.retell s hx aVn (aKp hin hout hb I hd (iE J) (by subst q;exact aI _ _ _) hf ha hin' hout' hok) (by subst q;simp[opr]))) hk
end
section
variable {P:Program}{n:Nat}{o:Oper}{st:St}{d:Nat}{T:TT}
end
end Go.AM
namespace Go.Proofs.YtglfogjcijokpaaGreatDoor
open Go Go.AM
set_option maxRecDepth 20000
structure Wd where
 fields:List Fld
 env:List (Str×Ty)
 ps:List (Str×Ty)
 deep:Nat
def fI (p:Str×Ty):List C:=.str p.1::aO p.2
def eM (w:Wd):List C:=[.sl 8 (w.fields.map cR),.sl 5 (w.env.map fI),.sl 1 ((w.ps.map (·.1)).map bL),.sl 4 ((w.ps.map (·.2)).map aO),.int .i64 w.deep]
theorem tQ (w:Wd) (c:Core) {r:Ty}{n:Nat}{F:FuncId}(hf:n8 c.form iC=some [.int .i64 n,.fn F]) (hk:c.kids.length=n) (hb:eG Tryz.prog F) (I:aQ Tryz.prog F [.pa (eM w),.pa (aC c)] [] (tyV r) []):aQ Tryz.prog 27 [.pa (eM w),.pa (aC c)] [] (tyV r) []:=by
 obtain⟨f,i,s,t,ks,bs,al⟩:=c;have hf:n8 f iC=some [.int .i64 n,.fn F]:=hf;have hk:ks.length=n:=hk;have q:(aR ks).length=n:=by rw[bA,θ];exact hk
 have J:decide ((((aR ks).length:Nat):Int)=(n:Int))=true:=Ah (by rw[q]);refine bM (n:=29) tok Tryz.func27 rfl rfl rfl ?_;refine sg rfl (a8 (aE mixed (kc aWf ?_)));refine ak 2 [] rfl (k_ (g_ rfl rfl (aKg (d:=11) (ok:=true) (agg:=true) (ents:=iC) (m:=f) (r:=some [.int .i64 n,.fn F]) tok rfl rfl (iE rfl) (tg rfl) rfl (tg rfl) rfl (tg rfl) rfl rfl .mp trivial rfl hf)) ?_);refine kz 6 rfl (skh 9 [(1,.bv true),(8,.bv true)] rfl (kc (sW J) ?_));refine az (sk 4 rfl (kvF (args:=[.pa (eM w),.pa (aC (.mk f i s t ks bs al))]) I ?_ hb));exact kz 1 rfl (aF (rtC trw))
end Go.Proofs.YtglfogjcijokpaaGreatDoor
namespace Go.Proofs.YtglfogjcijokpaaGreatDoor
open Go Go.AM Go.Shelf
set_option maxRecDepth 100000
def ir:Ren:=⟨fun f=>if f=129 then 180 else if f=171 then 144 else if f=243 then 168 else if f=246 then 173 else if f=283 then 175 else if f=284 then 176 else if f=285 then 177 else if f=286 then 178 else if f=317 then 179 else if f=318 then 181 else if f=319 then 182 else if f=320 then 183 else if f=337 then 184 else if f=338 then 185 else f,fun t=>if t=0 then 0 else if t=2 then 2 else if t=3 then 3 else if t=4 then 4 else if t=5 then 5 else if t=9 then 9 else if t=20 then 20 else if t=37 then 157 else if t=46 then 214 else if t=51 then 212 else if t=53 then 205 else if t=171 then 204 else if t=173 then 208 else if t=212 then 211 else if t=213 then 213 else if t=232 then 217 else if t=233 then 218 else t,fun g=>if g=17 then 0 else if g=18 then 1 else if g=19 then 2 else g⟩
theorem il:LaysM.n171 Tryz.prog ir where
 mixed:=mixed
 f129:=by kernel_rfl
 f171:=by kernel_rfl
 f243:=by kernel_rfl
 f246:=by kernel_rfl
 f283:=by kernel_rfl
 f284:=by kernel_rfl
 f285:=by kernel_rfl
 f286:=by kernel_rfl
 f317:=by kernel_rfl
 f318:=by kernel_rfl
 f319:=by kernel_rfl
 f320:=by kernel_rfl
 f337:=by kernel_rfl
 f338:=by kernel_rfl
 t0:=by kernel_rfl
 a0:=fun w=>by kernel_rfl
 z0:=fun w=>by kernel_rfl
 v0:=fun w=>by kernel_rfl
 t2:=by kernel_rfl
 a2:=fun w=>by kernel_rfl
 z2:=fun w=>by kernel_rfl
 v2:=fun w=>by kernel_rfl
 t3:=by kernel_rfl
 a3:=fun w=>by kernel_rfl
 z3:=fun w=>by kernel_rfl
 v3:=fun w=>by kernel_rfl
 t4:=by kernel_rfl
 a4:=fun w=>by kernel_rfl
 z4:=fun w=>by kernel_rfl
 v4:=fun w=>by kernel_rfl
 t5:=by kernel_rfl
 a5:=fun w=>by kernel_rfl
 z5:=fun w=>by kernel_rfl
 v5:=fun w=>by kernel_rfl
 t9:=by kernel_rfl
 a9:=fun w=>by kernel_rfl
 z9:=fun w=>by kernel_rfl
 v9:=fun w=>by kernel_rfl
 t20:=by kernel_rfl
 a20:=fun w=>by kernel_rfl
 z20:=fun w=>by kernel_rfl
 v20:=fun w=>by kernel_rfl
 t37:=by kernel_rfl
 a37:=fun w=>by kernel_rfl
 z37:=fun w=>by kernel_rfl
 v37:=fun w=>by kernel_rfl
 t46:=by kernel_rfl
 a46:=fun w=>by kernel_rfl
 z46:=fun w=>by kernel_rfl
 v46:=fun w=>by kernel_rfl
 t51:=by kernel_rfl
 a51:=fun w=>by kernel_rfl
 z51:=fun w=>by kernel_rfl
 v51:=fun w=>by kernel_rfl
 t53:=by kernel_rfl
 a53:=fun w=>by kernel_rfl
 z53:=fun w=>by kernel_rfl
 v53:=fun w=>by kernel_rfl
 t171:=by kernel_rfl
 a171:=fun w=>by kernel_rfl
 z171:=fun w=>by kernel_rfl
 v171:=fun w=>by kernel_rfl
 t173:=by kernel_rfl
 a173:=fun w=>by kernel_rfl
 z173:=fun w=>by kernel_rfl
 v173:=fun w=>by kernel_rfl
 t212:=by kernel_rfl
 a212:=fun w=>by kernel_rfl
 z212:=fun w=>by kernel_rfl
 v212:=fun w=>by kernel_rfl
 t213:=by kernel_rfl
 a213:=fun w=>by kernel_rfl
 z213:=fun w=>by kernel_rfl
 t232:=by kernel_rfl
 a232:=fun w=>by kernel_rfl
 z232:=fun w=>by kernel_rfl
 v232:=fun w=>by kernel_rfl
 t233:=by kernel_rfl
 a233:=fun w=>by kernel_rfl
 z233:=fun w=>by kernel_rfl
 v233:=fun w=>by kernel_rfl
 g17:=by kernel_rfl
 g18:=by kernel_rfl
 g19:=by kernel_rfl
 i0:=by kernel_rfl
 i2:=by kernel_rfl
 i3:=by kernel_rfl
 i4:=by kernel_rfl
 i5:=by kernel_rfl
 i9:=by kernel_rfl
 i20:=by kernel_rfl
 i37:=by kernel_rfl
 i46:=by kernel_rfl
 i51:=by kernel_rfl
 i53:=by kernel_rfl
 i171:=by kernel_rfl
 i173:=by kernel_rfl
 i212:=by kernel_rfl
 i232:=by kernel_rfl
 i233:=by kernel_rfl
 m17:=by kernel_rfl
 m18:=by kernel_rfl
 m19:=by kernel_rfl
end Go.Proofs.YtglfogjcijokpaaGreatDoor
