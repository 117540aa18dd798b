/-
  Texts Ly5 to Am42 in one.
-/
import Derived.Test.YtmoekkcdkjopgaaGreatDoorM10
open List (append_assoc append_nil drop_left flatMap_append flatMap_cons flatMap_nil foldl_append length_append length_cons length_drop length_eq_zero_iff length_map length_nil length_set length_take length_zip map_append map_congr_left map_cons map_map map_nil map_set mem_append mem_cons mem_cons_of_mem mem_cons_self mem_filter mem_flatMap mem_map mem_of_mem_drop mem_of_mem_take mem_range mem_singleton nil_append not_mem_nil sum_cons sum_nil take_add_one take_left take_length take_of_length_le take_succ_cons take_zero)
open Nat (add_assoc add_mul add_zero le_add_left le_max_left le_max_right le_mul_of_pos_right le_of_eq le_refl le_trans lt_of_le_of_lt lt_of_lt_of_le mul_le_mul_right mul_one zero_add zero_le)
namespace Go.Proofs.YtmoekkcdkjopgaaGreatDoor
open Go Go.AM
set_option maxRecDepth 20000
set_option maxHeartbeats 4000000
noncomputable def aYk : Core → List Str → Core
 | .mk f n nm t ks bs al, far => if nm ∈ far then .mk f n (b8 (far ++ ks.flatMap tyR)) t (ks.map fun x => sTR (m30 x) x nm (vT (b8 (far ++ ks.flatMap tyR)))) bs al else .mk f n nm t ks bs al
open Classical in
noncomputable def fC : Nat → Core → Str → Core → Core
 | 0, c, _, _ => c
 | k + 1, c, s, b => if c.form = 1 ∧ c.name = s then b else x6 (fC k) s b (if c.form = 7 ∧ s ∈ pfR c then aYk c (tyR b) else c)
structure RX (X : Nat) (b p r : Core) : Prop where
 q : fF (QL X) r
 cw : ∀ (A : Alg) (E : Nat) (ρ : Str → Nat), cw A E r ρ ≤ max (cw A E p ρ) (cw A E b ρ)
 ty : ∀ x ∈ tyR r, x ∈ tyR p ∨ x ∈ tyR b
 tl : tlC r ≤ tlC p + tlC b
structure R0 (p q : Core) : Prop where
 cw : ∀ (A : Alg) (E : Nat) (ρ : Str → Nat), cw A E q ρ ≤ cw A E p ρ
 ty : ∀ x ∈ tyR q, x ∈ tyR p
 tl : tlC q ≤ tlC p
 sz : m30 q ≤ m30 p
theorem R0.refl (p : Core) : R0 p p := ⟨fun _ _ _ => le_refl _, fun _ h => h, le_refl _, le_refl _⟩
theorem R0.trans {p q r : Core} (h : R0 p q) (k : R0 q r) : R0 p r := ⟨fun A E ρ => le_trans (k.cw A E ρ) (h.cw A E ρ), fun x hx => h.ty x (k.ty x hx), le_trans k.tl h.tl, le_trans k.sz h.sz⟩
theorem R0.rx {X : Nat} {b p q r : Core} (h : R0 p q) (k : RX X b q r) : RX X b p r :=
 ⟨k.q, fun A E ρ => le_trans (k.cw A E ρ) (by have := h.cw A E ρ; omega), fun x hx => (k.ty x hx).imp (h.ty x) id, by have := k.tl; have := h.tl; omega⟩
theorem R0.cg {D M X : Nat} {p q : Core} (h : R0 p q) (hp : CG D M X p) (hq : fF (QL X) q) : CG D M X q :=
 ⟨hq, le_trans (h.cw j6 0 r0) hp.dep, by have := hp.sc; have := h.tl; have := dM (a := tyR p) h.ty; omega, le_trans h.sz hp.sz⟩
structure TB (X : Nat) (c : Core) (s : Str) (b r : Core) : Prop where
 imp : aU Tryz.prog 25 [.pa (aC c), Go.AM.T s, .pa (aC b)] [] (.pa (aC r)) []
 rx : RX X b c r
 sz : ∀ B, 1 ≤ B → m30 b ≤ 31 * B → m30 r ≤ m30 c * B
theorem aT5 {z : Str} : tyR (vC z) = [] := rfl
theorem aUd {z : Str} : tlC (vC z) = 0 := rfl
theorem aWk {A : Alg} {E : Nat} {ρ : Str → Nat} {z : Str} : cw A E (vC z) ρ = A.k := by
 refine Nat.le_antisymm (fU.2 ⟨le_refl _, ?_, fun x hx => (by cases hx), fun x hx => (by cases hx), fun x hx => (by cases hx)⟩) (aY6 _)
 exact le_of_eq (gZ (tn zTy) zTy (le_refl _) fun x hx => by
  have : tfR zTy = [] := rfl
  rw [this] at hx; cases hx)
theorem TB.r0 {X : Nat} {c : Core} {s z : Str} {r : Core} (hz : z.length ≤ 30) (h : TB X c s (vC z) r) : R0 c r :=
 ⟨fun A E ρ => by have := h.rx.cw A E ρ; rw [aWk] at this; have := aY6 (A := A) (E := E) (ρ := ρ) c; omega,
  fun x hx => (h.rx.ty x hx).resolve_right (by rw [aT5]; exact not_mem_nil), by have := h.rx.tl; rw [aUd] at this; omega,
  by have := h.sz 1 (le_refl _) (by rw [aP5 hz]; exact le_refl _); rwa [mul_one] at this⟩
theorem CG.vC {D M X : Nat} {z : Str} (hz : z.length ≤ 30) (hX : 31 ≤ X) : CG D M X (vC z) := by
 refine ⟨bE.2 ⟨⟨rfl, fun h => by omega, rfl, fun p hp => (by cases hp), ?_, fun h => by omega, fun p hp => (by cases hp), fun p hp => (by cases hp)⟩, fun x hx => (by cases hx), fun x hx => (by cases hx), fun x hx => (by cases hx)⟩, ?_, ?_, ?_⟩
 ·show lw z [] [] ≤ X;unfold lw w30;simp only [map_nil, sum_nil];omega
 ·rw [aWk]; exact zero_le _
 ·rw [aT5, aUd]; exact zero_le _
 ·rw [aP5 hz]; decide
section
variable {sb : Core → Str → Core → Core} {P : Core → Prop} {X : Nat} {s : Str} {b : Core}
theorem qZ {ns : List Str} {ps : List Core} (hP : ∀ p ∈ ps, P p) (hPq : ∀ p, P p → fF (QL X) p) (hz : ∀ p n z, P p → z.length ≤ 30 → P (sb p n (vC z)) ∧ R0 p (sb p n (vC z))) (hs : ∀ p, P p → RX X b p (sb p s b))
  (hl : (ps.flatMap pfR).length + 2 * ns.length + (pfR b).length ≤ 540000000000) : A2 (RX X b) ps (dN sb s b ns ps).2 ∧ A2 NR ns (dN sb s b ns ps).1 := by
 obtain ⟨⟨qs, h1, h2⟩, h3⟩ := aDu (sb := sb) (Rel := fun p q => P p → (P q ∧ R0 p q)) (fun p h => ⟨h, R0.refl p⟩)
  (fun p q r hpq hqr h => by
   obtain ⟨a1, a2⟩ := hpq h;obtain ⟨b1, b2⟩ := hqr a1
   exact ⟨b1, a2.trans b2⟩) (s := s) (b := b) (ns := ns) (ps := ps) (fun p n z hzl h => hz p n z h hzl) hl
 have key : ∀ {ps qs : List Core}, A2 (fun p q => P p → (P q ∧ R0 p q)) ps qs → (∀ p ∈ ps, P p) → A2 (RX X b) ps qs ∧ A2 (RX X b) ps (qs.map fun p => sb p s b) := by
  intro ps qs h
  induction h with
  | nil => intro _; exact ⟨.nil, .nil⟩
  | cons r _ ih =>
   intro hp;obtain ⟨i1, i2⟩ := ih fun p h => hp p (mem_cons_of_mem _ h)
   obtain ⟨g1, g2⟩ := r (hp _ mem_cons_self);exact ⟨.cons ⟨hPq _ g1, fun A E ρ => le_trans (g2.cw A E ρ) (le_max_left ..), fun x hx => .inl (g2.ty x hx), le_trans g2.tl (Nat.le_add_right _ _)⟩ i1, .cons (g2.rx (hs _ g1)) i2⟩
 obtain ⟨k1, k2⟩ := key h1 hP;refine ⟨?_, h3⟩;rcases h2 with h2 | h2
 ·rw [h2]; exact k1
 ·rw [h2]; exact k2
end
mutual
theorem l0 : ∀ c : Core, allT (fun _ => True) c
 | .mk f n s t ks bs al => ⟨trivial, uQ ks, uR bs, uS al⟩
theorem uQ : ∀ l : List Core, aAb (fun _ => True) l
 | [] => trivial
 | c :: l => ⟨l0 c, uQ l⟩
theorem uR : ∀ l : List Bind, xA (fun _ => True) l
 | [] => trivial
 | .mk s t c :: l => ⟨trivial, l0 c, uR l⟩
theorem uS : ∀ l : List Alt, xB (fun _ => True) l
 | [] => trivial
 | .mk f n s v c :: l => ⟨l0 c, uS l⟩
end
theorem nE : ∀ {ts : List Ty} {ns : List Str} {ps : List Core}, ns.length = ts.length → ps.length = ts.length → (mkB ts ns ps).map Bind.name = ns
 | [], [], _, _, _ => by unfold mkB; rfl
 | t :: ts, n :: ns, p :: ps, h1, h2 => by
  simp only [length_cons] at h1 h2;rw [mkB, map_cons, nE (ts := ts) (by omega) (by omega)]; rfl
section
variable {sb : Core → Str → Core → Core} {X : Nat} {s : Str} {b : Core} {f n : Int} {nm : Str} {t : Ty} {ks : List Core} {bs : List Bind} {al : List Alt}
theorem aTi (h7 : f ≠ 7) (hq : fF (QL X) (.mk f n nm t ks bs al)) (hg : A2 (RX X b) (ks ++ bs.map Bind.body) (dN sb s b (gvN f nm bs) (ks ++ bs.map Bind.body)).2) (hn : A2 NR (gvN f nm bs) (dN sb s b (gvN f nm bs) (ks ++ bs.map Bind.body)).1)
  (ha : ∀ a ∈ al, A2 (RX X b) [a.body] (dN sb s b a.vars [a.body]).2 ∧ A2 NR a.vars (dN sb s b a.vars [a.body]).1) : RX X b (.mk f n nm t ks bs al) (x6 sb s b (.mk f n nm t ks bs al)) := by
 obtain ⟨⟨q1, q2, q3, q4, q5, q6, q7, q8⟩, qk, qb, qa⟩ := bE.1 hq;have hA : ∀ a ∈ al, RX X b a.body (nD sb s b a).body ∧ A2 NR a.vars (nD sb s b a).vars ∧ (nD sb s b a).name = a.name := fun a ha' => by
  obtain ⟨g1, g2⟩ := ha a ha';refine ⟨?_, g2, rfl⟩;show RX X b a.body ((dN sb s b a.vars [a.body]).2.headD a.body);cases hx : (dN sb s b a.vars [a.body]).2 with
  | nil => rw [hx] at g1; cases g1
  | cons y l' =>
   rw [hx] at g1;cases g1 with
   | cons h _ => exact h
 have hone : f = 5 → bs = [] := fun h5 => (fK hq (.inl h5)).2.1
 rw [x6];unfold zNm zKs zBs;generalize dN sb s b (gvN f nm bs) (ks ++ bs.map Bind.body) = r at hg hn ⊢;obtain ⟨r1, r2⟩ := r;dsimp only at *;have hK : A2 (RX X b) ks (r2.take ks.length) := by
  have := hg.take ks.length;rwa [take_left] at this
 have hB : A2 (RX X b) (bs.map Bind.body) (r2.drop ks.length) := by
  have := hg.drop ks.length;rwa [drop_left] at this
 have hBl : (r2.drop ks.length).length = bs.length := by rw [hB.length, length_map]
 have hmB : ∀ x ∈ mkB (bs.map Bind.ty) r1 (r2.drop ks.length), ∃ y ∈ bs, RX X b y.body x.body := fun x hx => by
  obtain ⟨p, hp, h⟩ := hB.mem x.body (oH hx).1;obtain ⟨y, hy, rfl⟩ := mem_map.1 hp;exact ⟨y, hy, h⟩
 have hmT : ∀ x ∈ mkB (bs.map Bind.ty) r1 (r2.drop ks.length), ∃ y ∈ bs, y.ty = x.ty := fun x hx => mem_map.1 (oH hx).2
 have hnl := hn.length;have hbn : ((mkB (bs.map Bind.ty) r1 (r2.drop ks.length)).map fun x => 1 + w30 x.name).sum ≤ (bs.map fun x => 1 + w30 x.name).sum ∧ (mkB (bs.map Bind.ty) r1 (r2.drop ks.length)).length = bs.length := by
  by_cases h5 : f = 5
  ·have := hone h5; subst this;show ((mkB [] r1 _).map _).sum ≤ _ ∧ (mkB [] r1 _).length = _;unfold mkB; exact ⟨le_refl _, rfl⟩
  ·unfold gvN at hn hnl;rw [if_neg h5, nil_append] at hn hnl;rw [length_map] at hnl;have e1 : ∀ l : List Bind, (l.map fun x => 1 + w30 x.name) = (l.map Bind.name).map fun v => 1 + w30 v := fun l => by rw [map_map]; rfl
   rw [e1, e1, nE (by rw [length_map]; exact hnl) (by rw [length_map]; exact hBl)];exact ⟨aDg hn, by rw [rE (by rw [length_map]; exact hnl) (by rw [length_map]; exact hBl), length_map]⟩
 have hbh : ∀ x ∈ mkB (bs.map Bind.ty) r1 (r2.drop ks.length), nh x.name := fun x hx => by
  by_cases h5 : f = 5
  ·have := hone h5; subst this;have hx : x ∈ mkB [] r1 (r2.drop ks.length) := hx;unfold mkB at hx; cases hx
  ·have hn2 := hn;unfold gvN at hn2 hnl;rw [if_neg h5, nil_append] at hn2 hnl;rw [length_map] at hnl;have hxm : x.name ∈ (mkB (bs.map Bind.ty) r1 (r2.drop ks.length)).map Bind.name := mem_map.2 ⟨x, hx, rfl⟩;rw [nE (by rw [length_map]; exact hnl) (by rw [length_map]; exact hBl)] at hxm;obtain ⟨v, hv, hr⟩ := hn2.mem _ hxm;obtain ⟨y, hy, rfl⟩ := mem_map.1 hv;exact hr.nh (q7 (bhd y) (mem_map.2 ⟨y, hy, rfl⟩))
 have hnm : w30 (if f = 5 then r1.headD nm else nm) ≤ w30 nm := by
  split
  ·rename_i hf;unfold gvN at hn;rw [if_pos hf] at hn;cases hn with
   | cons h _ => exact h.w
  ·exact le_refl _
 refine ⟨bE.2 ⟨⟨?_, fun h => absurd h h7, q3, fun p hp => ?_, ?_, fun h5 => ?_, fun p hp => ?_, fun p hp v hv => ?_⟩, fun x hx => ?_, fun x hx => ?_, fun x hx => ?_⟩, fun A E ρ => ?_, fun x hx => ?_, ?_⟩
 ·rw [length_map, length_map, length_map, hbn.2, hK.length];rw [length_map, length_map] at q1;exact q1
 ·obtain ⟨x, hx, rfl⟩ := mem_map.1 hp;obtain ⟨y, hy, e⟩ := hmT x hx;have := q4 (bhd y) (mem_map.2 ⟨y, hy, rfl⟩);show wfS x.ty = true;rw [← e]; exact this
 ·refine le_trans ?_ q5;unfold lw;rw [map_map, map_map, map_map, map_map, map_map];have ea : (al.map (((fun p : Str × List Str => 1 + w30 p.1 + (p.2.map fun v => 1 + w30 v).sum) ∘ ahd) ∘ nD sb s b)).sum ≤ (al.map ((fun p : Str × List Str => 1 + w30 p.1 + (p.2.map fun v => 1 + w30 v).sum) ∘ ahd)).sum := by
   clear ha q1 q5 hq qa q8
   induction al with
   | nil => exact le_refl _
   | cons a l ih =>
    have h1 := ih fun x hx => hA x (mem_cons_of_mem _ hx)
    obtain ⟨_, h2, h3⟩ := hA a mem_cons_self;have h2 := aDg h2;simp only [map_cons, sum_cons, Function.comp, ahd] at h1 ⊢;rw [h3];omega
  have eb := hbn.1;have ec : ∀ l : List Bind, (l.map ((fun p : Str × Ty => 1 + w30 p.1) ∘ bhd)).sum = (l.map fun x => 1 + w30 x.name).sum := fun l => rfl
  rw [ec, ec];omega
 ·rw [if_pos h5];unfold gvN at hn;rw [if_pos h5] at hn;cases hn with
  | cons h _ => exact h.nh (q6 h5)
 ·obtain ⟨x, hx, rfl⟩ := mem_map.1 hp;exact hbh x hx
 ·obtain ⟨a, ha', rfl⟩ := mem_map.1 hp;obtain ⟨a0, ha0, rfl⟩ := mem_map.1 ha';obtain ⟨w, hw, hr⟩ := (hA a0 ha0).2.1.mem v hv;exact hr.nh (q8 (ahd a0) (mem_map.2 ⟨a0, ha0, rfl⟩) w hw)
 ·obtain ⟨p, _, h⟩ := hK.mem x hx; exact h.q
 ·obtain ⟨y, _, h⟩ := hmB x hx; exact h.q
 ·obtain ⟨a, ha', rfl⟩ := mem_map.1 hx; exact (hA a ha').1.q
 ·obtain ⟨c0, c1, c2, c3, c4⟩ := fU.1 (le_refl (cw A E (.mk f n nm t ks bs al) ρ));rw [if_neg h7] at c2;generalize cw A E (.mk f n nm t ks bs al) ρ = K at *;refine fU.2 ⟨by omega, by omega, fun x hx => ?_, fun x hx => ⟨?_, ?_⟩, fun x hx => ?_⟩
  ·obtain ⟨p, hp, h⟩ := hK.mem x hx;rw [if_neg h7];have h1 := h.cw A E ρ;have h2 := c2 p hp;omega
  ·obtain ⟨y, hy, e⟩ := hmT x hx;rw [← e];have := (c3 y hy).1
   omega
  ·obtain ⟨y, hy, h⟩ := hmB x hx;have h1 := h.cw A E ρ;have h2 := (c3 y hy).2
   omega
  ·obtain ⟨a, ha', rfl⟩ := mem_map.1 hx;have h1 := (hA a ha').1.cw A E ρ;have h2 := c4 a ha';omega
 ·rcases bM.1 hx with h | ⟨y, hy, h, _⟩ | ⟨y, hy, h⟩ | ⟨y, hy, h⟩
  ·exact .inl (bM.2 (.inl h))
  ·obtain ⟨p, hp, g⟩ := hK.mem y hy;exact (g.ty x h).imp (fun h => bM.2 (.inr (.inl ⟨p, hp, h, .inl h7⟩))) id
  ·rcases h with h | h
   ·obtain ⟨z, hz, e⟩ := hmT y hy;exact .inl (bM.2 (.inr (.inr (.inl ⟨z, hz, .inl (by rw [e]; exact h)⟩))))
   ·obtain ⟨z, hz, g⟩ := hmB y hy;exact (g.ty x h).imp (fun h => bM.2 (.inr (.inr (.inl ⟨z, hz, .inr h⟩)))) id
  ·obtain ⟨a, ha', rfl⟩ := mem_map.1 hy;exact ((hA a ha').1.ty x h).imp (fun h => bM.2 (.inr (.inr (.inr ⟨a, ha', h⟩)))) id
 ·obtain ⟨d1, d2, d3⟩ := k7 (f := f) (n := n) (s := nm) (t := t) (ks := ks) (bs := bs) (al := al);rw [if_neg h7] at d1;generalize tlC (.mk f n nm t ks bs al) = K at *;have := (xO (K := K + tlC b) (f := f) (n := n) (s := (if f = 5 then r1.headD nm else nm)) (t := t) (ks := r2.take ks.length) (bs := mkB (bs.map Bind.ty) r1 (r2.drop ks.length)) (al := al.map (nD sb s b))).2 ⟨fun x hx => ?_, fun x hx => ?_, fun x hx => ?_⟩
  ·rwa [if_neg h7, zero_add] at this
  ·obtain ⟨p, hp, h⟩ := hK.mem x hx;have := h.tl;have := d1 p hp;omega
  ·obtain ⟨y, hy, h⟩ := hmB x hx;have := h.tl;have := d2 y hy;omega
  ·obtain ⟨a, ha', rfl⟩ := mem_map.1 hx;have := (hA a ha').1.tl;have := d3 a ha';omega
end
theorem z8 (hI : dR 540000000000) {D M X : Nat} (hMD : M + D ≤ 700000) (hX : 31 ≤ X) : ∀ (k : Nat) (c : Core), m30 c ≤ k → CG D M X c → ∀ (s : Str) (b : Core), CG D M X b → TB X c s b (fC k c s b) := by
 intro k
 induction k with
 | zero => intro c h; have := fE c; omega
 | succ k ih =>
 intro c h hc s b hb;have hTG := hc.tyG hI hMD;have hTGb := hb.tyG hI hMD;have hcs := dA c;have hbs := dA b;have hsz := hc.sz;have hszb := hb.sz;have hBig : Big = 250000000000 := rfl;have hpfb := kI b;have hpfc := kI c;have hfreec := oQ (b6 c) c (le_refl _) (by omega);have hfreeb := oQ (b6 b) b (le_refl _) (by omega);obtain ⟨hbty, hbtl⟩ := hb.types hMD;have hm31 := fE c;have hb31 := fE b;obtain ⟨f, n, nm, t, ks, bs, al⟩ := c;have hq := hc.q;rw [fC];by_cases hv : f = 1 ∧ nm = s
 ·rw [if_pos (show (Core.mk f n nm t ks bs al).form = 1 ∧ (Core.mk f n nm t ks bs al).name = s from hv)];exact ⟨aLc f n nm t ks bs al s b hv (by omega) hTGb, ⟨hb.q, fun A E ρ => le_max_right .., fun x hx => .inr hx, le_add_left _ _⟩, fun B _ hb' => le_trans hb' (mul_le_mul_right _ hm31)⟩
 rw [if_neg (show ¬ ((Core.mk f n nm t ks bs al).form = 1 ∧ (Core.mk f n nm t ks bs al).name = s) from hv)]
 let P : Core → Prop := fun x => m30 x < m30 (.mk f n nm t ks bs al) ∧ CG D M X x
 have hsub : ∀ p, P p → ∀ n' b', CG D M X b' → TB X p n' b' (fC k p n' b') := fun p hp n' b' hb' => ih p (by have := hp.1; omega) hp.2 n' b' hb'
 have hz : ∀ p m z, P p → z.length ≤ 30 → P (fC k p m (vC z)) ∧ R0 p (fC k p m (vC z)) := fun p m z hp hzl => by
  have h1 := hsub p hp m (vC z) (CG.vC hzl hX);have h2 := h1.r0 hzl;exact ⟨⟨lt_of_le_of_lt h2.sz hp.1, h2.cg hp.2 h1.rx.q⟩, h2⟩
 have hfree : ∀ p, P p → aU Tryz.prog 67 [.pa (aC p)] [] (bU (pfR p)) [] := fun p hp => oQ (b6 p) p (le_refl _) (by have := dA p; have := hp.1; omega)
 have hok : ∀ ps, (∀ p ∈ ps, P p) → PutOk (fC k) P s b ps := fun ps hps => ⟨hps, fun p hp => hfree p (hps p hp), hfreeb, fun p m z hp hzl => (hz p m z hp hzl).1, fun p m z hp hzl => (hsub p hp m (vC z) (CG.vC hzl hX)).imp, fun p hp => (hsub p hp s b hb).imp, hI⟩
 have hPq : ∀ p, P p → fF (QL X) p := fun p hp => hp.2.q
 have hS : ∀ p, P p → RX X b p (fC k p s b) := fun p hp => (hsub p hp s b hb).rx
 have hSB : ∀ B, 1 ≤ B → m30 b ≤ 31 * B → ∀ p, P p → wfC (fC k p s b) = true ∧ allT (fun _ => True) (fC k p s b) ∧ m30 (fC k p s b) ≤ m30 p * B := fun B hB hbB p hp => by
  have h1 := hsub p hp s b hb;exact ⟨aAg _ h1.rx.q, l0 _, h1.sz B hB hbB⟩
 have hPQ : ∀ p, P p → wfC p = true ∧ allT (fun _ => True) p := fun p hp => ⟨aAg _ hp.2.q, l0 _⟩
 have hzs : ∀ p m z, P p → z.length ≤ 30 → P (fC k p m (vC z)) ∧ m30 (fC k p m (vC z)) ≤ m30 p := fun p m z hp hzl => ⟨(hz p m z hp hzl).1, (hz p m z hp hzl).2.sz⟩
 by_cases h7 : f = 7
 ·subst h7;obtain ⟨⟨kid, rfl⟩, rfl, rfl⟩ := fK hq (.inr (.inr rfl));obtain ⟨g1, g2, g3⟩ := hc.kid (x := kid) mem_cons_self;rw [if_pos rfl] at g2;obtain ⟨q1, _⟩ := bE.1 hq;have hnmn : ¬ nm = [] := (q1.2.1 rfl).2
  obtain rfl : t = zTy := (q1.2.1 rfl).1
  have hz0 : tfR zTy = [] := rfl;have hgn : ∀ nm', gvN 7 nm' [] = [] := fun nm' => by unfold gvN; rw [if_neg (by decide)]; rfl
  have easm : ∀ nm' k1, x6 (fC k) s b (.mk 7 n nm' zTy [k1] [] []) = .mk 7 n nm' zTy ((dN (fC k) s b [] [k1]).2.take 1) [] [] := fun nm' k1 => by
   rw [x6];unfold zNm zKs zBs;rw [hgn, if_neg (by decide)];rfl
  have hpk : P kid := ⟨g3, g1⟩
  have hpfk : pfR (.mk 7 n nm zTy [kid] [] []) = pfP [] [] (pfR kid) := by
   rw [pfR, if_neg (by decide), pU, pU, s9, sC, hgn]
  have hmem : ∀ x, x ∈ pfR (.mk 7 n nm zTy [kid] [] []) ↔ x ∈ pfR kid := fun x => by
   rw [hpfk];constructor
   ·intro hx;have key : ∀ (l o : List Str), x ∈ pfP [] o l → x ∈ o ∨ x ∈ l := by
     intro l
     induction l with
     | nil => intro o h; exact .inl h
     | cons y l ih2 =>
      intro o h;rcases ih2 (pfG [] o y) h with h | h
      ·unfold pfG at h;rw [if_neg (by simp)] at h;rcases vX.1 h with h | h
       ·exact .inl h
       ·exact .inr (by rw [h]; exact mem_cons_self)
      ·exact .inr (mem_cons_of_mem _ h)
    rcases key _ _ hx with h | h
    ·cases h
    ·exact h
   ·exact fun hx => r9 hx (by simp)
  have hlk : ∀ k1, P k1 → (([k1] : List Core).flatMap pfR).length + 2 * (gvN 7 nm []).length + (pfR b).length ≤ 540000000000 := fun k1 hk1 => by
   rw [hgn];have := kI k1;have := hk1.1;simp only [flatMap_cons, flatMap_nil, append_nil, length_nil];omega
  by_cases hin : s ∈ pfR (.mk 7 n nm zTy [kid] [] [])
  ·rw [if_pos (show (Core.mk 7 n nm zTy [kid] [] []).form = 7 ∧ _ from ⟨rfl, hin⟩)];have hink := (hmem s).1 hin;have hend : ∀ (nm1 : Str) (k1 : Core), w30 nm1 ≤ w30 nm → P k1 → m30 k1 ≤ m30 kid → tlC k1 ≤ tlC kid → (∀ x ∈ tyR k1, x = nm1 ∨ x ∈ tyR kid) → (∀ x ∈ tyR k1, x = nm → nm1 = nm ∨ nm ∈ tyR b) → ¬ nm1 ∈ tyR b → ¬ nm1 = [] →
     (∀ (A : Alg) (E : Nat) (ρ : Str → Nat), cw A E k1 (fO ρ nm1 E) ≤ cw A E kid (fO ρ nm E)) →
     aU Tryz.prog 62 [.one (.vp 700 0), bU (tyR b)] (gHl 7 n nm zTy [kid] [] []) (.tup []) (gHl 7 n nm1 zTy [k1] [] []) →
     TB X (.mk 7 n nm zTy [kid] [] []) s b (x6 (fC k) s b (.mk 7 n nm1 zTy [k1] [] [])) := fun nm1 k1 hw hk1 hkm hkt hkx hky hno hn1 hkc himp => by
    have himpS := oP (fC k) P 7 n nm nm1 zTy [kid] [k1] [] [] s b (by omega) hTG hv rfl (fun e => absurd e (by decide)) (fun _ => ⟨rfl, rfl, _, hfreec, by omega, fun _ => ⟨_, hbty, himp⟩, fun e => absurd hin e⟩) (fun e => absurd rfl e)
     (hok _ fun p hp => by
      have : p = k1 := by simpa using hp
      rw [this]; exact hk1) (fun a ha => by cases ha) (by
      have h1 := hlk k1 hk1;rw [hgn] at h1;simp only [map_nil, append_nil, length_nil, length_cons] at h1 ⊢;have := kI k1;have := hk1.1;simp only [flatMap_cons, flatMap_nil, append_nil] at h1 ⊢
      omega) (fun a ha => by cases ha)
    obtain ⟨hA, _⟩ := qZ (sb := fC k) (P := P) (X := X) (s := s) (b := b) (ns := []) (ps := [k1]) (fun p hp => by rw [mem_singleton.1 hp]; exact hk1) hPq hz hS (by have := hlk k1 hk1; rwa [hgn] at this);rw [easm] at himpS ⊢;have hszB : ∀ B, 1 ≤ B → m30 b ≤ 31 * B → m30 (.mk 7 n nm1 zTy ((dN (fC k) s b [] [k1]).2.take 1) [] []) ≤ m30 (.mk 7 n nm zTy [kid] [] []) * B := fun B hB hbB => by
     have hg := aBg (sb := fC k) (P := P) (T := fun _ => True) (s := s) (b := b) (ns := []) (ps := [k1]) hB (fun p hp => by rw [mem_singleton.1 hp]; exact hk1) hzs hPQ (hSB B hB hbB) (by have := hlk k1 hk1; rwa [hgn] at this);have hsm := aEi (hg.sm.take 1);have e : ([k1] : List Core).take 1 = [k1] := rfl;rw [e, cZ, cZ, add_zero] at hsm;rw [m30, m30, fV, hY, cZ, cZ, add_zero, add_zero, add_zero, add_mul];have h5 : 1 + w30 nm1 ≤ (1 + w30 nm) * B := le_trans (by omega) (le_mul_of_pos_right _ hB);have h6 : m30 k1 * B ≤ m30 kid * B := mul_le_mul_right _ hkm;omega
    cases hx : (dN (fC k) s b [] [k1]).2 with
    | nil => rw [hx] at hA; cases hA
    | cons y l' =>
     rw [hx] at hA himpS hszB;cases hA with
     | cons hy _ =>
      refine ⟨himpS, ⟨bE.2 ⟨⟨rfl, fun _ => ⟨rfl, hn1⟩, rfl, fun p hp => (by cases hp), ?_⟩, fun x hx => ?_, fun x hx => (by cases hx), fun x hx => (by cases hx)⟩, fun A E ρ => ?_, fun x hx => ?_, ?_⟩, hszB⟩
      ·exact ⟨le_trans (w8 hw rfl rfl) q1.2.2.2.2.1, fun e => absurd e (by decide), fun p hp => (by cases hp), fun p hp => (by cases hp)⟩
      ·have : x = y := by simpa using hx
       rw [this]; exact hy.q
      ·obtain ⟨c0, c1, c2, _, _⟩ := fU.1 (le_refl (cw A E (.mk 7 n nm zTy [kid] [] []) ρ));have c2 := c2 kid mem_cons_self;rw [if_pos rfl] at c2;refine fU.2 ⟨by omega, by omega, fun x hx => ?_, fun x hx => (by cases hx), fun x hx => (by cases hx)⟩;have : x = y := by simpa using hx
       rw [this, if_pos rfl];have h1 := hy.cw A E (fO ρ nm1 E);have h2 := hkc A E ρ;have h3 : cw A E b (fO ρ nm1 E) = cw A E b ρ := nU fun y hy => by
        unfold fO;rw [if_neg fun e => hno (by rw [← e]; exact hy)]
       omega
      ·rcases bM.1 hx with h | ⟨z, hz', h, hne'⟩ | ⟨z, hz', _⟩ | ⟨z, hz', _⟩
       ·rw [hz0] at h; cases h
       ·have : z = y := by simpa using hz'
        rw [this] at h;have hne' : ¬ x = nm1 := hne'.resolve_left (fun e => e rfl);rcases hy.ty x h with h | h
        ·rcases hkx x h with h' | h'
         ·exact absurd h' hne'
         ·by_cases e : x = nm
          ·rcases hky x h e with e2 | e2
           ·exact absurd (e.trans e2.symm) hne'
           ·exact .inr (by rw [e]; exact e2)
          ·exact .inl (bM.2 (.inr (.inl ⟨kid, mem_cons_self, h', .inr e⟩)))
        ·exact .inr h
       ·cases hz'
       ·cases hz'
      ·have d1 := hy.tl;show tlC (.mk 7 n nm1 zTy [y] [] []) ≤ tlC (.mk 7 n nm zTy [kid] [] []) + tlC b;rw [tlC, tlC, jI, jI, jI, jI, pN, oZ];omega
   rw [aYk];by_cases hnb : nm ∈ tyR b
   ·rw [if_pos hnb];have efm : [kid].flatMap tyR = tyR kid := by simp
    rw [efm, map_cons, map_nil];obtain ⟨hkty, hktl⟩ := g1.types hMD;have hzo := lJ (tyR b ++ tyR kid);have hz30 : (b8 (tyR b ++ tyR kid)).length ≤ 30 := oL _ (by rw [length_append]; omega);have hzn := wI (tyR b ++ tyR kid);generalize hze : b8 (tyR b ++ tyR kid) = z at hzo hz30 hzn;have hS1 := aB2 hI hMD (m30 kid) kid (le_refl _) g1 nm (vT z) (UOk.var z);have hkid1 : CG D M X (sTR (m30 kid) kid nm (vT z)) := by
     refine ⟨hS1.q, ?_, ?_, le_trans hS1.sz g1.sz⟩
     ·have := hS1.cw j6 0 r0;have e : tW j6 (vT z) r0 = 0 := rfl;rw [e, aIg] at this;exact le_trans this g1.dep
     ·have h1 := dM (a := z :: tyR kid) (c := sTR (m30 kid) kid nm (vT z)) fun x hx => by
       rcases hS1.ty x hx with h | h
       ·exact mem_cons_of_mem _ h
       ·rw [aFw] at h; rw [mem_singleton.1 h]; exact mem_cons_self
      rw [length_cons] at h1;have h2 := hS1.tl;omega
    have hcl := aFb n nm zTy kid (sTR (m30 kid) kid nm (vT z)) (tyR b) (by omega) hnb hI hkty (by omega) (by rw [hze]; exact hS1.imp);rw [hze] at hcl;refine hend z _ (aFu hz30) ⟨lt_of_le_of_lt hS1.sz g3, hkid1⟩ hS1.sz hS1.tl (fun x hx => ?_) (fun _ _ _ => .inr hnb) (fun h => hzo (mem_append.2 (.inl h))) hzn (fun A E ρ => ?_) hcl
    ·rcases hS1.ty x hx with h | h
     ·exact .inr h
     ·rw [aFw] at h; exact .inl (mem_singleton.1 h)
    ·refine le_trans (hS1.cw A E _) (le_of_eq (nU fun x hx => ?_));have e : tW A (vT z) (fO ρ z E) = E := by
      unfold vT;rw [tW, if_pos rfl];unfold fO;rw [if_pos rfl]
     rw [e];unfold fO;by_cases e1 : x = nm
     ·rw [if_pos e1, if_pos e1]
     ·rw [if_neg e1, if_neg e1, if_neg fun e3 => hzo (by rw [← e3]; exact mem_append.2 (.inr hx))]
   ·rw [if_neg hnb];exact hend nm kid (le_refl _) hpk (le_refl _) (le_refl _) (fun x hx => .inr hx) (fun _ _ _ => .inl rfl) hnb hnmn (fun A E ρ => le_refl _) (aFc n nm zTy kid (tyR b) (by omega) hnb)
  ·rw [if_neg (show ¬ ((Core.mk 7 n nm zTy [kid] [] []).form = 7 ∧ s ∈ pfR (Core.mk 7 n nm zTy [kid] [] [])) from fun h => hin h.2)];have hnk : ¬ s ∈ pfR kid := fun h => hin ((hmem s).2 h)
   have himpS := oP (fC k) P 7 n nm nm zTy [kid] [kid] [] [] s b (by omega) hTG hv rfl (fun e => absurd e (by decide)) (fun _ => ⟨rfl, rfl, _, hfreec, by omega, fun e => absurd e hin, fun _ => ⟨rfl, rfl⟩⟩) (fun e => absurd rfl e)
    (hok _ fun p hp => by
     have : p = kid := by simpa using hp
     rw [this]; exact hpk) (fun a ha => by cases ha) (by
     have h1 := hlk kid hpk;rw [hgn] at h1;simp only [map_nil, append_nil, length_nil, length_cons] at h1 ⊢;have := kI kid;have := hpk.1;simp only [flatMap_cons, flatMap_nil, append_nil] at h1 ⊢
     omega) (fun a ha => by cases ha)
   have e5 : dN (fC k) s b [] [kid] = ([], [kid]) := by
    unfold dN;rw [if_neg];exact fun h => hnk (by simpa using h.1)
   rw [easm, e5] at himpS ⊢;have himpS : aU Tryz.prog 25 [.pa (aC (.mk 7 n nm zTy [kid] [] [])), Go.AM.T s, .pa (aC b)] [] (.pa (aC (.mk 7 n nm zTy [kid] [] []))) [] := himpS;show TB X (.mk 7 n nm zTy [kid] [] []) s b (.mk 7 n nm zTy [kid] [] []);exact ⟨himpS, ⟨hq, fun A E ρ => le_max_left .., fun x hx => .inl hx, Nat.le_add_right _ _⟩, fun B hB _ => le_mul_of_pos_right _ hB⟩
 ·rw [if_neg (show ¬ ((Core.mk f n nm t ks bs al).form = 7 ∧ s ∈ pfR (Core.mk f n nm t ks bs al)) from fun h => h7 h.1)];have hP1 : ∀ x ∈ ks, P x := fun x hx => ⟨(hc.kid hx).2.2, (hc.kid hx).1⟩
  have hP2 : ∀ x ∈ bs, P x.body := fun x hx => ⟨(hc.bind hx).2, (hc.bind hx).1⟩
  have hP3 : ∀ x ∈ al, P x.body := fun x hx => ⟨(hc.alt hx).2, (hc.alt hx).1⟩
  have hPs : ∀ p ∈ ks ++ bs.map Bind.body, P p := fun p hp => by
   rcases mem_append.1 hp with hp | hp
   ·exact hP1 p hp
   ·obtain ⟨x, hx, rfl⟩ := mem_map.1 hp;exact hP2 x hx
  have hm := hsz;rw [m30] at hm;have hfm := aKp (ks ++ bs.map Bind.body);rw [w7] at hfm;have hbsb := w6 bs;have hksl := aEh ks;have hgv := aJ8 (f := f) (nm := nm) (bs := bs);have hla : ∀ a ∈ al, (pfR a.body).length + 2 * a.vars.length + (pfR b).length + 1 ≤ 540000000000 := fun a ha => by
   have h1 := iW ha;have h2 := vA a.vars;have h3 := kI a.body;omega
  have hM : ((ks ++ bs.map Bind.body).flatMap pfR).length + 2 * (1 + bs.length) + (pfR b).length + (ks.length + bs.length) ≤ 540000000000 := by omega
  have himpS := oP (fC k) P f n nm nm t ks ks bs al s b (by omega) hTG hv rfl (fun hf => fK hq (.inl hf)) (fun e => absurd e h7) (fun _ => ⟨rfl, rfl⟩) (hok _ hPs) (fun a ha => hok _ fun p hp => by rw [mem_singleton.1 hp]; exact hP3 a ha) hM hla;have hgl : ((ks ++ bs.map Bind.body).flatMap pfR).length + 2 * (gvN f nm bs).length + (pfR b).length ≤ 540000000000 := by omega
  have hal' : ∀ a ∈ al, (([a.body] : List Core).flatMap pfR).length + 2 * a.vars.length + (pfR b).length ≤ 540000000000 := fun a ha => by
   have := hla a ha;simp only [flatMap_cons, flatMap_nil, append_nil];omega
  obtain ⟨hA, hN⟩ := qZ (sb := fC k) (P := P) (X := X) (s := s) (b := b) (ns := gvN f nm bs) hPs hPq hz hS hgl;have hAa : ∀ a ∈ al, A2 (RX X b) [a.body] (dN (fC k) s b a.vars [a.body]).2 ∧ A2 NR a.vars (dN (fC k) s b a.vars [a.body]).1 := fun a ha =>
   qZ (sb := fC k) (P := P) (X := X) (s := s) (b := b) (fun p hp => by rw [mem_singleton.1 hp]; exact hP3 a ha) hPq hz hS (hal' a ha)
  refine ⟨himpS, aTi h7 hq hA hN hAa, fun B hB hbB => ?_⟩;have hg := aBg (sb := fC k) (P := P) (T := fun _ => True) (s := s) (b := b) (ns := gvN f nm bs) hB hPs hzs hPQ (hSB B hB hbB) hgl;have hga : ∀ a ∈ al, PK B (fun _ => True) a.vars [a.body] (dN (fC k) s b a.vars [a.body]) := fun a ha => aBg hB (fun p hp => by rw [mem_singleton.1 hp]; exact hP3 a ha) hzs hPQ (hSB B hB hbB) (hal' a ha)
  exact (aL4 (n := n) (nm := nm) hB hg hga trivial (fun x hx => trivial) (fun hf => fK hq hf) (fun hf => aFq hq hf)).2.2
theorem vU {G : List Str} {x : Str} : ∀ {l o : List Str}, x ∈ pfP G o l → x ∈ o ∨ (x ∈ l ∧ ¬ x ∈ G)
 | [], o, h => .inl h
 | y :: l, o, h => by
  rcases vU (l := l) (o := pfG G o y) h with h | ⟨h, hG⟩
  ·unfold pfG at h;split at h
   ·exact .inl h
   ·rename_i hy;rcases vX.1 h with h | h
    ·exact .inl h
    ·exact .inr ⟨by rw [h]; exact mem_cons_self, by rw [h]; exact hy⟩
  ·exact .inr ⟨mem_cons_of_mem _ h, hG⟩
theorem aDx {G : List Str} {x : Str} : ∀ {l : List Core} {o : List Str}, x ∈ pU G l o → x ∈ o ∨ ∃ c ∈ l, x ∈ pfR c ∧ ¬ x ∈ G
 | [], o, h => by rw [pU] at h; exact .inl h
 | c :: l, o, h => by
  rw [pU] at h;rcases aDx h with h | ⟨d, hd, h⟩
  ·rcases vU h with h | h
   ·exact .inl h
   ·exact .inr ⟨c, mem_cons_self, h⟩
  ·exact .inr ⟨d, mem_cons_of_mem _ hd, h⟩
theorem aDz {G : List Str} {x : Str} : ∀ {l : List Bind} {o : List Str}, x ∈ s9 G l o → x ∈ o ∨ ∃ c ∈ l, x ∈ pfR c.body ∧ ¬ x ∈ G
 | [], o, h => by rw [s9] at h; exact .inl h
 | .mk s t c :: l, o, h => by
  rw [s9] at h;rcases aDz h with h | ⟨d, hd, h⟩
  ·rcases vU h with h | h
   ·exact .inl h
   ·exact .inr ⟨.mk s t c, mem_cons_self, h⟩
  ·exact .inr ⟨d, mem_cons_of_mem _ hd, h⟩
theorem aD1 {x : Str} : ∀ {l : List Alt} {o : List Str}, x ∈ sC l o → x ∈ o ∨ ∃ a ∈ l, x ∈ pfR a.body ∧ ¬ x ∈ a.vars
 | [], o, h => by rw [sC] at h; exact .inl h
 | .mk f n s v c :: l, o, h => by
  rw [sC] at h;rcases aD1 h with h | ⟨d, hd, h⟩
  ·rcases vU h with h | h
   ·exact .inl h
   ·exact .inr ⟨.mk f n s v c, mem_cons_self, h⟩
  ·exact .inr ⟨d, mem_cons_of_mem _ hd, h⟩
section
variable {f n : Int} {nm : Str} {t : Ty} {ks : List Core} {bs : List Bind} {al : List Alt} {x : Str}
theorem r8 (hf : f ≠ 1) : x ∈ pfR (.mk f n nm t ks bs al) ↔ (∃ p ∈ ks ++ bs.map Bind.body, x ∈ pfR p ∧ ¬ x ∈ gvN f nm bs) ∨ ∃ a ∈ al, x ∈ pfR a.body ∧ ¬ x ∈ a.vars := by
 constructor
 ·intro h;rw [pfR, if_neg hf] at h;rcases aD1 h with h | h
  ·rcases aDz h with h | ⟨b, hb, h⟩
   ·rcases aDx h with h | ⟨c, hc, h⟩
    ·cases h
    ·exact .inl ⟨c, mem_append.2 (.inl hc), h⟩
   ·exact .inl ⟨b.body, mem_append.2 (.inr (mem_map.2 ⟨b, hb, rfl⟩)), h⟩
  ·exact .inr h
 ·rintro (⟨p, hp, h1, h2⟩ | ⟨a, ha, h1, h2⟩)
  ·rw [pfR, if_neg hf];refine aBn ?_;rcases mem_append.1 hp with hp | hp
   ·exact aBm (aDw hp h1 h2)
   ·obtain ⟨b, hb, rfl⟩ := mem_map.1 hp;exact aDy hb h1 h2
  ·rw [pfR, if_neg hf];exact aD0 ha h1 h2
end
mutual
def mS (σ : Str → Nat) : Core → Nat
 | .mk f _ s _ ks bs al => (if f = 1 then σ s else 1 + w30 s) + mSs σ ks + mSb σ bs + mSa σ al
def mSs (σ : Str → Nat) : List Core → Nat
 | [] => 0
 | c :: l => mS σ c + mSs σ l
def mSb (σ : Str → Nat) : List Bind → Nat
 | [] => 0
 | .mk s _ c :: l => 1 + w30 s + mS σ c + mSb σ l
def mSa (σ : Str → Nat) : List Alt → Nat
 | [] => 0
 | .mk _ _ s vs c :: l => 1 + w30 s + (vs.map fun v => 1 + w30 v).sum + mS σ c + mSa σ l
end
mutual
theorem yK {σ : Str → Nat} (h : ∀ s, 1 + w30 s ≤ σ s) : ∀ c : Core, m30 c ≤ mS σ c
 | .mk f n s t ks bs al => by
  rw [m30, mS];have := aJv h ks;have := aJw h bs;have := aJx h al;have := h s;split <;> omega
theorem aJv {σ : Str → Nat} (h : ∀ s, 1 + w30 s ≤ σ s) : ∀ l : List Core, cZ l ≤ mSs σ l
 | [] => le_refl _
 | c :: l => by rw [cZ, mSs]; have := yK h c; have := aJv h l; omega
theorem aJw {σ : Str → Nat} (h : ∀ s, 1 + w30 s ≤ σ s) : ∀ l : List Bind, fV l ≤ mSb σ l
 | [] => le_refl _
 | .mk s t c :: l => by rw [fV, mSb]; have := yK h c; have := aJw h l; omega
theorem aJx {σ : Str → Nat} (h : ∀ s, 1 + w30 s ≤ σ s) : ∀ l : List Alt, hY l ≤ mSa σ l
 | [] => le_refl _
 | .mk f n s v c :: l => by rw [hY, mSa]; have := yK h c; have := aJx h l; omega
end
mutual
theorem aXh {σ : Str → Nat} {B : Nat} (hB : 1 ≤ B) (h : ∀ s, σ s ≤ (1 + w30 s) * B) : ∀ c : Core, mS σ c ≤ m30 c * B
 | .mk f n s t ks bs al => by
  rw [m30, mS, add_mul, add_mul, add_mul];have := aVm hB h ks;have := aVo hB h bs;have := aVp hB h al;have := h s;have : 1 + w30 s ≤ (1 + w30 s) * B := le_mul_of_pos_right _ hB;split <;> omega
theorem aVm {σ : Str → Nat} {B : Nat} (hB : 1 ≤ B) (h : ∀ s, σ s ≤ (1 + w30 s) * B) : ∀ l : List Core, mSs σ l ≤ cZ l * B
 | [] => by rw [mSs]; exact zero_le _
 | c :: l => by rw [cZ, mSs, add_mul]; have := aXh hB h c; have := aVm hB h l; omega
theorem aVo {σ : Str → Nat} {B : Nat} (hB : 1 ≤ B) (h : ∀ s, σ s ≤ (1 + w30 s) * B) : ∀ l : List Bind, mSb σ l ≤ fV l * B
 | [] => by rw [mSb]; exact zero_le _
 | .mk s t c :: l => by
  rw [fV, mSb, add_mul, add_mul];have := aXh hB h c;have := aVo hB h l;have : 1 + w30 s ≤ (1 + w30 s) * B := le_mul_of_pos_right _ hB;omega
theorem aVp {σ : Str → Nat} {B : Nat} (hB : 1 ≤ B) (h : ∀ s, σ s ≤ (1 + w30 s) * B) : ∀ l : List Alt, mSa σ l ≤ hY l * B
 | [] => by rw [mSa]; exact zero_le _
 | .mk f n s v c :: l => by
  rw [hY, mSa, add_mul, add_mul];have := aXh hB h c;have := aVp hB h l;have : 1 + w30 s + (v.map fun v => 1 + w30 v).sum ≤ (1 + w30 s + (v.map fun v => 1 + w30 v).sum) * B := le_mul_of_pos_right _ hB;omega
end
structure Sg (σ : Str → Nat) : Prop where
 ge : ∀ s, 1 + w30 s ≤ σ s
 fr : ∀ l, (b8 l).length ≤ 30 → σ (b8 l) ≤ 31
section
variable {σ : Str → Nat}
theorem aYb {z : Str} : mS σ (vC z) = σ z := by unfold vC; rw [mS, if_pos rfl, mSs, mSb, mSa]; rfl
theorem aJs {g : Core → Core} : ∀ {l : List Core}, (∀ x ∈ l, mS σ (g x) ≤ mS σ x) → mSs σ (l.map g) ≤ mSs σ l
 | [], _ => le_refl _
 | c :: l, h => by
  rw [map_cons, mSs, mSs];have := h c mem_cons_self;have := aJs (l := l) fun x hx => h x (mem_cons_of_mem _ hx)
  omega
theorem aJt {ts : Ty → Ty} {g : Core → Core} : ∀ {l : List Bind}, (∀ x ∈ l, mS σ (g x.body) ≤ mS σ x.body) → mSb σ (l.map fun b => .mk b.name (ts b.ty) (g b.body)) ≤ mSb σ l
 | [], _ => le_refl _
 | .mk s t c :: l, h => by
  rw [map_cons, mSb, mSb];have h1 := h _ mem_cons_self;have h2 := aJt (ts := ts) (l := l) fun x hx => h x (mem_cons_of_mem _ hx)
  simp only [Bind.body, Bind.name] at h1 h2 ⊢;omega
theorem aJu {g : Core → Core} : ∀ {l : List Alt}, (∀ x ∈ l, mS σ (g x.body) ≤ mS σ x.body) → mSa σ (l.map fun a => .mk a.form a.n a.name a.vars (g a.body)) ≤ mSa σ l
 | [], _ => le_refl _
 | .mk f n s vs c :: l, h => by
  rw [map_cons, mSa, mSa];have h1 := h _ mem_cons_self;have h2 := aJu (l := l) fun x hx => h x (mem_cons_of_mem _ hx)
  simp only [Alt.body, Alt.name, Alt.vars] at h1 h2 ⊢;omega
theorem aP4 {ts : Ty → Ty} {sb : Core → Core} {f n : Int} {nm nm1 : Str} {t : Ty} {ks ks1 : List Core} {bs : List Bind} {al : List Alt} (h1f : f = 1 → nm1 = nm) (hn : w30 nm1 ≤ w30 nm) (hk : mSs σ ks1 ≤ mSs σ ks)
  (h1 : ∀ x ∈ ks1, mS σ (sb x) ≤ mS σ x) (h2 : ∀ b ∈ bs, mS σ (sb b.body) ≤ mS σ b.body) (h3 : ∀ a ∈ al, mS σ (sb a.body) ≤ mS σ a.body) :
  mS σ (iR ts sb (.mk f n nm1 t ks1 bs al)) ≤ mS σ (.mk f n nm t ks bs al) := by
 rw [iR, mS, mS];have := aJs h1;have := aJt (ts := ts) h2;have := aJu h3;by_cases e : f = 1
 ·rw [if_pos e, if_pos e, h1f e]; omega
 ·rw [if_neg e, if_neg e]; omega
end
theorem k9 : ∀ (k : Nat) (c : Core) (name : Str) (u : Ty), skT (sTR k c name u) = skT c
 | 0, c, _, _ => rfl
 | k + 1, .mk f n nm t ks bs al, name, u => by
  rw [sTR];split
  ·rfl
  ·split
   ·rename_i h;refine aIb (fun h7 => absurd h.1 h7) ?_ (fun x _ => k9 k x name u) (fun b _ => k9 k b.body name u) (fun a _ => k9 k a.body name u);rw [map_map];exact map_congr_left fun x _ => k9 k x nm _
   ·exact aIb (fun _ => rfl) rfl (fun x _ => k9 k x name u) (fun b _ => k9 k b.body name u) (fun a _ => k9 k a.body name u)
theorem aVe (k : Nat) (c : Core) (name : Str) (u : Ty) : pfR (sTR k c name u) = pfR c := by rw [← aI5, k9, aI5]
theorem aMo (hI : dR 540000000000) {D M X : Nat} (hMD : M + D ≤ 700000) {kid : Core} (g1 : CG D M X kid) (g2 : (tyR kid).length + 2 * tlC kid + 1 ≤ M) (k : Nat) (hk : m30 kid ≤ k) (nm z : Str) : CG D M X (sTR k kid nm (vT z)) := by
 have hS1 := aB2 hI hMD k kid hk g1 nm (vT z) (UOk.var z);refine ⟨hS1.q, ?_, ?_, le_trans hS1.sz g1.sz⟩
 ·have := hS1.cw j6 0 r0;have e : tW j6 (vT z) r0 = 0 := rfl;rw [e, aIg] at this;exact le_trans this g1.dep
 ·have h1 := dM (a := z :: tyR kid) (c := sTR k kid nm (vT z)) fun x hx => by
   rcases hS1.ty x hx with h | h
   ·exact mem_cons_of_mem _ h
   ·rw [aFw] at h; rw [mem_singleton.1 h]; exact mem_cons_self
  rw [length_cons] at h1;have h2 := hS1.tl;omega
theorem aVq (hI : dR 540000000000) {D M X : Nat} (hMD : M + D ≤ 700000) {σ : Str → Nat} : ∀ (k : Nat) (c : Core), m30 c ≤ k → CG D M X c → ∀ (name : Str) (u : Ty), UOk u → mS σ (sTR k c name u) ≤ mS σ c := by
 intro k
 induction k with
 | zero => intro c h; have := fE c; omega
 | succ k ih =>
 intro c h hc name u hu;obtain ⟨f, n, nm, t, ks, bs, al⟩ := c;rw [sTR];split
 ·exact le_refl _
 ·split
  ·rename_i h7;obtain ⟨rfl, hnf⟩ := h7;obtain ⟨⟨kid, rfl⟩, rfl, rfl⟩ := fK hc.q (.inr (.inr rfl));obtain ⟨g1, g2, g3⟩ := hc.kid (x := kid) mem_cons_self;rw [if_pos rfl] at g2;obtain ⟨_, hktl⟩ := g1.types hMD;have hfl := nO u;have hufv := hu.fv;have efm : [kid].flatMap tyR = tyR kid := by simp
   rw [efm, map_cons, map_nil];have hz30 : (b8 (tfR u ++ tyR kid)).length ≤ 30 := oL _ (by rw [length_append]; omega);have h1 := ih kid (by omega) g1 nm (vT (b8 (tfR u ++ tyR kid))) (UOk.var _);have hk1 := aMo hI hMD g1 g2 k (by omega) nm (b8 (tfR u ++ tyR kid));have hS1 := (aB2 hI hMD k kid (by omega) g1 nm (vT (b8 (tfR u ++ tyR kid))) (UOk.var _)).sz;have h2 := ih _ (by omega) hk1 name u hu;refine aP4 (fun e => absurd e (by decide)) (aFu hz30) (by rw [mSs, mSs, mSs, mSs]; omega) (fun x hx => ?_) (fun b hb => by cases hb) (fun a ha => by cases ha);rw [mem_singleton.1 hx]; exact h2
  ·exact aP4 (fun _ => rfl) (le_refl _) (le_refl _) (fun x hx => ih x (by have := (hc.kid hx).2.2; omega) (hc.kid hx).1 name u hu) (fun x hx => ih x.body (by have := (hc.bind hx).2; omega) (hc.bind hx).1 name u hu) (fun x hx => ih x.body (by have := (hc.alt hx).2; omega) (hc.alt hx).1 name u hu)
def Fr (z : Str) : Prop := ∃ l, z = b8 l
section
variable {sb : Core → Str → Core → Core} {P : Core → Prop}
theorem wE {far : List Str} : ∀ {ns : List Str} {st : List Str × List Core × List Str}, (∀ x ∈ st.1, x ∈ (mU sb far ns st).1) ∧ ∀ n ∈ ns, n ∈ (mU sb far ns st).1 ∨ n ∈ far
 | [], st => ⟨fun _ h => h, fun n hn => by cases hn⟩
 | n :: ns, st => by
  obtain ⟨h1, h2⟩ := wE (far := far) (ns := ns) (st := fI sb far st n);have e : mU sb far (n :: ns) st = mU sb far ns (fI sb far st n) := rfl;rw [e];refine ⟨fun x hx => h1 x ?_, fun m hm => ?_⟩
  ·unfold fI; split <;> exact mem_append.2 (.inl hx)
  ·rcases mem_cons.1 hm with rfl | hm
   ·by_cases hf : m ∈ far
    ·exact .inr hf
    ·refine .inl (h1 m ?_);unfold fI; rw [if_neg hf]; exact mem_append.2 (.inr (mem_singleton.2 rfl))
   ·exact h2 m hm
structure RN (p : Core) (out : List Str) (q : Core) : Prop where
 pf : ∀ x ∈ pfR q, x ∈ pfR p ∨ x ∈ out
 ms : ∀ σ, Sg σ → mS σ q ≤ mS σ p
theorem aBt {far : List Str} (hz : ∀ p n z, P p → Fr z → z.length ≤ 30 → P (sb p n (vC z)) ∧ (∀ x ∈ pfR (sb p n (vC z)), x ∈ pfR p ∨ x = z) ∧ ∀ σ, Sg σ → mS σ (sb p n (vC z)) ≤ mS σ p) :
  ∀ {ns : List Str} {st : List Str × List Core × List Str}, st.2.2.length + ns.length ≤ 540000000000 → (∀ p ∈ st.2.1, P p) → A2 (fun p q => P q ∧ RN p (mU sb far ns st).1 q) st.2.1 (mU sb far ns st).2.1
 | [], st, _, hP => by
  show A2 (fun p q => P q ∧ RN p st.1 q) st.2.1 st.2.1;have key : ∀ l : List Core, (∀ p ∈ l, P p) → A2 (fun p q => P q ∧ RN p st.1 q) l l := by
   intro l
   induction l with
   | nil => intro _; exact .nil
   | cons p l ih => intro h; exact .cons ⟨h p mem_cons_self, fun x hx => .inl hx, fun _ _ => le_refl _⟩ (ih fun q hq => h q (mem_cons_of_mem _ hq))
  exact key _ hP
 | n :: ns, st, hl, hP => by
  simp only [length_cons] at hl;have hg := rI (sb := sb) (far := far) (st := st) (n := n);have e : mU sb far (n :: ns) st = mU sb far ns (fI sb far st n) := rfl;rw [e];have hf : (b8 st.2.2).length ≤ 30 := oL _ (by omega);by_cases hn : n ∈ far
  ·have es : fI sb far st n = (st.1 ++ [b8 st.2.2], st.2.1.map (fun p => sb p n (vC (b8 st.2.2))), st.2.2 ++ [b8 st.2.2]) := by unfold fI; rw [if_pos hn]
   rw [es] at hg ⊢;have hP2 : ∀ p ∈ st.2.1.map (fun p => sb p n (vC (b8 st.2.2))), P p := fun p hp => by
    obtain ⟨q, hq, rfl⟩ := mem_map.1 hp;exact (hz q n _ (hP q hq) ⟨_, rfl⟩ hf).1
   have hr := aBt hz (far := far) (ns := ns) (st := (st.1 ++ [b8 st.2.2], st.2.1.map (fun p => sb p n (vC (b8 st.2.2))), st.2.2 ++ [b8 st.2.2])) (by omega) hP2;have hout := (wE (sb := sb) (far := far) (ns := ns) (st := (st.1 ++ [b8 st.2.2], st.2.1.map (fun p => sb p n (vC (b8 st.2.2))), st.2.2 ++ [b8 st.2.2]))).1 (b8 st.2.2) (mem_append.2 (.inr (mem_singleton.2 rfl)))
   generalize mU sb far ns (st.1 ++ [b8 st.2.2], st.2.1.map (fun p => sb p n (vC (b8 st.2.2))), st.2.2 ++ [b8 st.2.2]) = r at hr hout ⊢;dsimp only at hr;have key : ∀ (l : List Core) (m : List Core), (∀ p ∈ l, P p) → A2 (fun p q => P q ∧ RN p r.1 q) (l.map (fun p => sb p n (vC (b8 st.2.2)))) m → A2 (fun p q => P q ∧ RN p r.1 q) l m := by
    intro l
    induction l with
    | nil => intro m _ h; cases h; exact .nil
    | cons p l ih2 =>
     intro m hp h;cases h with
     | cons h1 h2 =>
      obtain ⟨_, z2, z3⟩ := hz p n _ (hp p mem_cons_self) ⟨_, rfl⟩ hf;refine .cons ⟨h1.1, fun x hx => ?_, fun σ hσ => le_trans (h1.2.ms σ hσ) (z3 σ hσ)⟩ (ih2 _ (fun q hq => hp q (mem_cons_of_mem _ hq)) h2);rcases h1.2.pf x hx with h | h
      ·rcases z2 x h with h | h
       ·exact .inl h
       ·exact .inr (by rw [h]; exact hout)
      ·exact .inr h
   exact key _ _ hP hr
  ·have es : fI sb far st n = (st.1 ++ [n], st.2.1, st.2.2) := by unfold fI; rw [if_neg hn]
   rw [es] at hg ⊢;exact aBt hz (far := far) (ns := ns) (st := (st.1 ++ [n], st.2.1, st.2.2)) (by omega) hP
structure RB (s : Str) (b : Core) (ns out : List Str) (p q : Core) : Prop where
 pf : ∀ x ∈ pfR q, ¬ x ∈ out → (x ∈ pfR p ∧ ¬ x = s ∧ ¬ x ∈ ns) ∨ x ∈ pfR b
 ms : ∀ σ, Sg σ → mS σ b ≤ σ s → mS σ q ≤ mS σ p
theorem aI3 {s : Str} {b : Core} {ns : List Str} {ps : List Core} (hP : ∀ p ∈ ps, P p)
  (hz : ∀ p n z, P p → Fr z → z.length ≤ 30 → P (sb p n (vC z)) ∧ (∀ x ∈ pfR (sb p n (vC z)), x ∈ pfR p ∨ x = z) ∧ ∀ σ, Sg σ → mS σ (sb p n (vC z)) ≤ mS σ p)
  (hs : ∀ p, P p → (∀ x ∈ pfR (sb p s b), (x ∈ pfR p ∧ ¬ x = s) ∨ x ∈ pfR b) ∧ ∀ σ, Sg σ → mS σ b ≤ σ s → mS σ (sb p s b) ≤ mS σ p)
  (hl : (ps.flatMap pfR).length + 2 * ns.length + (pfR b).length ≤ 540000000000) : A2 (RB s b ns (dN sb s b ns ps).1) ps (dN sb s b ns ps).2 := by
 unfold dN;split
 ·rename_i hin;have hg := aBt hz (far := pfR b) (ns := ns) (st := ([], ps, ps.flatMap pfR ++ ns ++ pfR b)) (by simp only [length_append]; omega) hP;have ho := (wE (sb := sb) (far := pfR b) (ns := ns) (st := ([], ps, ps.flatMap pfR ++ ns ++ pfR b))).2
  generalize mU sb (pfR b) ns ([], ps, ps.flatMap pfR ++ ns ++ pfR b) = r at hg ho ⊢;dsimp only at hg ⊢;have key : ∀ (l m : List Core), A2 (fun p q => P q ∧ RN p r.1 q) l m → A2 (RB s b ns r.1) l (m.map fun p => sb p s b) := by
   intro l m h
   induction h with
   | nil => exact .nil
   | cons h1 _ ih2 =>
    refine .cons ⟨fun x hx hxo => ?_, fun σ hσ hb => le_trans ((hs _ h1.1).2 σ hσ hb) (h1.2.ms σ hσ)⟩ ih2;rcases (hs _ h1.1).1 x hx with ⟨h, hxs⟩ | h
    ·rcases h1.2.pf x h with h | h
     ·by_cases hxn : x ∈ ns
      ·rcases ho x hxn with h' | h'
       ·exact absurd h' hxo
       ·exact .inr h'
      ·exact .inl ⟨h, hxs, hxn⟩
     ·exact absurd h hxo
    ·exact .inr h
  exact key _ _ hg
 ·rename_i hin;have key : ∀ l : List Core, (∀ p ∈ l, p ∈ ps) → A2 (RB s b ns ns) l l := by
   intro l
   induction l with
   | nil => intro _; exact .nil
   | cons p l ih2 =>
    intro h;refine .cons ⟨fun x hx hxo => .inl ⟨hx, fun e => hin ⟨mem_flatMap.2 ⟨p, h p mem_cons_self, by rw [← e]; exact hx⟩, by rw [← e]; exact hxo⟩, hxo⟩, fun _ _ _ => le_refl _⟩ (ih2 fun q hq => h q (mem_cons_of_mem _ hq))
  exact key ps fun p hp => hp
end
section
variable {σ : Str → Nat}
theorem aVn {l m : List Core} (h : A2 (fun p q => mS σ q ≤ mS σ p) l m) : mSs σ m ≤ mSs σ l := by
 induction h with
 | nil => exact le_refl _
 | cons r _ ih => rw [mSs, mSs]; omega
theorem aPz : ∀ {ts : List Ty} {ns : List Str} {ps : List Core} {bs : List Bind}, A2 (fun (b : Bind) n => w30 n ≤ w30 b.name) bs ns → A2 (fun (b : Bind) p => mS σ p ≤ mS σ b.body) bs ps → mSb σ (mkB ts ns ps) ≤ mSb σ bs
 | [], _, _, _, _, _ => by unfold mkB; rw [mSb]; exact zero_le _
 | t :: ts, _, _, _, .nil, .nil => by unfold mkB; rw [mSb]; exact le_refl _
 | t :: ts, n :: ns, p :: ps, .mk s ty c :: bs, .cons h1 h2, .cons h3 h4 => by
  unfold mkB;rw [mSb, mSb];have := aPz (ts := ts) h2 h4;have h1 : w30 n ≤ w30 s := h1;have h3 : mS σ p ≤ mS σ c := h3;omega
end
structure PL (c : Core) (s : Str) (b r : Core) : Prop where
 pf : ∀ x ∈ pfR r, (x ∈ pfR c ∧ ¬ x = s) ∨ x ∈ pfR b
 ms : ∀ σ, Sg σ → mS σ b ≤ σ s → mS σ r ≤ mS σ c
section
variable {sb : Core → Str → Core → Core} {X : Nat} {s : Str} {b : Core} {f n : Int} {nm : Str} {t : Ty} {ks : List Core} {bs : List Bind} {al : List Alt}
theorem aTj (hf1 : f ≠ 1) (hq : fF (QL X) (.mk f n nm t ks bs al)) (hn : A2 NR (gvN f nm bs) (dN sb s b (gvN f nm bs) (ks ++ bs.map Bind.body)).1)
  (hg : A2 (RB s b (gvN f nm bs) (dN sb s b (gvN f nm bs) (ks ++ bs.map Bind.body)).1) (ks ++ bs.map Bind.body) (dN sb s b (gvN f nm bs) (ks ++ bs.map Bind.body)).2)
  (ha : ∀ a ∈ al, A2 NR a.vars (dN sb s b a.vars [a.body]).1 ∧ A2 (RB s b a.vars (dN sb s b a.vars [a.body]).1) [a.body] (dN sb s b a.vars [a.body]).2) : PL (.mk f n nm t ks bs al) s b (x6 sb s b (.mk f n nm t ks bs al)) := by
 have hA : ∀ a ∈ al, RB s b a.vars (nD sb s b a).vars a.body (nD sb s b a).body ∧ A2 NR a.vars (nD sb s b a).vars := fun a ha' => by
  obtain ⟨g2, g1⟩ := ha a ha';refine ⟨?_, g2⟩;show RB s b a.vars (dN sb s b a.vars [a.body]).1 a.body ((dN sb s b a.vars [a.body]).2.headD a.body);cases hx : (dN sb s b a.vars [a.body]).2 with
  | nil => rw [hx] at g1; cases g1
  | cons y l' =>
   rw [hx] at g1;cases g1 with
   | cons h _ => exact h
 have hone : f = 5 → bs = [] := fun h5 => (fK hq (.inl h5)).2.1
 rw [x6];unfold zNm zKs zBs;generalize dN sb s b (gvN f nm bs) (ks ++ bs.map Bind.body) = r at hg hn ⊢;obtain ⟨r1, r2⟩ := r;dsimp only at *;have hK := hg.take ks.length;rw [take_left] at hK;have hB := hg.drop ks.length;rw [drop_left] at hB;have hBl : (r2.drop ks.length).length = bs.length := by rw [hB.length, length_map]
 have hnl := hn.length;have hgv : gvN f (if f = 5 then r1.headD nm else nm) (mkB (bs.map Bind.ty) r1 (r2.drop ks.length)) = r1 := by
  by_cases h5 : f = 5
  ·have := hone h5; subst this;unfold gvN at hn hnl ⊢;rw [if_pos h5] at hn hnl;rw [if_pos h5, if_pos h5]
   match r1, hnl with
   | [y], _ => show [y] ++ (mkB [] [y] _).map Bind.name = [y]; unfold mkB; rfl
  ·unfold gvN at hnl ⊢;rw [if_neg h5, nil_append] at hnl;rw [length_map] at hnl;rw [if_neg h5, nil_append, nE (by rw [length_map]; exact hnl) (by rw [length_map]; exact hBl)]
 refine ⟨fun x hx => ?_, fun σ hσ hb => ?_⟩
 ·rcases (r8 hf1).1 hx with ⟨q, hq', h1, h2⟩ | ⟨a, ha', h1, h2⟩
  ·rw [hgv] at h2;have hqm : q ∈ r2 := by
    rcases mem_append.1 hq' with h | h
    ·exact mem_of_mem_take h
    ·obtain ⟨y, hy, rfl⟩ := mem_map.1 h;exact mem_of_mem_drop (oH hy).1
   obtain ⟨p, hp, hr⟩ := hg.mem q hqm;rcases hr.pf x h1 h2 with ⟨g1, g2, g3⟩ | h
   ·exact .inl ⟨(r8 hf1).2 (.inl ⟨p, hp, g1, g3⟩), g2⟩
   ·exact .inr h
  ·obtain ⟨a0, ha0, rfl⟩ := mem_map.1 ha';rcases (hA a0 ha0).1.pf x h1 h2 with ⟨g1, g2, g3⟩ | h
   ·exact .inl ⟨(r8 hf1).2 (.inr ⟨a0, ha0, g1, g3⟩), g2⟩
   ·exact .inr h
 ·rw [mS, mS, if_neg hf1, if_neg hf1];have e1 : w30 (if f = 5 then r1.headD nm else nm) ≤ w30 nm := by
   split
   ·rename_i hf;unfold gvN at hn;rw [if_pos hf] at hn;cases hn with
    | cons h _ => exact h.w
   ·exact le_refl _
  have e2 : mSs σ (r2.take ks.length) ≤ mSs σ ks := aVn (A2.mono (fun p q h => h.ms σ hσ hb) hK);have e3 : mSb σ (mkB (bs.map Bind.ty) r1 (r2.drop ks.length)) ≤ mSb σ bs := by
   by_cases hf : f = 5
   ·have := hone hf; subst this;show mSb σ (mkB [] _ _) ≤ _;unfold mkB; rw [mSb]; exact zero_le _
   ·have h4 := hn;unfold gvN at h4;rw [if_neg hf, nil_append] at h4;exact aPz (A2.mapL (A2.mono (fun a b h => h.w) h4)) (A2.mapL (A2.mono (fun p q h => h.ms σ hσ hb) hB))
  have e4 : mSa σ (al.map (nD sb s b)) ≤ mSa σ al := by
   clear ha hq
   induction al with
   | nil => exact le_refl _
   | cons a l ihl =>
    obtain ⟨af, an, anm, vs, ab⟩ := a;obtain ⟨g1, g2⟩ := hA _ mem_cons_self;have := ihl fun x hx => hA x (mem_cons_of_mem _ hx)
    have g3 := g1.ms σ hσ hb;have g4 := aDg g2;have e : nD sb s b (Alt.mk af an anm vs ab) = .mk af an anm (nD sb s b (Alt.mk af an anm vs ab)).vars (nD sb s b (Alt.mk af an anm vs ab)).body := rfl;have g3 : mS σ (nD sb s b (Alt.mk af an anm vs ab)).body ≤ mS σ ab := g3;have g4 : ((nD sb s b (Alt.mk af an anm vs ab)).vars.map fun v => 1 + w30 v).sum ≤ (vs.map fun v => 1 + w30 v).sum := g4;rw [map_cons, e, mSa, mSa];omega
  omega
end
theorem aRm (hI : dR 540000000000) {D M X : Nat} (hMD : M + D ≤ 700000) (hX : 31 ≤ X) : ∀ (k : Nat) (c : Core), m30 c ≤ k → CG D M X c → ∀ (s : Str) (b : Core), CG D M X b → PL c s b (fC k c s b) := by
 intro k
 induction k with
 | zero => intro c h; have := fE c; omega
 | succ k ih =>
 intro c h hc s b hb;have hBig : Big = 250000000000 := rfl;have hsz := hc.sz;have hszb := hb.sz;have hpfb := kI b;obtain ⟨hbty, hbtl⟩ := hb.types hMD;obtain ⟨f, n, nm, t, ks, bs, al⟩ := c;have hq := hc.q;rw [fC];by_cases hv : f = 1 ∧ nm = s
 ·rw [if_pos (show (Core.mk f n nm t ks bs al).form = 1 ∧ (Core.mk f n nm t ks bs al).name = s from hv)];obtain ⟨rfl, rfl⟩ := hv;refine ⟨fun x hx => .inr hx, fun σ hσ hb' => le_trans hb' ?_⟩;rw [mS, if_pos rfl]; omega
 rw [if_neg (show ¬ ((Core.mk f n nm t ks bs al).form = 1 ∧ (Core.mk f n nm t ks bs al).name = s) from hv)]
 let P : Core → Prop := fun x => m30 x < m30 (.mk f n nm t ks bs al) ∧ CG D M X x
 have hsub : ∀ p, P p → ∀ n' b', CG D M X b' → PL p n' b' (fC k p n' b') := fun p hp n' b' hb' => ih p (by have := hp.1; omega) hp.2 n' b' hb'
 have hsubT : ∀ p, P p → ∀ n' b', CG D M X b' → TB X p n' b' (fC k p n' b') := fun p hp n' b' hb' => z8 hI hMD hX k p (by have := hp.1; omega) hp.2 n' b' hb'
 have hz : ∀ p m z, P p → Fr z → z.length ≤ 30 → P (fC k p m (vC z)) ∧ (∀ x ∈ pfR (fC k p m (vC z)), x ∈ pfR p ∨ x = z) ∧ ∀ σ, Sg σ → mS σ (fC k p m (vC z)) ≤ mS σ p := fun p m z hp hF hzl => by
  have hcg := CG.vC (D := D) (M := M) hzl hX;have h1 := hsubT p hp m (vC z) hcg;have h2 := h1.r0 hzl;have h3 := hsub p hp m (vC z) hcg;refine ⟨⟨lt_of_le_of_lt h2.sz hp.1, h2.cg hp.2 h1.rx.q⟩, fun x hx => (h3.pf x hx).imp And.left fun h => ?_, fun σ hσ => h3.ms σ hσ ?_⟩
  ·have : pfR (vC z) = [z] := rfl;rw [this] at h; exact mem_singleton.1 h
  ·rw [aYb];obtain ⟨l, rfl⟩ := hF;have := hσ.fr l hzl;have := hσ.ge m;have := mC m;omega
 have hzR : ∀ p m z, P p → z.length ≤ 30 → P (fC k p m (vC z)) ∧ R0 p (fC k p m (vC z)) := fun p m z hp hzl => by
  have h1 := hsubT p hp m (vC z) (CG.vC hzl hX);have h2 := h1.r0 hzl;exact ⟨⟨lt_of_le_of_lt h2.sz hp.1, h2.cg hp.2 h1.rx.q⟩, h2⟩
 have hPq : ∀ p, P p → fF (QL X) p := fun p hp => hp.2.q
 have hSR : ∀ p, P p → RX X b p (fC k p s b) := fun p hp => (hsubT p hp s b hb).rx
 have hs : ∀ p, P p → (∀ x ∈ pfR (fC k p s b), (x ∈ pfR p ∧ ¬ x = s) ∨ x ∈ pfR b) ∧ ∀ σ, Sg σ → mS σ b ≤ σ s → mS σ (fC k p s b) ≤ mS σ p := fun p hp => ⟨(hsub p hp s b hb).pf, (hsub p hp s b hb).ms⟩
 by_cases hf1 : f = 1
 ·subst hf1;obtain ⟨rfl, rfl, rfl⟩ := aFq hq rfl;rw [if_neg (fun h => absurd h.1 (by show ¬ (1 : Int) = 7; decide))];have hne : ¬ nm = s := fun e => hv ⟨rfl, e⟩
  have e : x6 (fC k) s b (.mk 1 n nm t [] [] []) = .mk 1 n nm t [] [] [] := by
   rw [x6];unfold zNm zKs zBs;rw [if_neg (by decide)];have : (([] : List Core) ++ ([] : List Bind).map Bind.body) = [] := rfl;rw [this];have hp : dN (fC k) s b (gvN 1 nm []) [] = (gvN 1 nm [], []) := by
    unfold dN;rw [if_neg fun h => by cases h.1]
   rw [hp];rfl
  rw [e]
  exact ⟨fun x hx => .inl ⟨hx, fun e => hne (by
   have : pfR (.mk 1 n nm t [] [] []) = [nm] := rfl
   rw [this] at hx; rw [← mem_singleton.1 hx, e])⟩, fun _ _ _ => le_refl _⟩
 have hend : ∀ nm1 ks1, (f = 5 → nm1 = nm) → fF (QL X) (.mk f n nm1 t ks1 bs al) → (∀ x ∈ ks1, P x) → cZ ks1 ≤ cZ ks → PL (.mk f n nm1 t ks1 bs al) s b (x6 (fC k) s b (.mk f n nm1 t ks1 bs al)) := fun nm1 ks1 _ hq1 hP1 hkm => by
  have hP2 : ∀ x ∈ bs, P x.body := fun x hx => ⟨(hc.bind hx).2, (hc.bind hx).1⟩
  have hP3 : ∀ x ∈ al, P x.body := fun x hx => ⟨(hc.alt hx).2, (hc.alt hx).1⟩
  have hPs : ∀ p ∈ ks1 ++ bs.map Bind.body, P p := fun p hp => by
   rcases mem_append.1 hp with hp | hp
   ·exact hP1 p hp
   ·obtain ⟨x, hx, rfl⟩ := mem_map.1 hp;exact hP2 x hx
  have hm := hsz;rw [m30] at hm;have hfm := aKp (ks1 ++ bs.map Bind.body);rw [w7] at hfm;have hbsb := w6 bs;have hgv := aJ8 (f := f) (nm := nm1) (bs := bs);have hgl : ((ks1 ++ bs.map Bind.body).flatMap pfR).length + 2 * (gvN f nm1 bs).length + (pfR b).length ≤ 540000000000 := by omega
  have hal' : ∀ a ∈ al, (([a.body] : List Core).flatMap pfR).length + 2 * a.vars.length + (pfR b).length ≤ 540000000000 := fun a ha => by
   have h1 := iW ha;have h2 := vA a.vars;have h3 := kI a.body;simp only [flatMap_cons, flatMap_nil, append_nil];omega
  have hN := (qZ (sb := fC k) (P := P) (X := X) (s := s) (b := b) (ns := gvN f nm1 bs) hPs hPq hzR hSR hgl).2
  have hRB := aI3 (sb := fC k) (P := P) (s := s) (b := b) (ns := gvN f nm1 bs) hPs hz hs hgl;exact aTj hf1 hq1 hN hRB fun a ha => ⟨(qZ (sb := fC k) (P := P) (X := X) (s := s) (b := b) (fun p hp => by rw [mem_singleton.1 hp]; exact hP3 a ha) hPq hzR hSR (hal' a ha)).2, aI3 (sb := fC k) (P := P) (s := s) (b := b) (fun p hp => by rw [mem_singleton.1 hp]; exact hP3 a ha) hz hs (hal' a ha)⟩
 have hPk : ∀ x ∈ ks, P x := fun x hx => ⟨(hc.kid hx).2.2, (hc.kid hx).1⟩
 by_cases hcl : f = 7 ∧ s ∈ pfR (.mk f n nm t ks bs al)
 ·rw [if_pos (show (Core.mk f n nm t ks bs al).form = 7 ∧ s ∈ pfR (Core.mk f n nm t ks bs al) from hcl), aYk];by_cases hnb : nm ∈ tyR b
  ·rw [if_pos hnb];obtain ⟨rfl, hin⟩ := hcl;obtain ⟨⟨kid, rfl⟩, rfl, rfl⟩ := fK hq (.inr (.inr rfl));obtain ⟨g1, g2, g3⟩ := hc.kid (x := kid) mem_cons_self;rw [if_pos rfl] at g2;obtain ⟨_, hktl⟩ := g1.types hMD;obtain ⟨q1, _⟩ := bE.1 hq;have efm : [kid].flatMap tyR = tyR kid := by simp
   rw [efm, map_cons, map_nil];have hz30 : (b8 (tyR b ++ tyR kid)).length ≤ 30 := oL _ (by rw [length_append]; omega);have hzn := wI (tyR b ++ tyR kid);generalize b8 (tyR b ++ tyR kid) = z at hz30 hzn;have hS1 := aB2 hI hMD (m30 kid) kid (le_refl _) g1 nm (vT z) (UOk.var z);have hkid1 := aMo hI hMD g1 g2 (m30 kid) (le_refl _) nm z;have hq1 : fF (QL X) (.mk 7 n z t [sTR (m30 kid) kid nm (vT z)] [] []) := by
    refine bE.2 ⟨⟨q1.1, fun h => ⟨(q1.2.1 h).1, hzn⟩, q1.2.2.1, fun p hp => (by cases hp), le_trans (w8 (aFu hz30) rfl rfl) q1.2.2.2.2.1, fun e => absurd e (by decide), fun p hp => (by cases hp), fun p hp => (by cases hp)⟩, fun x hx => ?_, fun x hx => (by cases hx), fun x hx => (by cases hx)⟩;rw [mem_singleton.1 hx]; exact hkid1.q
   have hr := hend z [sTR (m30 kid) kid nm (vT z)] (fun e => absurd e (by decide)) hq1 (fun x hx => by rw [mem_singleton.1 hx]; exact ⟨lt_of_le_of_lt hS1.sz g3, hkid1⟩) (by rw [cZ, cZ, cZ, cZ]; have := hS1.sz; omega);refine ⟨fun x hx => (hr.pf x hx).imp (fun h => ⟨?_, h.2⟩) id, fun σ hσ hb' => le_trans (hr.ms σ hσ hb') ?_⟩
   ·rcases (r8 (by decide)).1 h.1 with ⟨p, hp, h1, h2⟩ | ⟨a, ha, _⟩
    ·have hpe : p = sTR (m30 kid) kid nm (vT z) := by simpa using hp
     rw [hpe, aVe] at h1;exact (r8 (by decide)).2 (.inl ⟨kid, by simp, h1, by unfold gvN; rw [if_neg (by decide)]; simp⟩)
    ·cases ha
   ·rw [mS, mS, if_neg (by decide), if_neg (by decide), mSs, mSs, mSs, mSs, mSb, mSa];have := aVq hI hMD (σ := σ) (m30 kid) kid (le_refl _) g1 nm (vT z) (UOk.var z);have := aFu (s := nm) hz30;omega
  ·rw [if_neg hnb];exact hend nm ks (fun _ => rfl) hq hPk (le_refl _)
 ·rw [if_neg (show ¬ ((Core.mk f n nm t ks bs al).form = 7 ∧ s ∈ pfR (Core.mk f n nm t ks bs al)) from hcl)];exact hend nm ks (fun _ => rfl) hq hPk (le_refl _)
def sW {α : Type} (L : List α) (i : Nat) : List α := L.reverse.take i ++ ((L.drop i).take (L.length - 2 * i) ++ L.reverse.drop (L.length - i))
section
variable {α : Type} {L : List α} {i : Nat}
theorem vL (h : 2 * i ≤ L.length) (k : Nat) : (sW L i)[k]? = if k < i then L.reverse[k]? else if k < L.length - i then L[k]? else L.reverse[k]? := by
 have h1 : (L.reverse.take i).length = i := by rw [length_take, List.length_reverse]; omega
 have h2 : ((L.drop i).take (L.length - 2 * i)).length = L.length - 2 * i := by rw [length_take, length_drop]; omega
 unfold sW;by_cases hk : k < i
 ·rw [if_pos hk, List.getElem?_append_left (by omega), List.getElem?_take_of_lt hk]
 ·rw [if_neg hk, List.getElem?_append_right (by omega), h1];by_cases hk2 : k < L.length - i
  ·rw [if_pos hk2, List.getElem?_append_left (by omega), List.getElem?_take_of_lt (by omega), List.getElem?_drop];congr 1; omega
  ·rw [if_neg hk2, List.getElem?_append_right (by omega), h2, List.getElem?_drop];congr 1; omega
theorem aDo (h : 2 * i ≤ L.length) : (sW L i).length = L.length := by
 unfold sW;simp only [length_append, length_take, List.length_reverse, length_drop];omega
theorem aIn (h : 2 * i + 1 < L.length) {x y : α} (hx : (sW L i)[i]? = some x) (hy : (sW L i)[L.length - 1 - i]? = some y) : ((sW L i).set i y).set (L.length - 1 - i) x = sW L (i + 1) := by
 refine List.ext_getElem? fun k => ?_
 have hl := aDo (L := L) (i := i) (by omega);rw [vL (by omega)] at hx hy;rw [if_neg (by omega), if_pos (by omega)] at hx hy;rw [List.getElem?_set, List.getElem?_set, length_set, hl, vL (by omega), vL (by omega)];have hr : ∀ j, j < L.length → L.reverse[j]? = L[L.length - 1 - j]? := fun j hj => List.getElem?_reverse hj
 by_cases h1 : L.length - 1 - i = k
 ·subst h1;rw [if_pos rfl, if_pos (by omega), if_neg (by omega), if_neg (by omega), hr _ (by omega), ← hx];congr 1; omega
 ·rw [if_neg h1];by_cases h2 : i = k
  ·subst h2;rw [if_pos rfl, if_pos (by omega), if_pos (by omega), hr _ (by omega), ← hy]
  ·rw [if_neg h2];by_cases h3 : k < i
   ·rw [if_pos h3, if_pos (by omega)]
   ·rw [if_neg h3, if_neg (show ¬ k < i + 1 by omega)];by_cases h4 : k < L.length - (i + 1)
    ·rw [if_pos (by omega), if_pos h4]
    ·rw [if_neg (show ¬ k < L.length - i by omega), if_neg h4]
theorem aM9 (h : 2 * i ≤ L.length) (h2 : L.length ≤ 2 * i + 1) : sW L i = L.reverse := by
 refine List.ext_getElem? fun k => ?_
 rw [vL h];have hr : ∀ j, j < L.length → L.reverse[j]? = L[L.length - 1 - j]? := fun j hj => List.getElem?_reverse hj
 by_cases h3 : k < i
 ·rw [if_pos h3]
 ·rw [if_neg h3];by_cases h4 : k < L.length - i
  ·rw [if_pos h4, hr k (by omega)];congr 1; omega
  ·rw [if_neg h4]
theorem aIm : sW L 0 = L := by unfold sW; simp
end
theorem aLe (L : List Core) (hL : L.length ≤ 570000000000) : aU Tryz.prog 159 [.one (.hs 720 0 L.length L.length)] [(720, .arr 37 10 (L.map aC) 0)] (.tup []) [(720, .arr 37 10 (L.reverse.map aC) 0)] := by
 have hkL : (L.map aC).length = L.length := length_map _;refine bT (n := 28) tok Tryz.func159 rfl rfl rfl ?_;refine a8 (ag [] rfl ?_);refine aB ?_;refine aL (fun i : Nat => mk [(0, .one (.hs 720 0 L.length L.length)), (2, I .i64 i), (3, I .i64 ((L.length : Int) - 1 - i))] [(720, .arr 37 10 ((sW L i).map aC) 0)]) (fun i => 2 * i ≤ L.length) (fun i => L.length - i) 0 (zero_le _) (sl (he := ⟨rfl, rfl, by show some (I .i64 _) = some (I .i64 _); congr 2; simp, trivial⟩) (hh := ⟨⟨_, rfl, .arrS (by rw [aIm])⟩, trivial⟩)) ?_;intro i hi;have hrl := aDo (L := L) hi;have hkr : ((sW L i).map aC).length = L.length := by rw [length_map, hrl]
 refine a8 (a8 (ag [] rfl ?_));refine aA rfl (fun hb => ?_) (fun hb => ?_)
 ·have hlt : (i : Int) < (L.length : Int) - 1 - i := of_decide_eq_true hb;obtain ⟨x, hx⟩ := aK (l := sW L i) (k := i) (by omega);obtain ⟨y, hy⟩ := aK (l := sW L i) (k := L.length - 1 - i) (by omega);have hst := aIn (by omega) hx hy;have hx' := bQ aC hx;have hy' := bQ aC hy;have ej : (L.length : Int) - 1 - i = ((L.length - 1 - i : Nat) : Int) := by omega
  have hne : i ≠ L.length - 1 - i := by omega
  have hj : L.length - 1 - i < L.length := by omega
  have hil : i < L.length := by omega
  have hy2 : (((sW L i).map aC).set i (aC y))[L.length - 1 - i]? = some (aC y) := by rw [List.getElem?_set_ne hne]; exact hy'
  have hst' : (((sW L i).map aC).set i (aC y)).set (L.length - 1 - i) (aC x) = (sW L (i + 1)).map aC := by rw [← hst, map_set, map_set]
  have hks : (((sW L i).map aC).set i (aC y)).length = L.length := by rw [length_set, hkr]
  refine aD ?_;refine AWp.sub (st2 := mk [(0, .one (.hs 720 0 L.length L.length)), (2, I .i64 i), (3, I .i64 ((L.length - 1 - i : Nat) : Int))] [(720, .arr 37 10 ((sW L i).map aC) 0)]) (sl (he := ⟨rfl, rfl, congrArg (fun x => some (I .i64 x)) ej, trivial⟩)) ?_;generalize L.length - 1 - i = j at *;refine a8 (aB ?_);refine ag [(7, .row j (aC y)), (11, .row i (aC x)), (13, .row i (aC x)), (15, .row j (aC y))] rfl ?_;refine ag [] rfl ?_;refine ⟨i + 1, by omega, by dsimp only; omega, sl (he := ⟨rfl, rfl, ?_, trivial⟩) (hh := ⟨⟨_, rfl, .arrS hst'⟩, trivial⟩)⟩;show some (I .i64 ((j : Int) - 1)) = some (I .i64 ((L.length : Int) - 1 - ((i + 1 : Nat) : Int)));congr 2; omega
 ·have hge : ¬ (i : Int) < (L.length : Int) - 1 - i := of_decide_eq_false hb;rw [aM9 hi (by omega)];refine aM ?_;exact ⟨.inl rfl, ⟨_, _, .nil, .nil, rfl⟩, ⟨⟨_, rfl, .arr⟩, trivial⟩, rfl⟩
mutual
def gvC : Core → Option (Str × List Core)
 | .mk f _ s _ ks _ _ => if f = 2 then some (s, []) else if f = 4 then (gvH ks).map (fun p => (p.1, p.2 ++ ks.drop 1)) else if f = 6 then gvH ks else none
def gvH : List Core → Option (Str × List Core)
 | [] => none
 | c :: _ => gvC c
end
def wC : Option (Str × List Core) → V
 | some (s, l) => .tup [Go.AM.T s, .one (.c (.sl 10 (l.map aC))), B true]
 | none => .tup [Go.AM.T [], .one (.c (.sl 10 [])), B false]
theorem s8 {X : Nat} {f n : Int} {s : Str} {t : Ty} {ks : List Core} {bs : List Bind} {al : List Alt} (h : fF (QL X) (.mk f n s t ks bs al)) (hf : f = 4 ∨ f = 10) : (∃ a b, ks = [a, b]) ∧ bs = [] ∧ al = [] := by
 obtain ⟨h1, _⟩ := bE.1 h;have g := h1.1;unfold okF at g;rw [if_pos hf] at g;obtain ⟨g1, g2, g3⟩ := of_decide_eq_true g;rw [length_map] at g2 g3;refine ⟨?_, length_eq_zero_iff.1 g2, length_eq_zero_iff.1 g3⟩
 match ks, g1 with
 | [a, b], _ => exact ⟨a, b, rfl⟩
theorem aB3 (X : Nat) (c : Core) (hq : fF (QL X) c) (hsz : b6 c ≤ 570000000000) : aU Tryz.prog 97 [.pa (aC c)] [] (wC (gvC c)) [] := by
 refine bT (n := 30) tok Tryz.func97 rfl rfl rfl ?_;refine a8 (ag [] rfl ?_);refine a8 (ag [] rfl ?_);refine AWp.sub (Sub.own (t := 5) (id := 720) 37 10 rfl rfl) ?_;refine aB ?_;refine aL (fun x : Core × List Core => mk [(1, .one (.vp 1 0)), (5, .one (.hs 720 0 x.2.length x.2.length))] [(720, .arr 37 10 (x.2.map aC) 0), (1, .var 37 (bB x.1))]) (fun x => fF (QL X) x.1 ∧ gvC c = (gvC x.1).map (fun p => (p.1, p.2 ++ x.2.reverse)) ∧ x.2.length + b6 x.1 ≤ b6 c) (fun x => b6 x.1) (c, []) ⟨hq, by cases gvC c <;> simp, by simp⟩ sl ?_;rintro ⟨c1, acc⟩ ⟨hq1, hg, hs1⟩;dsimp only at hq1 hg hs1 ⊢;obtain ⟨f, n, s, t, ks, bs, al⟩ := c1;have hka : (acc.map aC).length = acc.length := length_map _;have hrev := aLe acc (by omega);obtain ⟨_, qk, _, _⟩ := bE.1 hq1;refine aB ?_;refine a8 (a8 (ag [] rfl ?_));refine aB ?_;refine a8 (ag [] rfl ?_);refine aA rfl (fun hb => ?_) (fun hb => ?_)
 ·have h2 : f = 2 := of_decide_eq_true hb;have e : gvC c = some (s, acc.reverse) := by rw [hg, gvC, if_pos h2]; rfl
  rw [e];refine a8 (aE mixed ?_);refine ak 1 [] rfl ?_;refine kc hrev ?_;refine az ?_;refine a8 (ag [] rfl ?_);refine AWp.sub (Sub.freeze (id := 720) rfl) ?_;exact aI ⟨.inr rfl, ⟨_, _, .tmp rfl (.tmp rfl (.tmp rfl .nil)), .cons .refl (.cons (hs_all rfl rfl (by simp) rfl) (.cons .refl .nil)), rfl⟩, trivial, rfl⟩
 have h2 : ¬ f = 2 := of_decide_eq_false hb;refine a8 (ag [] rfl ?_);refine aA rfl (fun hb => ?_) (fun hb => ?_)
 ·have h4 : f = 4 := of_decide_eq_true hb;subst h4;obtain ⟨⟨a, b, rfl⟩, rfl, rfl⟩ := s8 hq1 (.inl rfl);have hg' : gvC c = (gvC a).map (fun p => (p.1, p.2 ++ (acc ++ [b]).reverse)) := by
   rw [hg, gvC, if_neg h2, if_pos rfl, gvH];cases gvC a <;> simp
  have hsz' : b6 (.mk 4 n s t [a, b] [] []) = 1 + s.length + (b6 a + (b6 b + 0)) + 0 + 0 := by rw [b6, bJ, bJ, bJ, cB, bZ]
  have hbp := eZ b;have hl1 : acc.length + 1 ≤ 570000000000 := by omega
  refine ag [(3, .row 1 (aC b)), (5, .all)] rfl ?_;refine ag [(2, .row 0 (aC a))] rfl ?_;refine ⟨(a, acc ++ [b]), ⟨qk a (by simp), hg', by rw [length_append]; show acc.length + 1 + b6 a ≤ _; omega⟩, by dsimp only; omega, ?_⟩;exact sl
 have h4 : ¬ f = 4 := of_decide_eq_false hb;refine a8 (ag [] rfl ?_);refine aA rfl (fun hb => ?_) (fun hb => ?_)
 ·have h6 : f = 6 := of_decide_eq_true hb;subst h6;obtain ⟨⟨a, rfl⟩, rfl, rfl⟩ := fK hq1 (.inr (.inl rfl));have hg' : gvC c = (gvC a).map (fun p => (p.1, p.2 ++ acc.reverse)) := by
   rw [hg, gvC, if_neg h2, if_neg h4, if_pos rfl, gvH]
  have hsz' : b6 (.mk 6 n s t [a] [] []) = 1 + s.length + (b6 a + 0) + 0 + 0 := by rw [b6, bJ, bJ, cB, bZ]
  refine aD ?_;refine ag [(2, .row 0 (aC a))] rfl ?_;exact ⟨(a, acc), ⟨qk a (by simp), hg', by dsimp only; omega⟩, by dsimp only; omega, sl⟩
 have h6 : ¬ f = 6 := of_decide_eq_false hb;have e : gvC c = none := by rw [hg, gvC, if_neg h2, if_neg h4, if_neg h6]; rfl
 rw [e];refine a8 (ag [] rfl ?_);exact aI ⟨.inr rfl, ⟨_, _, .tmp rfl (.tmp rfl (.tmp rfl .nil)), .cons .refl (.cons (.one (.c .nl .nil)) (.cons .refl .nil)), rfl⟩, trivial, rfl⟩
def shC (c : Core) : Bool := decide (c.form = 5) || (decide (c.form = 7) || (decide (c.form = 3) || (gvC c).isSome))
theorem wU (X : Nat) (c : Core) (hq : fF (QL X) c) (hsz : b6 c ≤ 570000000000) : aU Tryz.prog 41 [.pa (aC c)] [] (B (shC c)) [] := by
 have hg := aB3 X c hq hsz;obtain ⟨f, n, s, t, ks, bs, al⟩ := c;refine bT (n := 19) tok Tryz.func41 rfl rfl rfl ?_;refine a8 (ag [] rfl ?_);refine a8 (a8 (ag [] rfl ?_));by_cases h : f = 5 ∨ f = 7 ∨ f = 3
 ·have e : shC (.mk f n s t ks bs al) = true := by
   unfold shC;show (decide (f = 5) || (decide (f = 7) || (decide (f = 3) || _))) = true;rcases h with h | h | h
   ·rw [decide_eq_true h]; rfl
   ·rw [decide_eq_true h]; simp
   ·rw [decide_eq_true h]; simp
  rw [e];have e3 : ¬ f = 5 → ¬ f = 7 → some (B (decide (f = 3))) = some (B true) := fun h5 h7 => by rw [decide_eq_true (show f = 3 by omega)]
  refine aB (a8 (AWp.cut (mk [(8, B true)] []) ?_ ?_))
  ·refine a8 (ag [] rfl ?_);refine aA rfl (fun hb => ?_) (fun hb => ?_)
   ·have h5 : f = 5 := of_decide_eq_true hb;exact aD (sl (he := ⟨by show some (B (decide (f = 5))) = some (B true); rw [decide_eq_true h5], trivial⟩))
   have h5 : ¬ f = 5 := of_decide_eq_false hb;refine a8 (ag [] rfl ?_);refine aA rfl (fun hb => ?_) (fun hb => ?_)
   ·have h7 : f = 7 := of_decide_eq_true hb;exact aD (sl (he := ⟨by show some (B (decide (f = 7))) = some (B true); rw [decide_eq_true h7], trivial⟩))
   have h7 : ¬ f = 7 := of_decide_eq_false hb;exact ag [] rfl (sl (he := ⟨e3 h5 h7, trivial⟩))
  refine aA rfl (fun _ => ?_) (fun hb => by cases hb);refine a8 (ag [] rfl ?_);exact aI rtT
 ·have h5 : ¬ f = 5 := fun e => h (.inl e)
  have h7 : ¬ f = 7 := fun e => h (.inr (.inl e))
  have h3 : ¬ f = 3 := fun e => h (.inr (.inr e))
  have e : shC (.mk f n s t ks bs al) = (gvC (.mk f n s t ks bs al)).isSome := by
   unfold shC;show (decide (f = 5) || (decide (f = 7) || (decide (f = 3) || _))) = _;rw [decide_eq_false h5, decide_eq_false h7, decide_eq_false h3]; rfl
  rw [e];refine aB (a8 (AWp.cut (mk [(1, .one (.vp 1 0)), (8, B false)] [(1, .var 37 (bB (.mk f n s t ks bs al)))]) ?_ ?_))
  ·refine a8 (ag [] rfl ?_);refine aA rfl (fun hb => absurd (of_decide_eq_true hb) h5) (fun _ => ?_);refine a8 (ag [] rfl ?_);refine aA rfl (fun hb => absurd (of_decide_eq_true hb) h7) (fun _ => ?_);exact ag [] rfl (sl (he := ⟨rfl, by show some (B (decide (f = 3))) = some (B false); rw [decide_eq_false h3], trivial⟩))
  refine aA rfl (fun hb => by cases hb) (fun _ => ?_);refine aD ?_;cases hx : gvC (.mk f n s t ks bs al) with
  | none =>
   rw [hx] at hg;refine a8 (ag [(1, .pc (wC none))] rfl ?_);refine a8 (ag [] rfl ?_);exact aI rtT
  | some p =>
   obtain ⟨s1, l1⟩ := p;rw [hx] at hg;refine a8 (ag [(1, .pc (wC (some (s1, l1))))] rfl ?_);refine a8 (ag [] rfl ?_);exact aI rtT
theorem aOq (c : Core) (hsz : b6 c ≤ 570000000000) : aU Tryz.prog 67 [.pa (aC c)] [] (ouV (pfR c)) [(500, ouO (pfR c))] := o4 c (fun x _ => oQ (b6 x) x (le_refl _)) hsz
def pcN (n : Nat) : Str := 37 :: Lib.decDigits n
theorem aR3 (n m : Nat) (h : pcN n = pcN m) : n = m := aQj _ _ (List.cons.inj h).2
theorem aGd (n : Nat) : ¬ nh (pcN n) := fun h => h rfl
def mH (tk : List Str) (n : Nat) : List Str := ((List.range n).map pcN).filter fun s => decide (¬ s ∈ tk)
theorem rA (tk : List Str) (n : Nat) : mH tk (n + 1) = if pcN n ∈ tk then mH tk n else mH tk n ++ [pcN n] := by
 unfold mH;rw [List.range_succ, map_append, List.filter_append];by_cases h : pcN n ∈ tk
 ·rw [if_pos h];simp [h]
 ·rw [if_neg h];simp [h]
theorem aNq {tk : List Str} {n : Nat} {x : Str} (h : x ∈ mH tk n) : ¬ x ∈ tk ∧ ∃ m, m < n ∧ x = pcN m := by
 obtain ⟨h1, h2⟩ := mem_filter.1 h;obtain ⟨m, hm, rfl⟩ := mem_map.1 h1;exact ⟨of_decide_eq_true h2, m, mem_range.1 hm, rfl⟩
theorem aNr (tk : List Str) (n : Nat) : n ≤ (mH tk n).length + tk.length := by
 have hnd : ((List.range n).map pcN).Nodup := by
  rw [List.Nodup, List.pairwise_map];exact List.Pairwise.imp (fun h e => h (aR3 _ _ e)) List.nodup_range
 have h := iV ((List.range n).map pcN) (mH tk n ++ tk) hnd fun x hx => by
  by_cases hxt : x ∈ tk
  ·exact mem_append.2 (.inr hxt)
  ·exact mem_append.2 (.inl (mem_filter.2 ⟨hx, decide_eq_true hxt⟩))
 rw [length_map, List.length_range, length_append] at h;exact h
theorem vV (tk : List Str) : ∀ k : Nat, ∃ N, N ≤ tk.length + k ∧ (mH tk N).length = k ∧ ∀ m, m < N → (mH tk m).length < k := by
 intro k;have h0 : ∀ n, (mH tk (n + 1)).length ≤ (mH tk n).length + 1 := fun n => by rw [rA]; split <;> simp
 have key : ∀ M : Nat, k ≤ (mH tk M).length → ∃ N, N ≤ M ∧ (mH tk N).length = k ∧ ∀ m, m < N → (mH tk m).length < k := by
  intro M
  induction M with
  | zero => intro h; exact ⟨0, le_refl _, by have : (mH tk 0).length = 0 := rfl; omega, fun m hm => by omega⟩
  | succ M ih =>
   intro h;by_cases hM : k ≤ (mH tk M).length
   ·obtain ⟨N, h1, h2, h3⟩ := ih hM;exact ⟨N, by omega, h2, h3⟩
   ·refine ⟨M + 1, le_refl _, by have := h0 M; omega, fun m hm => ?_⟩;by_cases h' : k ≤ (mH tk m).length
    ·exfalso;have hmono : ∀ d, (mH tk m).length ≤ (mH tk (m + d)).length := fun d => by
      induction d with
      | zero => exact le_refl _
      | succ d ihd =>
       rw [← add_assoc, rA];split
       ·exact ihd
       ·rw [length_append]; omega
     have := hmono (M - m);rw [show m + (M - m) = M by omega] at this;omega
    ·omega
 exact key (tk.length + k) (by have := aNr tk (tk.length + k); omega)
noncomputable def aG7 (tk : List Str) (k : Nat) : Nat := Classical.choose (vV tk k)
noncomputable def sD (tk : List Str) (k : Nat) : List Str := mH tk (aG7 tk k)
theorem aJh (tk : List Str) (k : Nat) : aG7 tk k ≤ tk.length + k := (Classical.choose_spec (vV tk k)).1
theorem aD3 (tk : List Str) (k : Nat) : (sD tk k).length = k := (Classical.choose_spec (vV tk k)).2.1
theorem aJg (tk : List Str) (k : Nat) {m : Nat} (h : m < aG7 tk k) : (mH tk m).length < k := (Classical.choose_spec (vV tk k)).2.2 m h
theorem pV {tk : List Str} {k : Nat} {x : Str} (h : x ∈ sD tk k) : ¬ x ∈ tk ∧ ¬ nh x ∧ ∃ m, m < tk.length + k ∧ x = pcN m := by
 obtain ⟨h1, m, hm, rfl⟩ := aNq h;exact ⟨h1, aGd m, m, by have := aJh tk k; omega, rfl⟩
theorem aQi : ∀ (k n : Nat), n < 10 ^ (k + 1) → (Lib.decDigits n).length ≤ k + 1
 | 0, n, h => by rw [Lib.decDigits, dif_pos (by omega)]; exact le_refl _
 | k + 1, n, h => by
  rw [Lib.decDigits];split
  ·simp
  ·rw [length_append];have := aQi k (n / 10) (by rw [Nat.pow_succ] at h; omega);simp only [length_cons, length_nil];omega
theorem aVg {n : Nat} (h : n < 10 ^ 29) : (pcN n).length ≤ 30 := by
 have := aQi 28 n h;unfold pcN;rw [length_cons]; omega
mutual
theorem aN2 {X : Nat} {σ : Str → Nat} (hn : ∀ x, nh x → σ x = 1 + w30 x) : ∀ c : Core, fF (QL X) c → (∀ x ∈ pfR c, σ x = 1 + w30 x) → mS σ c = m30 c
 | .mk f n s t ks bs al, h, hp => by
  obtain ⟨⟨_, _, _, _, _, q6, q7, q8⟩, qk, qb, qa⟩ := bE.1 h;rw [mS, m30];by_cases h1 : f = 1
  ·obtain ⟨rfl, rfl, rfl⟩ := aFq h h1;rw [if_pos h1, hp s (by rw [pfR, if_pos h1]; exact mem_singleton.2 rfl)];rfl
  ·rw [if_neg h1];have hg : ∀ x ∈ gvN f s bs, nh x := fun x hx => by
    unfold gvN at hx;rcases mem_append.1 hx with hx | hx
    ·by_cases h5 : f = 5
     ·rw [if_pos h5] at hx; rw [mem_singleton.1 hx]; exact q6 h5
     ·rw [if_neg h5] at hx; cases hx
    ·obtain ⟨b, hb, rfl⟩ := mem_map.1 hx;exact q7 (bhd b) (mem_map.2 ⟨b, hb, rfl⟩)
   have hkb : ∀ p ∈ ks ++ bs.map Bind.body, ∀ x ∈ pfR p, σ x = 1 + w30 x := fun p hpm x hx => by
    by_cases hxg : x ∈ gvN f s bs
    ·exact hn x (hg x hxg)
    ·exact hp x ((r8 h1).2 (.inl ⟨p, hpm, hx, hxg⟩))
   have ha : ∀ a ∈ al, ∀ x ∈ pfR a.body, σ x = 1 + w30 x := fun a ha x hx => by
    by_cases hxg : x ∈ a.vars
    ·exact hn x (q8 (ahd a) (mem_map.2 ⟨a, ha, rfl⟩) x hxg)
    ·exact hp x ((r8 h1).2 (.inr ⟨a, ha, hx, hxg⟩))
   rw [aP1 hn ks qk fun p hpm => hkb p (mem_append.2 (.inl hpm)), aP2 hn bs qb fun b hb => hkb b.body (mem_append.2 (.inr (mem_map.2 ⟨b, hb, rfl⟩))), aP3 hn al qa ha]
theorem aP1 {X : Nat} {σ : Str → Nat} (hn : ∀ x, nh x → σ x = 1 + w30 x) : ∀ l : List Core, (∀ c ∈ l, fF (QL X) c) → (∀ c ∈ l, ∀ x ∈ pfR c, σ x = 1 + w30 x) → mSs σ l = cZ l
 | [], _, _ => by rw [mSs, cZ]
 | c :: l, h, hp => by rw [mSs, cZ, aN2 hn c (h c mem_cons_self) (hp c mem_cons_self), aP1 hn l (fun x hx => h x (mem_cons_of_mem _ hx)) fun x hx => hp x (mem_cons_of_mem _ hx)]
theorem aP2 {X : Nat} {σ : Str → Nat} (hn : ∀ x, nh x → σ x = 1 + w30 x) : ∀ l : List Bind, (∀ c ∈ l, fF (QL X) c.body) → (∀ c ∈ l, ∀ x ∈ pfR c.body, σ x = 1 + w30 x) → mSb σ l = fV l
 | [], _, _ => by rw [mSb, fV]
 | .mk s t c :: l, h, hp => by rw [mSb, fV, aN2 hn c (h _ mem_cons_self) (hp _ mem_cons_self), aP2 hn l (fun x hx => h x (mem_cons_of_mem _ hx)) fun x hx => hp x (mem_cons_of_mem _ hx)]
theorem aP3 {X : Nat} {σ : Str → Nat} (hn : ∀ x, nh x → σ x = 1 + w30 x) : ∀ l : List Alt, (∀ c ∈ l, fF (QL X) c.body) → (∀ c ∈ l, ∀ x ∈ pfR c.body, σ x = 1 + w30 x) → mSa σ l = hY l
 | [], _, _ => by rw [mSa, hY]
 | .mk f n s v c :: l, h, hp => by rw [mSa, hY, aN2 hn c (h _ mem_cons_self) (hp _ mem_cons_self), aP3 hn l (fun x hx => h x (mem_cons_of_mem _ hx)) fun x hx => hp x (mem_cons_of_mem _ hx)]
end
noncomputable def kG (c : Core) (l : List (Str × Str)) : Core := l.foldl (fun c p => fC (m30 c) c p.1 (vC p.2)) c
noncomputable def vP (c : Core) (l : List (Str × Core)) : Core := l.foldl (fun c p => fC (m30 c) c p.1 p.2) c
def iS (c : Core) (l : List Core) : List Str := pfR c ++ l.flatMap pfR
noncomputable def aBh (c : Core) (names : List Str) (l : List Core) : Core := vP (kG c (names.zip (sD (iS c l) names.length))) ((sD (iS c l) names.length).zip l)
structure PO (D M X B : Nat) (c : Core) (l : List Core) : Prop where
 q : fF (QL X) c
 dep : cw j6 0 c r0 ≤ D
 bq : ∀ b ∈ l, fF (QL X) b
 bdep : ∀ b ∈ l, cw j6 0 b r0 ≤ D
 ty : ∃ U : List Str, U.length + 2 * (tlC c + (l.map tlC).sum) ≤ M ∧ (∀ x ∈ tyR c, x ∈ U) ∧ ∀ b ∈ l, ∀ x ∈ tyR b, x ∈ U
 one : 1 ≤ B
 bsz : ∀ b ∈ l, m30 b ≤ 31 * B
 sz : m30 c * B ≤ Big
 bsum : (l.map m30).sum ≤ Big
structure PR (X B : Nat) (c : Core) (l : List Core) (r : Core) : Prop where
 q : fF (QL X) r
 cw : ∀ (A : Alg) (E : Nat) (ρ : Str → Nat) (K : Nat), cw A E c ρ ≤ K → (∀ b ∈ l, cw A E b ρ ≤ K) → cw A E r ρ ≤ K
 ty : ∀ x ∈ tyR r, x ∈ tyR c ∨ ∃ b ∈ l, x ∈ tyR b
 tl : tlC r ≤ tlC c + (l.map tlC).sum
 sz : m30 r ≤ m30 c * B
theorem v8 {l : List Core} {g : Core → Nat} {b : Core} (h : b ∈ l) : g b ≤ (l.map g).sum := by
 induction l with
 | nil => cases h
 | cons x l ih =>
  rw [map_cons, sum_cons];rcases mem_cons.1 h with e | h
  ·rw [e]; omega
  ·have := ih h; omega
section
variable {D M X B : Nat} {c : Core} {l : List Core}
theorem PO.cg (h : PO D M X B c l) : CG D M X c := by
 obtain ⟨U, h1, h2, _⟩ := h.ty;refine ⟨h.q, h.dep, ?_, le_trans (le_mul_of_pos_right _ h.one) h.sz⟩;have := dM h2;omega
theorem PO.cgb (h : PO D M X B c l) {b : Core} (hb : b ∈ l) : CG D M X b := by
 obtain ⟨U, h1, _, h3⟩ := h.ty;refine ⟨h.bq b hb, h.bdep b hb, ?_, le_trans (v8 hb) h.bsum⟩;have := dM (h3 b hb);have := v8 (g := tlC) hb;omega
theorem vQ (hI : dR 540000000000) (hMD : M + D ≤ 700000) (hX : 31 ≤ X) : ∀ (ps : List (Str × Str)) (c : Core), CG D M X c → (∀ p ∈ ps, p.2.length ≤ 30) → R0 c (kG c ps) ∧ CG D M X (kG c ps)
 | [], c, h, _ => ⟨R0.refl c, h⟩
 | p :: ps, c, h, hp => by
  have hz := hp p mem_cons_self;have h1 := z8 hI hMD hX (m30 c) c (le_refl _) h p.1 (vC p.2) (CG.vC hz hX);have h2 := h1.r0 hz;obtain ⟨h3, h4⟩ := vQ hI hMD hX ps (fC (m30 c) c p.1 (vC p.2)) (h2.cg h h1.rx.q) fun q hq => hp q (mem_cons_of_mem _ hq)
  exact ⟨h2.trans h3, h4⟩
structure P2 (X B : Nat) (c : Core) (l : List Core) (own : List Str) (i : Nat) (r : Core) : Prop where
 q : fF (QL X) r
 cw : ∀ (A : Alg) (E : Nat) (ρ : Str → Nat) (K : Nat), cw A E c ρ ≤ K → (∀ b ∈ l, cw A E b ρ ≤ K) → cw A E r ρ ≤ K
 ty : ∀ x ∈ tyR r, x ∈ tyR c ∨ ∃ b ∈ l, x ∈ tyR b
 tl : tlC r ≤ tlC c + ((l.take i).map tlC).sum
 sz : mS (fun s => if s ∈ own then (1 + w30 s) * B else 1 + w30 s) r ≤ m30 c * B
theorem aDd {g : Core → Nat} : ∀ {l : List Core} {i : Nat}, ((l.take i).map g).sum ≤ (l.map g).sum
 | [], i => by simp
 | x :: l, 0 => by simp
 | x :: l, i + 1 => by
  rw [take_succ_cons, map_cons, map_cons, sum_cons, sum_cons];have := aDd (g := g) (l := l) (i := i);omega
theorem P2.cg {own : List Str} {i : Nat} {r : Core} (ho : PO D M X B c l) (h : P2 X B c l own i r) : CG D M X r := by
 obtain ⟨U, h1, h2, h3⟩ := ho.ty;refine ⟨h.q, h.cw j6 0 r0 D ho.dep ho.bdep, ?_, ?_⟩
 ·have := dM (c := r) (a := U) fun x hx => by
   rcases h.ty x hx with h | ⟨b, hb, h⟩
   ·exact h2 x h
   ·exact h3 b hb x h
  have := h.tl;have := aDd (g := tlC) (l := l) (i := i);omega
 ·refine le_trans (yK (fun s => ?_) r) (le_trans h.sz ho.sz);split
  ·exact le_mul_of_pos_right _ ho.one
  ·exact le_refl _
theorem P2.zero {own : List Str} {r : Core} (ho : PO D M X B c l) (h : R0 c r) (hq : fF (QL X) r) : P2 X B c l own 0 r := by
 refine ⟨hq, fun A E ρ K h1 _ => le_trans (h.cw A E ρ) h1, fun x hx => .inl (h.ty x hx), by simpa using h.tl, ?_⟩;refine le_trans (aXh ho.one (fun s => ?_) r) (mul_le_mul_right _ h.sz);split
 ·exact le_refl _
 ·exact le_mul_of_pos_right _ ho.one
theorem P2.step (hI : dR 540000000000) (hMD : M + D ≤ 700000) (hX : 31 ≤ X) {tk : List Str} {k i : Nat} {r s b : _} (ho : PO D M X B c l) (htk : ∀ b ∈ l, ∀ x ∈ pfR b, x ∈ tk) (h : P2 X B c l (sD tk k) i r) (hs : s ∈ sD tk k) (hs30 : s.length ≤ 30) (hb : l[i]? = some b) :
  TB X r s b (fC (m30 r) r s b) ∧ P2 X B c l (sD tk k) (i + 1) (fC (m30 r) r s b) := by
 have hbm := List.mem_of_getElem? hb;have hcg := h.cg ho;have hcb := ho.cgb hbm;have h1 := z8 hI hMD hX (m30 r) r (le_refl _) hcg s b hcb;have h2 := aRm hI hMD hX (m30 r) r (le_refl _) hcg s b hcb;refine ⟨h1, h1.rx.q, fun A E ρ K k1 k2 => ?_, fun x hx => ?_, ?_, ?_⟩
 ·have := h1.rx.cw A E ρ;have := h.cw A E ρ K k1 k2;have := k2 b hbm;omega
 ·rcases h1.rx.ty x hx with h' | h'
  ·exact h.ty x h'
  ·exact .inr ⟨b, hbm, h'⟩
 ·have e : (l.take (i + 1)) = l.take i ++ [b] := by rw [take_add_one, hb]; rfl
  rw [e, map_append, List.sum_append];have := h1.rx.tl;have := h.tl;simp only [map_cons, map_nil, sum_cons, sum_nil];omega
 ·refine le_trans (h2.ms _ ⟨fun s => ?_, fun l hl => ?_⟩ ?_) h.sz
  ·split
   ·exact le_mul_of_pos_right _ ho.one
   ·exact le_refl _
  ·rw [if_neg fun hin => (pV hin).2.1 (aEu l)];unfold w30; omega
  ·have e := aN2 (X := X) (σ := fun s => if s ∈ sD tk k then (1 + w30 s) * B else 1 + w30 s) (fun x hx => by
    rw [if_neg fun hin => (pV hin).2.1 hx]) b (ho.bq b hbm) (fun x hx => by
    rw [if_neg fun hin => (pV hin).1 (htk b hbm x hx)])
   rw [e, if_pos hs];refine le_trans (ho.bsz b hbm) (mul_le_mul_right _ ?_);unfold w30; omega
theorem P2.fin {own : List Str} {r : Core} (ho : PO D M X B c l) (h : P2 X B c l own l.length r) : PR X B c l r := by
 refine ⟨h.q, h.cw, h.ty, ?_, ?_⟩
 ·have := h.tl;rwa [take_length] at this
 ·refine le_trans (yK (fun s => ?_) r) h.sz;split
  ·exact le_mul_of_pos_right _ ho.one
  ·exact le_refl _
end
theorem rN {α β γ : Type} (g : γ → α × β → γ) (z : γ) {a : List α} {b : List β} {i : Nat} {x : α} {y : β} (ha : a[i]? = some x) (hb : b[i]? = some y) : ((a.zip b).take (i + 1)).foldl g z = g (((a.zip b).take i).foldl g z) (x, y) := by
 have h : (a.zip b)[i]? = some (x, y) := by rw [List.getElem?_zip_eq_some]; exact ⟨ha, hb⟩
 rw [take_add_one, h, foldl_append]; rfl
theorem aBk {l : List Core} : ∀ i, ((l.take i).flatMap pfR).length ≤ (l.map m30).sum := by
 induction l with
 | nil => intro i; simp
 | cons c l ih =>
  intro i;cases i with
  | zero => simp
  | succ i =>
   rw [take_succ_cons, flatMap_cons, length_append, map_cons, sum_cons];have := kI c;have := ih i;omega
theorem yC {l : List Core} {i : Nat} {b : Core} (h : l[i]? = some b) : (l.take (i + 1)).flatMap pfR = (l.take i).flatMap pfR ++ pfR b := by
 rw [take_add_one, h, flatMap_append]; simp
theorem aOp (hI : dR 540000000000) {D M X B : Nat} (hMD : M + D ≤ 700000) (hX : 31 ≤ X) (c : Core) (names : List Str) (l : List Core) (hl : names.length = l.length) (hl2 : l.length ≤ 1000000) (ho : PO D M X B c l) :
  aU Tryz.prog 162 [.pa (aC c), bU names, .one (.c (.sl 10 (l.map aC)))] [] (.pa (aC (aBh c names l))) [] ∧ PR X B c l (aBh c names l) := by
 have hBig : Big = 250000000000 := rfl;have hcg := ho.cg;have hcs := dA c;have hcsz := hcg.sz;have hpfc := kI c;have hbsum := ho.bsum;have hfl : ∀ i, ((l.take i).flatMap pfR).length ≤ 250000000000 := fun i => le_trans (aBk i) hbsum
 have hfr := aOq c (by omega);have hkL : (l.map aC).length = l.length := length_map _;have hkN : (names.map bN).length = names.length := length_map _;have hputT : iS c l = pfR c ++ (l.take l.length).flatMap pfR := by rw [take_length]; rfl
 have htkl : (iS c l).length ≤ 500000000000 := by rw [hputT, length_append]; have := hfl l.length; omega
 have hNle := aJh (iS c l) names.length;have hown30 : ∀ x ∈ sD (iS c l) names.length, x.length ≤ 30 := fun x hx => by
  obtain ⟨_, _, m, hm, rfl⟩ := pV hx
  exact aVg (lt_of_lt_of_le hm (by
    have : 600000000000 ≤ 10 ^ 29 := by decide
    omega))
 have hownL := aD3 (iS c l) names.length;have hkO : ((sD (iS c l) names.length).map bN).length = (sD (iS c l) names.length).length := length_map _;have hzp : ∀ p ∈ names.zip (sD (iS c l) names.length), p.2.length ≤ 30 := fun p hp => hown30 p.2 (List.of_mem_zip (a := p.1) (b := p.2) hp).2
 have hzpi : ∀ i, ∀ p ∈ (names.zip (sD (iS c l) names.length)).take i, p.2.length ≤ 30 := fun i p hp => hzp p (mem_of_mem_take hp)
 have hF1 := vQ hI hMD hX (names.zip (sD (iS c l) names.length)) c hcg hzp;have htk : ∀ b ∈ l, ∀ x ∈ pfR b, x ∈ iS c l := fun b hb x hx => mem_append.2 (.inr (mem_flatMap.2 ⟨b, hb, hx⟩))
 have hP2 : ∀ i, i ≤ l.length → P2 X B c l (sD (iS c l) names.length) i (vP (kG c (names.zip (sD (iS c l) names.length))) (((sD (iS c l) names.length).zip l).take i)) := by
  intro i
  induction i with
  | zero => intro _; exact P2.zero ho hF1.1 hF1.2.q
  | succ i ih =>
   intro hi;obtain ⟨b, hb⟩ := aK (show i < l.length by omega);obtain ⟨s, hs⟩ := aK (show i < (sD (iS c l) names.length).length by omega);have := (P2.step hI hMD hX ho htk (ih (by omega)) (List.mem_of_getElem? hs) (hown30 s (List.mem_of_getElem? hs)) hb).2
   unfold vP at this ⊢;rw [rN _ _ hs hb];exact this
 have hzl : ((sD (iS c l) names.length).zip l).length = l.length := by rw [length_zip]; omega
 have hfin := hP2 l.length (le_refl _);rw [← hzl, take_length, hzl] at hfin;refine ⟨?_, hfin.fin ho⟩;refine bT (n := 80) tok Tryz.func162 rfl rfl rfl ?_;refine a8 (ag [] rfl ?_);refine a8 (aE mixed ?_);refine ak 1 [] rfl ?_;refine kc hfr ?_;refine ak 1 [] rfl ?_;refine az ?_;refine a8 (a8 (ag [] rfl ?_));refine aB ?_;refine aL (fun i : Nat => mk [(1, bU names), (2, .one (.c (.sl 10 (l.map aC)))), (3, .one (.vp 3 0)), (6, .one (.vp 6 0)), (7, ouV (pfR c ++ (l.take i).flatMap pfR)), (19, .one (.c (.sl 10 (l.map aC)))), (20, I .i64 ((l.map aC).length : Int)), (21, I .i64 i)] [(3, .var 37 (bB c)), (6, .var 37 bS), (500, ouO (pfR c ++ (l.take i).flatMap pfR))]) (fun i => i ≤ l.length) (fun i => l.length - i) 0 (zero_le _) (by rw [take_zero, flatMap_nil, append_nil]; exact sl) ?_;intro i hi;refine a8 (ag [] rfl ?_);refine a8 (aA rfl (fun hb => ?_) (fun hb => ?_))
 ·have hlt := ltD hb hkL;obtain ⟨b, hbi⟩ := aK hlt;have hb' := bQ aC hbi;have hbm := List.mem_of_getElem? hbi;have hbs := dA b;have hcb := (ho.cgb hbm).sz;have hfb := oQ (b6 b) b (le_refl _) (by omega);have hst := yC hbi;have h1 := hfl i;have h2 := kI b;have hx0 : (pfR c ++ (l.take i).flatMap pfR).length ≤ 500000000000 := by rw [length_append]; omega
  generalize hG : (l.take i).flatMap pfR = G at hst hx0;generalize pfR b = F at hfb hst h2;have hkF : (F.map bN).length = F.length := length_map _;have hkx : ((pfR c ++ G).map bN).length = (pfR c ++ G).length := length_map _;refine aD ?_;refine a8 (aB (a8 (ag [(0, .row i (aC b))] rfl ?_)));refine aE mixed ?_;refine ak 2 [] rfl ?_;refine kc hfb ?_;refine ak 2 [] rfl ?_;refine az ?_;refine ag [] rfl ?_;refine ⟨i + 1, hlt, by dsimp only; omega, ?_⟩;dsimp only;rw [hst, ← append_assoc];exact sl (he := ⟨rfl, rfl, rfl, rfl, Go.AM.hs_ren (by simp; omega) (by simp; omega), rfl, rfl, rfl, trivial⟩) (hh := ⟨⟨_, rfl, .varS rfl⟩, ⟨_, rfl, .varS rfl⟩, ⟨_, rfl, .arrS (by simp)⟩, trivial⟩)
 have hge := geD hb hkL hi;subst hge;rw [← hputT];refine aM ?_;refine AWp.sub (Sub.freeze (id := 500) rfl) ?_;refine a8 (ag [] rfl ?_);refine a8 (a8 (ag [] rfl ?_));refine AWp.sub (Sub.own (t := 10) (id := 720) 9 1 rfl rfl) ?_;refine aB ?_;have hO : ∀ n, ((mH (iS c l) n).map bN).length = (mH (iS c l) n).length := fun n => length_map _
 refine aL (fun n : Nat => mk [(1, bU names), (2, .one (.c (.sl 10 (l.map aC)))), (3, .one (.vp 3 0)), (6, .one (.vp 6 0)), (7, ouV (iS c l)), (10, .one (.hs 720 0 (mH (iS c l) n).length (mH (iS c l) n).length)), (11, I .i64 n)] [(3, .var 37 (bB c)), (6, .var 37 bS), (500, .arr 9 1 ((iS c l).map bN) 2), (720, .arr 9 1 ((mH (iS c l) n).map bN) 0)]) (fun n => n ≤ aG7 (iS c l) names.length) (fun n => aG7 (iS c l) names.length - n) 0 (zero_le _) sl ?_;intro n hn;have hct := bW (iS c l) (pcN n) (by omega);have hit := hI n (by omega);refine a8 (a8 (ag [] rfl ?_));refine aA rfl (fun hb => ?_) (fun hb => ?_)
 ·have hlt : n < aG7 (iS c l) names.length := by
   have hb : ((mH (iS c l) n).length : Int) < ((names.map bN).length : Int) := of_decide_eq_true hb;rw [hkN] at hb;by_cases h : n < aG7 (iS c l) names.length
   ·exact h
   ·have e : n = aG7 (iS c l) names.length := by omega
    rw [e] at hb;have : (mH (iS c l) (aG7 (iS c l) names.length)).length = names.length := aD3 _ _;omega
  have hll : (mH (iS c l) n).length ≤ 1000000 := by have := aJg _ _ hlt; omega
  have hdl := aB0 n (by omega);have hM : 600000000000 ≤ maxLen := by decide
  have hsu := rA (iS c l) n;refine aD ?_;refine a8 (aB (a8 (aE mixed ?_)));refine ak 1 [] rfl ?_;refine kc hit ?_;refine ak 2 [] rfl ?_ (hc := by repeat (first | exact trivial | refine ⟨by first | rfl | omega | (simp; omega), ?_⟩));refine az ?_;refine a8 (aE mixed ?_);refine ak 2 [] rfl ?_;refine kc hct ?_;refine ak 1 [] rfl ?_;refine az ?_;refine aA rfl (fun hb => ?_) (fun hb => ?_)
  ·have hni : ¬ pcN n ∈ iS c l := by simpa using hb
   rw [if_neg hni] at hsu;generalize mH (iS c l) n = O at hsu hll;refine ag [(2, .all)] rfl ?_;refine ag [] rfl ?_;refine ⟨n + 1, hlt, by dsimp only; omega, ?_⟩;dsimp only;rw [hsu];exact sl
  ·have hni : pcN n ∈ iS c l := by simpa using hb
   rw [if_pos hni] at hsu;refine aD ?_;refine ag [] rfl ?_;refine ⟨n + 1, hlt, by dsimp only; omega, ?_⟩;dsimp only;rw [hsu];exact sl
 have heN : n = aG7 (iS c l) names.length := by
  have hb : ¬ ((mH (iS c l) n).length : Int) < ((names.map bN).length : Int) := of_decide_eq_false hb;rw [hkN] at hb;by_cases h : n < aG7 (iS c l) names.length
  ·have := aJg _ _ h; omega
  ·omega
 subst heN;refine aM ?_;refine AWp.sub (Sub.freeze (id := 720) rfl) ?_;have hown : mH (iS c l) (aG7 (iS c l) names.length) = sD (iS c l) names.length := rfl;rw [hown];generalize hTK : iS c l = TK at *;generalize hOW : sD TK names.length = own at *;refine a8 (a8 (ag [] rfl ?_));refine aB ?_;refine aL (fun i : Nat => mk [(2, .one (.c (.sl 10 (l.map aC)))), (3, .one (.vp 3 0)), (6, .one (.vp 6 0)), (10, .one (.hs 720 0 own.length own.length)), (48, bU names), (49, I .i64 ((names.map bN).length : Int)), (50, I .i64 i)] [(3, .var 37 (bB (kG c ((names.zip own).take i)))), (6, .var 37 bS), (720, .arr 9 1 (own.map bN) 2)]) (fun i => i ≤ names.length) (fun i => names.length - i) 0 (zero_le _) sl ?_;intro i hi;refine a8 (ag [] rfl ?_);refine a8 (aA rfl (fun hb => ?_) (fun hb => ?_))
 ·have hlt := ltD hb hkN;obtain ⟨s, hs⟩ := aK hlt;obtain ⟨o, ho'⟩ := aK (show i < own.length by omega);have hs' := bQ bN hs;have ho2 := bQ bN ho';have hz := hown30 o (List.mem_of_getElem? ho');have hc1 := (vQ hI hMD hX ((names.zip own).take i) c hcg (hzpi i)).2
  have hS := (z8 hI hMD hX (m30 (kG c ((names.zip own).take i))) (kG c ((names.zip own).take i)) (le_refl _) hc1 s (vC o) (CG.vC hz hX)).imp;have hst : kG c ((names.zip own).take (i + 1)) = fC (m30 (kG c ((names.zip own).take i))) (kG c ((names.zip own).take i)) s (vC o) := by
   unfold kG;rw [rN _ _ hs ho']
  refine aD ?_;refine a8 (aB (a8 (ag [(1, .row i (bN s))] rfl ?_)));refine aE mixed ?_;refine ak 6 [(5, .row i (bN o))] rfl ?_;refine kc (rV o) ?_;refine kc hS ?_;refine ak 1 [] rfl ?_;refine az ?_;refine ag [] rfl ?_;refine ⟨i + 1, hlt, by dsimp only; omega, ?_⟩;dsimp only;rw [hst];exact sl
 have hge := geD hb hkN hi;subst hge;have hzn : (names.zip own).take names.length = names.zip own := by
  rw [take_of_length_le];rw [length_zip]; omega
 rw [hzn];refine aM ?_;refine a8 (a8 (ag [] rfl ?_));refine aB ?_;refine aL (fun i : Nat => mk [(2, .one (.c (.sl 10 (l.map aC)))), (3, .one (.vp 3 0)), (6, .one (.vp 6 0)), (64, .one (.hs 720 0 own.length own.length)), (65, I .i64 (own.length : Int)), (66, I .i64 i)] [(3, .var 37 (bB (vP (kG c (names.zip own)) ((own.zip l).take i)))), (6, .var 37 bS), (720, .arr 9 1 (own.map bN) 2)]) (fun i => i ≤ own.length) (fun i => own.length - i) 0 (zero_le _) sl ?_;intro i hi;refine a8 (ag [] rfl ?_);refine a8 (aA rfl (fun hb => ?_) (fun hb => ?_))
 ·have hlt : i < own.length := by have := of_decide_eq_true hb; omega
  obtain ⟨s, hs⟩ := aK hlt;obtain ⟨b, hbi⟩ := aK (show i < l.length by omega);have hs' := bQ bN hs;have hb' := bQ aC hbi;have hS := (P2.step (tk := TK) (k := names.length) hI hMD hX ho htk (by rw [hOW]; exact hP2 i (by omega)) (by rw [hOW]; exact List.mem_of_getElem? hs) (hown30 s (List.mem_of_getElem? hs)) hbi).1.imp;have hst : vP (kG c (names.zip own)) ((own.zip l).take (i + 1)) = fC (m30 (vP (kG c (names.zip own)) ((own.zip l).take i))) (vP (kG c (names.zip own)) ((own.zip l).take i)) s b := by
   generalize kG c (names.zip own) = c1;unfold vP;rw [rN _ _ hs hbi]
  refine aD ?_;refine a8 (aB (a8 (ag [(2, .row i (bN s))] rfl ?_)));refine aE mixed ?_;refine ak 6 [(4, .row i (aC b))] rfl ?_;refine kc hS ?_;refine ak 1 [] rfl ?_;refine az ?_;refine ag [] rfl ?_;refine ⟨i + 1, hlt, by dsimp only; omega, ?_⟩;dsimp only;rw [hst];exact sl
 have hge : i = own.length := by have := of_decide_eq_false hb; omega
 subst hge;have hzn : (own.zip l).take own.length = own.zip l := by
  rw [take_of_length_le];rw [length_zip]; omega
 rw [hzn];refine aM ?_;refine a8 (ag [] rfl ?_);have he : aBh c names l = vP (kG c (names.zip own)) (own.zip l) := by unfold aBh; rw [hTK, hOW]
 rw [he];exact aI (rtC trw)
end Go.Proofs.YtmoekkcdkjopgaaGreatDoor
namespace Go.AM
open Go
theorem Sub.fnClo {kf : List Nat} {st : St} (t : Nat) {f : FuncId} (h : st.e t = some (.one (.c (.fn f)))) : Sub kf ⟨upd st.e t (some (.one (.clo f []))), st.h, st.d⟩ st := by
 intro G n S μ a w _ hs;refine ⟨S, μ, ⟨hs.inv, hs.size, hs.defers, fun s v e => ?_⟩⟩;by_cases hst : s = t
 ·subst hst;have hv := hs.env s _ h;have e' : v = .one (.clo f []) := by
   have : some v = some (V.one (.clo f [])) := by rw [← e]; exact aJ _ _ _
   cases this; rfl
  subst e';simp only [aW, b9, Rep, aV] at hv ⊢;exact ⟨[], hv, rfl⟩
 ·exact hs.env s v (by rw [← e]; exact (b7 _ _ _ hst).symm)
def aXn : BinOp → Int → Int → Option Int
 | .add, a, b => some (IntKind.i64.wrap (a + b))
 | .sub, a, b => some (IntKind.i64.wrap (a - b))
 | .mul, a, b => some (IntKind.i64.wrap (a * b))
 | .quo, a, b => if b = 0 then none else some (IntKind.i64.wrap (a.tdiv b))
 | .rem, a, b => if b = 0 then none else some (a.tmod b)
 | _, _, _ => none
section
variable {P : Program} {n : Nat} {ops : Array Oper} {draw : Bool} {k d : Nat} {st : St} {pre : REs} {Q : St → Prop} {o : Oper}
theorem aXx {op : BinOp} {tx ty : TypeId} {x y : Operand} {a b r : Int} (ho : o.op = .binOp op tx x y ty) (hd : o.dst = some d) (hdn : d < n) (hx : opv st x = some (I .i64 a)) (hy : opv st y = some (I .i64 b)) (hr : aXn op a b = some r) :
  Step P n o st ⟨opr x ++ opr y, []⟩ ⟨some (d, some (I .i64 r)), []⟩ := by
 cases op <;> simp only [aXn] at hr <;> try (cases hr; done)
 ·cases hr; exact aNl ho hd hdn hx hy rfl
 ·cases hr; exact aNa ho hd hdn hx hy rfl
 ·cases hr; exact aNf ho hd hdn hx hy rfl
 ·split at hr
  ·cases hr
  ·rename_i hb;cases hr; exact aU1 ho hd hdn hx hy hb rfl
 ·split at hr
  ·cases hr
  ·rename_i hb;cases hr; exact aUz ho hd hdn hx hy hb rfl
theorem kw {op : BinOp} {tx ty : TypeId} {x y : Operand} {a b : Int} (r : Int) (hr : aXn op a b = some r)
  (hk : mA P n ops draw (k + 1) ⟨upd st.e d (some (I .i64 r)), st.h, st.d⟩ ((⟨opr x ++ opr y, []⟩, ⟨some (d, some (I .i64 r)), []⟩) :: pre) Q)
  (ho : ops[k]? = some o := by rfl) (hg : o.guard = none := by rfl) (hop : o.op = .binOp op tx x y ty := by rfl) (hd : o.dst = some d := by rfl) (hdn : Nat.blt d n = true := by rfl) (hx : opv st x = some (I .i64 a) := by rfl) (hy : opv st y = some (I .i64 b) := by rfl) : mA P n ops draw k st pre Q :=
 k_ (g_ ho hg (aXx hop hd (kX hdn) hx hy hr)) hk
end
end Go.AM
namespace Go.Proofs.YtmoekkcdkjopgaaGreatDoor
open Go Go.AM
set_option maxRecDepth 20000
def jJ (n : Int) : Core := .mk 3 n [] zTy [] [] []
def aY7 (s : Str) : Core := .mk 2 0 s zTy [] [] []
def zC : Core := .mk 0 0 [] zTy [] [] []
def aD6 : Str := [97, 100, 100]
def aXg : Str := [115, 117, 98]
def aVj : Str := [109, 117, 108]
def aPy : Str := [100, 105, 118]
def nEq : Str := [101, 113]
def nLt : Str := [108, 116]
def aTq (b : Bool) : Core := aY7 (if b then [84, 114, 117, 101] else [70, 97, 108, 115, 101])
def r5 (s : Str) (a b : Int) : Core × Int :=
 if s = aD6 then (jJ (IntKind.i64.wrap (a + b)), 0)
 else if s = aXg then (jJ (IntKind.i64.wrap (a - b)), 0)
 else if s = aVj then (jJ (IntKind.i64.wrap (a * b)), 0)
 else if s = aPy then (if b = 0 then (zC, 53) else (jJ (IntKind.i64.wrap (a.tdiv b)), 0))
 else if s = nEq then (aTq (decide (a = b)), 0)
 else if s = nLt then (aTq (decide (a < b)), 0)
 else (zC, 51)
theorem aFa (n : Int) : aU Tryz.prog 33 [I .i64 n] [] (.pa (aC (jJ n))) [] := aLl n
theorem aQx (s : Str) : aU Tryz.prog 142 [Go.AM.T s] [] (.pa (aC (aY7 s))) [] := by
 refine bT (n := 5) tok Tryz.func142 rfl rfl rfl ?_;refine a8 (ag [] rfl ?_);refine a8 (ag [] rfl ?_);exact aI (rtC trw)
theorem aLb (b : Bool) : aU Tryz.prog 187 [B b] [] (.pa (aC (aTq b))) [] := by
 refine bT (n := 6) tok Tryz.func187 rfl rfl rfl ?_;refine a8 (ag [] rfl ?_);refine a8 (a8 (ag [] rfl ?_));cases b with
 | true =>
  refine aA rfl (fun _ => ?_) (fun hb => by cases hb);refine a8 (aE mixed ?_);refine kc (aQx [84, 114, 117, 101]) ?_;refine ak 1 [] rfl ?_;refine az ?_;exact aI (rtC trw)
 | false =>
  refine aA rfl (fun hb => by cases hb) (fun _ => ?_);refine aD ?_;refine a8 (aE mixed ?_);refine kc (aQx [70, 97, 108, 115, 101]) ?_;refine ak 1 [] rfl ?_;refine az ?_;exact aI (rtC trw)
theorem aWt (a b : Int) : aU Tryz.prog 182 [I .i64 a, I .i64 b] [] (.pa (aC (jJ (IntKind.i64.wrap (a + b))))) [] := by
 refine bT (n := 9) tok Tryz.func182 rfl rfl rfl ?_;refine a8 (ag [] rfl ?_);refine a8 (aE mixed ?_);refine ak 2 [] rfl ?_;refine kw (IntKind.i64.wrap (a + b)) rfl ?_;refine kc (aFa _) ?_;refine ak 1 [] rfl ?_;refine az ?_;exact aI (rtC trw)
theorem aWp (a b : Int) : aU Tryz.prog 183 [I .i64 a, I .i64 b] [] (.pa (aC (jJ (IntKind.i64.wrap (a - b))))) [] := by
 refine bT (n := 9) tok Tryz.func183 rfl rfl rfl ?_;refine a8 (ag [] rfl ?_);refine a8 (aE mixed ?_);refine ak 2 [] rfl ?_;refine kw (IntKind.i64.wrap (a - b)) rfl ?_;refine kc (aFa _) ?_;refine ak 1 [] rfl ?_;refine az ?_;exact aI (rtC trw)
theorem aWr (a b : Int) : aU Tryz.prog 184 [I .i64 a, I .i64 b] [] (.pa (aC (jJ (IntKind.i64.wrap (a * b))))) [] := by
 refine bT (n := 9) tok Tryz.func184 rfl rfl rfl ?_;refine a8 (ag [] rfl ?_);refine a8 (aE mixed ?_);refine ak 2 [] rfl ?_;refine kw (IntKind.i64.wrap (a * b)) rfl ?_;refine kc (aFa _) ?_;refine ak 1 [] rfl ?_;refine az ?_;exact aI (rtC trw)
theorem aWs (a b : Int) (hb : b ≠ 0) : aU Tryz.prog 185 [I .i64 a, I .i64 b] [] (.pa (aC (jJ (IntKind.i64.wrap (a.tdiv b))))) [] := by
 refine bT (n := 9) tok Tryz.func185 rfl rfl rfl ?_;refine a8 (ag [] rfl ?_);refine a8 (aE mixed ?_);refine ak 2 [] rfl ?_;refine kw (op := .quo) (a := a) (b := b) (IntKind.i64.wrap (a.tdiv b)) (if_neg hb) ?_;refine kc (aFa _) ?_;refine ak 1 [] rfl ?_;refine az ?_;exact aI (rtC trw)
theorem aYq (a b : Int) : aU Tryz.prog 186 [I .i64 a, I .i64 b] [] (.pa (aC (aTq (decide (a = b))))) [] := by
 have h := aLb (decide (a = b));refine bT (n := 9) tok Tryz.func186 rfl rfl rfl ?_;refine a8 (ag [] rfl ?_);refine a8 (aE mixed ?_);refine ak 3 [] rfl ?_;refine kc h ?_;refine ak 1 [] rfl ?_;refine az ?_;exact aI (rtC trw)
theorem aYp (a b : Int) : aU Tryz.prog 188 [I .i64 a, I .i64 b] [] (.pa (aC (aTq (decide (a < b))))) [] := by
 have h := aLb (decide (a < b));refine bT (n := 9) tok Tryz.func188 rfl rfl rfl ?_;refine a8 (ag [] rfl ?_);refine a8 (aE mixed ?_);refine ak 3 [] rfl ?_;refine kc h ?_;refine ak 1 [] rfl ?_;refine az ?_;exact aI (rtC trw)
def tE : List (List C) := [[.str aD6, .fn 182], [.str aXg, .fn 183], [.str aVj, .fn 184], [.str aPy, .fn 185], [.str nEq, .fn 186], [.str nLt, .fn 188]]
theorem yA : mI tE := trivial
theorem aS3 : aU Tryz.prog 164 [] [] (.one (.c (.mp false tE))) [] := by
 refine bT (n := 3) tok Tryz.func164 rfl rfl rfl ?_;refine a8 (ag [] rfl ?_);refine a8 (ag [(0, .id 900)] rfl ?_ (hc := by repeat (first | exact trivial | refine ⟨by decide +kernel, ?_⟩)));refine AWp.sub (Sub.fmap (id := 900) rfl (by simp [keys]) yA) ?_;exact aI rtT
end Go.Proofs.YtmoekkcdkjopgaaGreatDoor
namespace Go.AM
open Go
section
variable {fn : Func} {st : St} {hin hout : List (Nat × AObj)} {res res2 res3 : V}
theorem iB {tr : Tr} {a t u : Nat} {i : TI} {id off tv : Nat} {cells : List R} {v v2 : V} {ids ids2 : List Nat} (hw : tr.wf = true) (hr : fn.results.toList = [.cell a t, .tmp u] := by rfl) (hi : tr.get t = some i := by rfl) (ha : st.e a = some (.one (.vp id off)) := by rfl) (hh : st.h id = some (.var tv cells) := by rfl) (hb : Nat.ble (off + i.size) cells.length = true := by rfl) (hv : nL i ((cells.drop off).take i.size) = some v := by rfl) (hu : st.e u = some v2 := by rfl)
  (hc : Conv st.h ids v res := by first | exact .refl | exact .one (.c .nl .nil) | ((first | apply Go.AM.Conv.pa | apply Go.AM.Conv.agg); repeat (first | exact .nil | apply Go.AM.PureL.c .refl | apply Go.AM.PureL.c .nl | (apply Go.AM.PureL.hs; rfl; (first | rfl | assumption | simp); (first | rfl | exact Go.AM.take_all (by first | assumption | rfl | (simp; done)) | exact Go.AM.take_map.symm)))))
  (hc2 : Conv st.h ids2 v2 res2 := by exact .refl)
  (ho : eQ (fun p => ∃ o, st.h p.1 = some o ∧ Ole (fun i => i) o p.2) hout := by repeat (first | exact trivial | refine ⟨⟨_, rfl, by first | exact Go.AM.Ole.arr | exact Go.AM.Ole.var rfl | exact Go.AM.Ole.varS rfl⟩, ?_⟩))
  (hok : (subset (V.tup [res, res2]).refs (keys hout) && subset (dG hout) (keys hout) && distinct (keys hout) && subset (keys hin) (keys hout) && (hin.all fun p => p.2.plain) && (hout.all fun p => p.2.plain)) = true := by rfl) : (Exit.ret = .normal ∨ Exit.ret = .ret) ∧ Fin tr.flat fn st hin (.tup [res, res2]) hout :=
 ⟨.inr rfl, ⟨[v, v2], [res, res2], by rw [hr]; exact .cell ha (Tr.get_ok hw hi) hh hb hv (.tmp hu .nil), .cons hc (.cons hc2 .nil), rfl⟩, ho, hok⟩
theorem aXf {tr : Tr} {a t u u3 : Nat} {i : TI} {id off tv : Nat} {cells : List R} {v v2 v3 : V} {ids ids2 ids3 : List Nat} (hw : tr.wf = true) (hr : fn.results.toList = [.cell a t, .tmp u, .tmp u3] := by rfl) (hi : tr.get t = some i := by rfl) (ha : st.e a = some (.one (.vp id off)) := by rfl) (hh : st.h id = some (.var tv cells) := by rfl) (hb : Nat.ble (off + i.size) cells.length = true := by rfl) (hv : nL i ((cells.drop off).take i.size) = some v := by rfl) (hu : st.e u = some v2 := by rfl) (hu3 : st.e u3 = some v3 := by rfl)
  (hc : Conv st.h ids v res := by first | exact .refl | exact .one (.c .nl .nil) | ((first | apply Go.AM.Conv.pa | apply Go.AM.Conv.agg); repeat (first | exact .nil | apply Go.AM.PureL.c .refl | apply Go.AM.PureL.c .nl | (apply Go.AM.PureL.hs; rfl; (first | rfl | assumption | simp); (first | rfl | exact Go.AM.take_all (by first | assumption | rfl | (simp; done)) | exact Go.AM.take_map.symm)))))
  (hc2 : Conv st.h ids2 v2 res2 := by exact .refl) (hc3 : Conv st.h ids3 v3 res3 := by exact .refl)
  (ho : eQ (fun p => ∃ o, st.h p.1 = some o ∧ Ole (fun i => i) o p.2) hout := by repeat (first | exact trivial | refine ⟨⟨_, rfl, by first | exact Go.AM.Ole.arr | exact Go.AM.Ole.var rfl | exact Go.AM.Ole.varS rfl⟩, ?_⟩))
  (hok : (subset (V.tup [res, res2, res3]).refs (keys hout) && subset (dG hout) (keys hout) && distinct (keys hout) && subset (keys hin) (keys hout) && (hin.all fun p => p.2.plain) && (hout.all fun p => p.2.plain)) = true := by rfl) : (Exit.ret = .normal ∨ Exit.ret = .ret) ∧ Fin tr.flat fn st hin (.tup [res, res2, res3]) hout :=
 ⟨.inr rfl, ⟨[v, v2, v3], [res, res2, res3], by rw [hr]; exact .cell ha (Tr.get_ok hw hi) hh hb hv (.tmp hu (.tmp hu3 .nil)), .cons hc (.cons hc2 (.cons hc3 .nil)), rfl⟩, ho, hok⟩
theorem aZe {tr : Tr} {a t a2 t2 : Nat} {i i2 : TI} {id off tv id2 off2 tv2 : Nat} {cells cells2 : List R} {v v2 : V} {ids ids2 : List Nat} (hw : tr.wf = true) (hr : fn.results.toList = [.cell a t, .cell a2 t2] := by rfl) (hi : tr.get t = some i := by rfl) (ha : st.e a = some (.one (.vp id off)) := by rfl) (hh : st.h id = some (.var tv cells) := by rfl) (hb : Nat.ble (off + i.size) cells.length = true := by rfl) (hv : nL i ((cells.drop off).take i.size) = some v := by rfl)
  (hi2 : tr.get t2 = some i2 := by rfl) (ha2 : st.e a2 = some (.one (.vp id2 off2)) := by rfl) (hh2 : st.h id2 = some (.var tv2 cells2) := by rfl) (hb2 : Nat.ble (off2 + i2.size) cells2.length = true := by rfl) (hv2 : nL i2 ((cells2.drop off2).take i2.size) = some v2 := by rfl)
  (hc : Conv st.h ids v res := by exact .refl) (hc2 : Conv st.h ids2 v2 res2 := by exact .refl)
  (ho : eQ (fun p => ∃ o, st.h p.1 = some o ∧ Ole (fun i => i) o p.2) hout := by repeat (first | exact trivial | refine ⟨⟨_, rfl, by first | exact Go.AM.Ole.arr | exact Go.AM.Ole.var rfl | exact Go.AM.Ole.varS rfl⟩, ?_⟩))
  (hok : (subset (V.tup [res, res2]).refs (keys hout) && subset (dG hout) (keys hout) && distinct (keys hout) && subset (keys hin) (keys hout) && (hin.all fun p => p.2.plain) && (hout.all fun p => p.2.plain)) = true := by rfl) : (Exit.ret = .normal ∨ Exit.ret = .ret) ∧ Fin tr.flat fn st hin (.tup [res, res2]) hout :=
 ⟨.inr rfl, ⟨[v, v2], [res, res2], by rw [hr]; exact .cell ha (Tr.get_ok hw hi) hh hb hv (.cell ha2 (Tr.get_ok hw hi2) hh2 hb2 hv2 .nil), .cons hc (.cons hc2 .nil), rfl⟩, ho, hok⟩
end
end Go.AM
