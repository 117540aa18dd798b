/-
  Texts Am19, Am20, Am21, Am22 in one.
-/
import Derived.Test.YtojcjjjpniimiaaDoorM3
import Derived.ProofKit
import Derived.SizedLaws
/- WHAT IS NO MORE WRITTEN: a map, or a variable, becomes memory that stays. -/
namespace Go.AM
open Go

/-- What an object becomes. -/
inductive Fz where
  | map (agg : Bool) (ents : List (List C))
  | var (l : List C)

mutual
def R.fz (id : Nat) (z : Fz) : R → R
  | .mr j => match z with
    | .map agg ents => if Nat.beq j id then .c (.mp agg ents) else .mr j
    | .var _ => .mr j
  | .vp j off => match z with
    | .var l => if Nat.beq j id then .c (.pt (l.drop off)) else .vp j off
    | .map _ _ => .vp j off
  | .clo f caps => .clo f (R.fzL id z caps)
  | .mth f x => .mth f (R.fz id z x)
  | r => r
def R.fzL (id : Nat) (z : Fz) : List R → List R
  | [] => []
  | r :: rs => R.fz id z r :: R.fzL id z rs
end
mutual
def V.fz (id : Nat) (z : Fz) : V → V
  | .one r => .one (r.fz id z)
  | .pa l => .pa l
  | .ma l => .ma (R.fzL id z l)
  | .tup l => .tup (V.fzL id z l)
def V.fzL (id : Nat) (z : Fz) : List V → List V
  | [] => []
  | r :: rs => V.fz id z r :: V.fzL id z rs
end
def fzE (id : Nat) (z : Fz) : List (Nat × V) → List (Nat × V)
  | [] => []
  | (t, v) :: l => (t, v.fz id z) :: fzE id z l
def fzR (id : Nat) (z : Fz) : List (List R) → List (List R)
  | [] => []
  | r :: l => R.fzL id z r :: fzR id z l
theorem fzE_mem {id : Nat} {z : Fz} : ∀ {l : List (Nat × V)} {t : Nat} {v : V}, (t, v) ∈ fzE id z l → ∃ v0, (t, v0) ∈ l ∧ v = v0.fz id z
  | (k, u) :: l, t, v, h => by
    simp only [fzE, List.mem_cons] at h
    rcases h with h | h
    · cases h; exact ⟨u, by simp, rfl⟩
    · obtain ⟨v0, h1, h2⟩ := fzE_mem h
      exact ⟨v0, by simp [h1], h2⟩
theorem R.fzL_length {id : Nat} {z : Fz} : ∀ {l : List R}, (R.fzL id z l).length = l.length
  | [] => rfl
  | _ :: l => by simp [R.fzL, R.fzL_length (l := l)]
theorem R.fzL_append {id : Nat} {z : Fz} : ∀ {l m : List R}, R.fzL id z (l ++ m) = R.fzL id z l ++ R.fzL id z m
  | [], _ => rfl
  | _ :: l, m => by simp [R.fzL, R.fzL_append (l := l)]
theorem fzR_length {id : Nat} {z : Fz} : ∀ {l : List (List R)}, (fzR id z l).length = l.length
  | [] => rfl
  | _ :: l => by simp [fzR, fzR_length (l := l)]
theorem fzR_flat {id : Nat} {z : Fz} : ∀ {l : List (List R)}, (fzR id z l).flatten = R.fzL id z l.flatten
  | [] => rfl
  | _ :: l => by simp [fzR, fzR_flat (l := l), R.fzL_append]
theorem fzR_lengths {id : Nat} {z : Fz} {es : Nat} : ∀ {l : List (List R)}, (∀ r ∈ l, r.length = es) → ∀ r ∈ fzR id z l, r.length = es
  | [], _, r, h => by simp [fzR] at h
  | x :: l, k, r, h => by
    simp only [fzR, List.mem_cons] at h
    rcases h with rfl | h
    · rw [R.fzL_length]; exact k _ (by simp)
    · exact fzR_lengths (l := l) (fun r hr => k r (by simp [hr])) r h
def AObj.fz (id : Nat) (z : Fz) : AObj → AObj
  | .var t cells => .var t (R.fzL id z cells)
  | .lp st j i e => .lp st j i (fzE id z e)
  | .rarr te es l => .rarr te es (fzR id z l)
  | o => o
def Fz.of : Fz → AObj → Prop
  | .map agg ents, o => o = .map agg ents
  | .var l, o => ∃ t, o = .var t (l.map R.c)
/-- The objects without that one. -/
def hfz (id : Nat) (z : Fz) (H : Heap) : Heap := fun j => if Nat.beq j id then none else (H j).map (AObj.fz id z)

section
variable {S S' : Sto} {μ : Mu} {H : Heap} {id : Nat} {z : Fz}
theorem hfz_ne {j : Nat} (h : j ≠ id) : hfz id z H j = (H j).map (AObj.fz id z) := by
  have : Nat.beq j id = false := by
    cases hb : Nat.beq j id with
    | false => rfl
    | true => exact absurd (Nat.eq_of_beq_eq_true hb) h
  simp [hfz, this]
theorem hfz_id : hfz id z H id = none := by simp [hfz]
theorem hfz_arr {j te es fz : Nat} {l : List (List C)} {o : AObj} (hid : H id = some o) (hz : z.of o) (h : H j = some (.arr te es l fz)) : hfz id z H j = some (.arr te es l fz) := by
  have hne : j ≠ id := by
    rintro rfl
    rw [h] at hid; cases hid
    cases z with
    | map agg ents => cases hz
    | var l => obtain ⟨t, h⟩ := hz; cases h
  rw [hfz_ne hne, h]; rfl
theorem hfz_dead {j : Nat} {o : AObj} (hid : H id = some o) (hz : z.of o) (h : H j = some .dead) : hfz id z H j = some .dead := by
  have hne : j ≠ id := by
    rintro rfl
    rw [h] at hid; cases hid
    cases z with
    | map agg ents => cases hz
    | var l => obtain ⟨t, h⟩ := hz; cases h
  rw [hfz_ne hne, h]; rfl

/-- What a reference to it reads as. -/
def FzOk (S' : Sto) (μ : Mu) (id : Nat) : Fz → Prop
  | .map agg ents => ∀ b c, μ id = some (b, c) → ∃ es clk, S'.mapo b = some (es, clk) ∧ RepEnts S' agg ents es.toList
  | .var l => ∀ b c, μ id = some (b, c) → ∃ vs, RepL S' l vs ∧ CellsAt S' b 0 vs

mutual
theorem RRel.fz (hle : S.le S') {o : AObj} (hid : H id = some o) (hz : z.of o) (hk : FzOk S' μ id z) : ∀ (r : R) (v : Value), RRel S μ H r v → RRel S' μ (hfz id z H) (r.fz id z) v
  | .c x, v, k => by simp only [RRel, R.fz] at k ⊢; exact Rep.mono hle x v k
  | .hs j off len sz, v, k => by
    simp only [RRel, R.fz] at k ⊢
    obtain ⟨k0, k | ⟨te, es, elems, fz, h1, h2⟩⟩ := k
    · exact ⟨k0, .inl (hfz_dead hid hz k)⟩
    · exact ⟨k0, .inr ⟨te, es, elems, fz, hfz_arr hid hz h1, h2⟩⟩
  | .tl j off len sz, v, k => by
    simp only [RRel, R.fz] at k ⊢
    obtain ⟨k0, k | ⟨te, es, elems, fz, h1, h2⟩⟩ := k
    · exact ⟨k0, .inl (hfz_dead hid hz k)⟩
    · exact ⟨k0, .inr ⟨te, es, elems, fz, hfz_arr hid hz h1, h2⟩⟩
  | .ep j i fo sz, v, k => by
    simp only [RRel, R.fz] at k ⊢
    obtain ⟨k0, k | ⟨te, es, elems, fz, h1, h2⟩⟩ := k
    · exact ⟨k0, .inl (hfz_dead hid hz k)⟩
    · exact ⟨k0, .inr ⟨te, es, elems, fz, hfz_arr hid hz h1, h2⟩⟩
  | .vp j off, v, k => by
    simp only [RRel] at k
    obtain ⟨t, cells, b, c, h1, h2, h3⟩ := k
    cases z with
    | map agg ents =>
      simp only [R.fz, RRel]
      have hne : j ≠ id := by
        rintro rfl
        rw [h1] at hid; cases hid
        cases hz
      exact ⟨t, _, b, c, by rw [hfz_ne hne, h1]; rfl, h2, h3⟩
    | var l =>
      simp only [R.fz]
      by_cases hj : j = id
      · subst hj
        simp only [Nat.beq_refl, if_true, RRel, Rep]
        obtain ⟨vs, g1, g2⟩ := hk b c h2
        refine ⟨b, off, h3, vs.drop off, g1.drop off, fun i u hu => ?_⟩
        rw [List.getElem?_drop] at hu
        have := g2 _ u hu
        rwa [Nat.zero_add] at this
      · have : Nat.beq j id = false := by
          cases hb : Nat.beq j id with
          | false => rfl
          | true => exact absurd (Nat.eq_of_beq_eq_true hb) hj
        simp only [this, Bool.false_eq_true, if_false, RRel]
        exact ⟨t, _, b, c, by rw [hfz_ne hj, h1]; rfl, h2, h3⟩
  | .mr j, v, k => by
    simp only [RRel] at k
    obtain ⟨agg, ents, b, c, h1, h2, h3⟩ := k
    cases z with
    | var l =>
      simp only [R.fz, RRel]
      have hne : j ≠ id := by
        rintro rfl
        rw [h1] at hid; cases hid
        obtain ⟨t, h⟩ := hz; cases h
      exact ⟨agg, ents, b, c, by rw [hfz_ne hne, h1]; rfl, h2, h3⟩
    | map agg' ents' =>
      simp only [R.fz]
      by_cases hj : j = id
      · subst hj
        rw [h1] at hid; cases hid
        cases hz
        simp only [Nat.beq_refl, if_true, RRel, Rep]
        obtain ⟨es, clk, g1, g2⟩ := hk b c h2
        exact ⟨b, es, clk, h3, g1, g2⟩
      · have : Nat.beq j id = false := by
          cases hb : Nat.beq j id with
          | false => rfl
          | true => exact absurd (Nat.eq_of_beq_eq_true hb) hj
        simp only [this, Bool.false_eq_true, if_false, RRel]
        exact ⟨agg, ents, b, c, by rw [hfz_ne hj, h1]; rfl, h2, h3⟩
  | .clo f caps, v, k => by
    simp only [RRel, R.fz] at k ⊢
    obtain ⟨vs, h1, h2⟩ := k
    exact ⟨vs, h1, RRelL.fz hle hid hz hk caps vs h2⟩
  | .mth f recv, v, k => by
    simp only [RRel, R.fz] at k ⊢
    obtain ⟨u, h1, h2⟩ := k
    exact ⟨u, h1, RRel.fz hle hid hz hk recv u h2⟩
  | .rp j i fo sz, v, k => by
    simp only [RRel, R.fz] at k ⊢
    obtain ⟨k0, k | ⟨te, es, elems, h1, h2, h3⟩⟩ := k
    · exact ⟨k0, .inl (hfz_dead hid hz k)⟩
    · have hne : j ≠ id := by
        rintro rfl
        rw [h1] at hid; cases hid
        cases z with
        | map agg ents => cases hz
        | var l => obtain ⟨t, h⟩ := hz; cases h
      exact ⟨k0, .inr ⟨te, es, fzR id z elems, by rw [hfz_ne hne, h1]; rfl, by rw [fzR_length]; exact h2, fun e => h3 (by rw [fzR_length] at e; exact e)⟩⟩
  | .yl j, v, k => by
    simp only [RRel, R.fz] at k ⊢
    obtain ⟨st, jp, i, e, b, c, h1, h2, h3⟩ := k
    have hne : j ≠ id := by
      rintro rfl
      rw [h1] at hid; cases hid
      cases z with
      | map agg ents => cases hz
      | var l => obtain ⟨t, h⟩ := hz; cases h
    exact ⟨st, jp, i, _, b, c, by rw [hfz_ne hne, h1]; rfl, h2, h3⟩
  | .ra j off len sz, v, k => by
    simp only [RRel, R.fz] at k ⊢
    obtain ⟨k0, k | ⟨te, es, elems, h1, h2, h3⟩⟩ := k
    · exact ⟨k0, .inl (hfz_dead hid hz k)⟩
    · have hne : j ≠ id := by
        rintro rfl
        rw [h1] at hid; cases hid
        cases z with
        | map agg ents => cases hz
        | var l => obtain ⟨t, h⟩ := hz; cases h
      refine ⟨k0, .inr ⟨te, es, fzR id z elems, by rw [hfz_ne hne, h1]; rfl, by rw [fzR_length]; exact h2, fun e => ?_⟩⟩
      rw [fzR_length] at e
      obtain ⟨q1, q2⟩ := h3 e
      refine ⟨q1, ?_⟩
      rcases q2 with ⟨q2, q3, q4⟩ | q2
      · exact .inl ⟨q2, by rw [q3]; rfl, q4⟩
      · exact .inr q2
theorem RRelL.fz (hle : S.le S') {o : AObj} (hid : H id = some o) (hz : z.of o) (hk : FzOk S' μ id z) : ∀ (r : List R) (v : List Value), RRelL S μ H r v → RRelL S' μ (hfz id z H) (R.fzL id z r) v
  | [], _, k => by simpa only [RRelL, R.fzL] using k
  | r :: rs, vs, k => by
    simp only [RRelL, R.fzL] at k ⊢
    obtain ⟨v, vs', h1, h2, h3⟩ := k
    exact ⟨v, vs', h1, RRel.fz hle hid hz hk r v h2, RRelL.fz hle hid hz hk rs vs' h3⟩
end
mutual
theorem VRel.fz (hle : S.le S') {o : AObj} (hid : H id = some o) (hz : z.of o) (hk : FzOk S' μ id z) : ∀ (r : V) (v : Value), VRel S μ H r v → VRel S' μ (hfz id z H) (r.fz id z) v
  | .one r, v, k => by simp only [VRel, V.fz] at k ⊢; exact RRel.fz hle hid hz hk r v k
  | .pa l, v, k => by
    simp only [VRel, V.fz] at k ⊢
    obtain ⟨vs, h1, h2⟩ := k
    exact ⟨vs, h1, RepL.mono hle l vs h2⟩
  | .ma l, v, k => by
    simp only [VRel, V.fz] at k ⊢
    obtain ⟨vs, h1, h2⟩ := k
    exact ⟨vs, h1, RRelL.fz hle hid hz hk l vs h2⟩
  | .tup l, v, k => by
    simp only [VRel, V.fz] at k ⊢
    obtain ⟨vs, h1, h2⟩ := k
    exact ⟨vs, h1, VRelL.fz hle hid hz hk l vs h2⟩
theorem VRelL.fz (hle : S.le S') {o : AObj} (hid : H id = some o) (hz : z.of o) (hk : FzOk S' μ id z) : ∀ (r : List V) (v : List Value), VRelL S μ H r v → VRelL S' μ (hfz id z H) (V.fzL id z r) v
  | [], _, k => by simpa only [VRelL, V.fzL] using k
  | r :: rs, vs, k => by
    simp only [VRelL, V.fzL] at k ⊢
    obtain ⟨v, vs', h1, h2, h3⟩ := k
    exact ⟨v, vs', h1, VRel.fz hle hid hz hk r v h2, VRelL.fz hle hid hz hk rs vs' h3⟩
end

theorem AObj.succ_fz {p : Prop} {o o' : AObj} (h : o.succ p o') : o.succ p (o'.fz id z) := by
  cases o <;> cases o' <;> simp only [AObj.succ, AObj.fz, fzR_length] at h ⊢ <;> exact h

theorem ORel.fz {w : World} {j : Nat} {x : AObj} (hle : S.le S') {o : AObj} (hid : H id = some o) (hz : z.of o) (hk : FzOk S' μ id z) (h : ORel S μ H w j x) (hb : ∀ b c, μ j = some (b, c) → (∀ o, S'.cell b o = S.cell b o) ∧ S'.mapo b = S.mapo b) : ORel S' μ (hfz id z H) w j (x.fz id z) := by
  cases x with
  | var t cells =>
    obtain ⟨b, vs, h1, h2, h3, h4⟩ := h
    exact ⟨b, vs, h1, h2, RRelL.fz hle hid hz hk _ _ h3, fun o => by rw [(hb b _ h1).1, h4]⟩
  | arr te es elems fz =>
    obtain ⟨h0, h1 | ⟨b, base, cap, vs, h1, h2, h3, h4, h5, h6, h7, h8, h9⟩⟩ := h
    · exact ⟨h0, .inl h1⟩
    · exact ⟨h0, .inr ⟨b, base, cap, vs, h1, h2, h3, h4, h5, RepL.mono hle _ _ h6, fun e o ho => by rw [(hb b _ h1).1, h7 e o ho], fun o e => by rw [(hb b _ h1).1, h8 o e], fun e => (h9 e).mono hle⟩⟩
  | map agg ents =>
    obtain ⟨b, es, clk, h1, h2, h3, h4⟩ := h
    exact ⟨b, es, clk, h1, h2, MapOk.mono hle h3, by rw [(hb b _ h1).2, h4]⟩
  | dead => exact h
  | lp st jp i e =>
    obtain ⟨b, r, fn, tmps, h1, h2, h3, h4, h5, h6⟩ := h
    refine ⟨b, r, fn, tmps, h1, h2, h3, fun t v ht => ?_, fun o => by rw [(hb b _ h1).1, h5], by rw [(hb b _ h1).2, h6]⟩
    obtain ⟨v0, q1, rfl⟩ := fzE_mem ht
    exact VRel.fz hle hid hz hk _ _ (h4 t v0 q1)
  | dfr =>
    obtain ⟨b, h1, h2, h3, h4⟩ := h
    exact ⟨b, h1, h2, fun o => by rw [(hb b _ h1).1, h3], by rw [(hb b _ h1).2, h4]⟩
  | rarr te es elems =>
    obtain ⟨h0, h1 | ⟨b, base, cap, vs, h1, h2, h3, h4, h5, h6, h7⟩⟩ := h
    · exact ⟨fzR_lengths h0, .inl ⟨h1.1, by rw [h1.2]; rfl⟩⟩
    · refine ⟨fzR_lengths h0, .inr ⟨b, base, cap, vs, h1, h2, h3, by rw [fzR_length]; exact h4, h5, ?_, fun o => by rw [(hb b _ h1).1, h7]⟩⟩
      rw [fzR_flat, fzR_length]
      exact RRelL.fz hle hid hz hk _ _ h6

theorem frz_core {G : Ctx} {n : Nat} {kf : List Nat} {st : St} {a : Act} {w : World} {o : AObj} (hid : st.h id = some o) (hz : z.of o) (hkf : id ∉ kf) (hg : G.keeps kf) (hs : Sim G n S μ st a w) (hle : S.le S') (hh : Holds S' w) (hk : FzOk S' μ id z)
    (hb : ∀ b, (∀ c, μ id ≠ some (b, c)) → (∀ o, S'.cell b o = S.cell b o) ∧ S'.mapo b = S.mapo b) : Sim G n S' μ ⟨fun t => (st.e t).map (V.fz id z), hfz id z st.h, st.d⟩ a w := by
  have hold : ∀ j x, hfz id z st.h j = some x → j ≠ id ∧ ∃ x0, st.h j = some x0 ∧ x = x0.fz id z := by
    intro j x hj
    have hne : j ≠ id := by rintro rfl; rw [hfz_id] at hj; cases hj
    rw [hfz_ne hne] at hj
    cases h : st.h j with
    | none => rw [h] at hj; cases hj
    | some x0 =>
      rw [h] at hj
      cases hj
      exact ⟨hne, x0, rfl, rfl⟩
  have hoth : ∀ j x0, st.h j = some x0 → j ≠ id → ∀ b c, μ j = some (b, c) → ∀ c', μ id ≠ some (b, c') := by
    intro j x0 hj hne b c hm c' hm'
    exact hne (hs.inv.inj j id x0 o b c c' hj hid hm hm')
  refine ⟨⟨hh, fun j x hj => ?_, fun i j x x' b c c' hi hj hm hm' => ?_, fun i x b c hi hm => ?_, hs.inv.frame, Sto.le_trans hs.inv.sle hle, fun b hb1 hF => ?_, ⟨Sto.le_trans hs.inv.evo.le hle, fun j x hj => ?_⟩⟩, hs.size, hs.defers.go fun j _ hj => ⟨rfl, ?_⟩, fun t v e => ?_⟩
  · obtain ⟨hne, x0, h1, rfl⟩ := hold j x hj
    exact (hs.inv.obj j x0 h1).fz hle hid hz hk fun b c hm => hb b (hoth j x0 h1 hne b c hm)
  · obtain ⟨_, y, h1, _⟩ := hold i x hi
    obtain ⟨_, y', h2, _⟩ := hold j x' hj
    exact hs.inv.inj i j y y' b c c' h1 h2 hm hm'
  · obtain ⟨_, y, h1, _⟩ := hold i x hi
    exact hs.inv.own i y b c h1 hm
  · have hno : ∀ c, μ id ≠ some (b, c) := by
      intro c hm
      rcases hs.inv.own id o b c hid hm with h | h
      · omega
      · exact hF h
    obtain ⟨h1, h2⟩ := hb b hno
    obtain ⟨h3, h4⟩ := hs.inv.sto b hb1 hF
    exact ⟨fun o => (h1 o).trans (h3 o), h2.trans h4⟩
  · obtain ⟨o', h1, h2⟩ := hs.inv.evo.obj j x hj
    have hne : j ≠ id := fun e => hkf (e ▸ hg j x hj)
    exact ⟨o'.fz id z, by show hfz id z st.h j = _; rw [hfz_ne hne, h1]; rfl, AObj.succ_fz h2⟩
  · have hne : j ≠ id := by
      rintro rfl
      rw [hj] at hid; cases hid
      cases z with
      | map agg ents => cases hz
      | var l => obtain ⟨t, h⟩ := hz; cases h
    show hfz id z st.h j = _
    rw [hfz_ne hne, hj]; rfl
  · cases h : st.e t with
    | none => simp [h] at e
    | some v0 =>
      simp only [h, Option.map_some, Option.some.injEq] at e
      subst e
      exact VRel.fz hle hid hz hk v0 _ (hs.env t v0 h)

/-- A map is no more written. -/
theorem Sub.fmap {kf : List Nat} {st : St} {id : Nat} {agg : Bool} {ents : List (List C)} (hid : st.h id = some (.map agg ents)) (hkf : id ∉ kf) (hms : mstr ents) : Sub kf ⟨fun t => (st.e t).map (V.fz id (.map agg ents)), hfz id (.map agg ents) st.h, st.d⟩ st := by
  intro G n S μ a w hg hs
  obtain ⟨b, es, clk, h1, h2, h3, h4⟩ := hs.inv.obj id _ hid
  let S' : Sto := ⟨S.cell, fun b' => if b' = b then some (es, clk) else S.mapo b'⟩
  have hle : S.le S' := ⟨fun _ _ _ e => e, fun b' m e => by
    show (if b' = b then some (es, clk) else S.mapo b') = some m
    by_cases hb : b' = b
    · subst hb; rw [h4] at e; cases e
    · rw [if_neg hb]; exact e⟩
  refine ⟨S', μ, frz_core hid rfl hkf hg hs hle ⟨hs.inv.holds.1, fun b' es' clk' e => ?_⟩ ?_ fun b' hb => ⟨fun _ => rfl, ?_⟩⟩
  · have e' : (if b' = b then some (es, clk) else S.mapo b') = some (es', clk') := e
    by_cases hb : b' = b
    · subst hb
      rw [if_pos rfl] at e'
      cases e'
      exact h2
    · rw [if_neg hb] at e'
      exact hs.inv.holds.2 b' es' clk' e'
  · intro b' c hm
    rw [h1] at hm; cases hm
    exact ⟨es, clk, if_pos rfl, RepEnts.mono hle _ _ _ (h3.rep hms)⟩
  · have hne : b' ≠ b := fun e => hb (0, 0) (by rw [e]; exact h1)
    exact if_neg hne

/-- A variable is no more written. -/
theorem Sub.fvar {kf : List Nat} {st : St} {id t : Nat} {l : List C} (hid : st.h id = some (.var t (l.map R.c))) (hkf : id ∉ kf) : Sub kf ⟨fun t => (st.e t).map (V.fz id (.var l)), hfz id (.var l) st.h, st.d⟩ st := by
  intro G n S μ a w hg hs
  obtain ⟨b, vs, h1, h2, h3, h4⟩ := hs.inv.obj id _ hid
  have h3' := h3.pure
  let S' : Sto := ⟨fun b' o => if b' = b then vs[o]? else S.cell b' o, S.mapo⟩
  have hle : S.le S' := ⟨fun b' o v e => by
    show (if b' = b then vs[o]? else S.cell b' o) = some v
    by_cases hb : b' = b
    · subst hb; rw [h4] at e; cases e
    · rw [if_neg hb]; exact e, fun _ _ e => e⟩
  refine ⟨S', μ, frz_core hid ⟨t, rfl⟩ hkf hg hs hle ⟨fun b' o v e => ?_, hs.inv.holds.2⟩ ?_ fun b' hb => ⟨fun o => ?_, rfl⟩⟩
  · have e' : (if b' = b then vs[o]? else S.cell b' o) = some v := e
    by_cases hb : b' = b
    · subst hb
      rw [if_pos rfl] at e'
      exact ⟨⟨vs⟩, t, (0, 0), h2, by simpa using e'⟩
    · rw [if_neg hb] at e'
      exact hs.inv.holds.1 b' o v e'
  · intro b' c hm
    rw [h1] at hm; cases hm
    refine ⟨vs, RepL.mono hle _ _ h3', fun i u hu => ?_⟩
    show (if b = b then vs[0 + i]? else S.cell b (0 + i)) = some u
    rw [if_pos rfl, Nat.zero_add]
    exact hu
  · have hne : b' ≠ b := fun e => hb (0, 0) (by rw [e]; exact h1)
    exact if_neg hne
end
end Go.AM

/- LOOPS OVER FUNCTIONS: a call of yield, by what a round does ('RndC'); the loop itself. -/
namespace Go.AM
open Go

theorem WChg.putObj {w : World} {b : Nat} {o o' : Obj} (h : w.heap[b]? = some o') : WChg w (w.putObj b o) b o :=
  ⟨rfl, rfl, rfl, by simp, World.putObj_heap_same (Array.getElem?_eq_some_iff.1 h).1, fun k _ hk => World.putObj_heap_other hk⟩

/-- What a round is handed: its loop's variables, and what was there around it. -/
def argP : List Nat → List V → List (Nat × V)
  | t :: ts, v :: vs => argP ts vs ++ [(t, v)]
  | _, _ => []
/-- WHAT A ROUND DOES: called with such arguments, where such objects lie (the loop's record 'id' among them), yield tells whether to go on, and leaves such objects. -/
def RndC (P : Program) (id : Nat) (args : List V) (hin : List (Nat × AObj)) (go : Bool) (hout : List (Nat × AObj)) : Prop :=
  ∀ ro S μ w l c vals, Inv ⟨w, S, Foot μ (look hin), μ, look hin⟩ S μ (look hin) w → VRelL S μ (look hin) args vals → μ id = some (l, c) →
    ∃ fn tmps asg body, (Instr.yield l ⟨vals⟩).run P w = .ok (.round l fn tmps asg body) w ∧
      RoundIn (Wd ro) 0 P l fn tmps asg body w fun e w' => ∃ S' μ', e = .returned (.bool go) ∧ Inv ⟨w, S, Foot μ (look hin), μ, look hin⟩ S' μ' (look hout) w'

theorem VRelL.length {S : Sto} {μ : Mu} {H : Heap} : ∀ {l : List V} {us : List Value}, VRelL S μ H l us → us.length = l.length
  | [], _, h => by simp only [VRelL] at h; subst h; rfl
  | _ :: l, _, h => by
    simp only [VRelL] at h
    obtain ⟨v, vs', rfl, _, h2⟩ := h
    simp [VRelL.length h2]

/-- The temporaries of a round. -/
theorem zip_tmps {S : Sto} {μ : Mu} {H : Heap} : ∀ {ps : List Nat} {vs : List V} {us : List Value} {e : List (Nat × V)} {tmps : Array Value}, VRelL S μ H vs us → vs.length = ps.length → (∀ t ∈ ps, t < tmps.size) →
    (∀ t v, look e t = some v → VRel S μ H v (tmps.getD t undef)) →
    ((ps.zip us).foldl (fun (tmps : Array Value) (x : Nat × Value) => tmps.setIfInBounds x.1 x.2) tmps).size = tmps.size ∧
    ∀ t v, look (argP ps vs ++ e) t = some v → VRel S μ H v (((ps.zip us).foldl (fun (tmps : Array Value) (x : Nat × Value) => tmps.setIfInBounds x.1 x.2) tmps).getD t undef)
  | [], vs, us, e, tmps, hv, hl, hps, he => by
    cases vs with
    | nil => exact ⟨rfl, he⟩
    | cons _ _ => simp at hl
  | p :: ps, [], us, e, tmps, hv, hl, hps, he => by simp at hl
  | p :: ps, x :: vs, us, e, tmps, hv, hl, hps, he => by
    simp only [VRelL] at hv
    obtain ⟨u, us', rfl, h1, h2⟩ := hv
    have hp := hps p (by simp)
    have key := zip_tmps (ps := ps) (vs := vs) (us := us') (e := (p, x) :: e) (tmps := tmps.setIfInBounds p u) h2 (by simpa using hl) (fun t ht => by rw [Array.size_setIfInBounds]; exact hps t (by simp [ht])) (fun t v ht => by
      rw [getD_set _ _ _ _ hp]
      simp only [look] at ht
      by_cases hb : t = p
      · subst hb
        simp only [Nat.beq_refl, if_true] at ht
        cases ht
        rw [if_pos rfl]; exact h1
      · have : Nat.beq t p = false := by
          cases hq : Nat.beq t p with
          | false => rfl
          | true => exact absurd (Nat.eq_of_beq_eq_true hq) hb
        simp only [this, Bool.false_eq_true, if_false] at ht
        rw [if_neg hb]; exact he t v ht)
    simp only [List.zip_cons_cons, List.foldl_cons]
    refine ⟨by rw [key.1]; simp, fun t v ht => key.2 t v ?_⟩
    simpa [argP, List.append_assoc] using ht

/-- How a round ends: on, or out of the loop by a jump. -/
def jumpOf : Exit → Option (Option Code)
  | .normal => some none
  | .ret => some (some .ret)
  | .exit id => some (some (.exit id))
  | _ => none
def stOf (j : Option Code) : LoopState := if j.isNone then .ready else .done
structure RndEnd (hin hout : List (Nat × AObj)) (j : Option Code) (ex : Exit) (st : St) : Prop where
  jump : jumpOf ex = some j
  out : AllP (fun p => ∃ o, st.h p.1 = some o ∧ Ole (fun i => i) o p.2) hout
  ok : (subset (refsH hout) (keys hout) && distinct (keys hout) && subset (keys hin) (keys hout)) = true

theorem look_cons_ne {α : Type} {k i : Nat} {x : α} {l : List (Nat × α)} (h : i ≠ k) : look ((k, x) :: l) i = look l i := by
  have : Nat.beq i k = false := by
    cases hb : Nat.beq i k with
    | false => rfl
    | true => exact absurd (Nat.eq_of_beq_eq_true hb) h
  simp [look, this]
theorem look_cons_same {α : Type} {k : Nat} {x : α} {l : List (Nat × α)} : look ((k, x) :: l) k = some x := by simp [look]

theorem look_e {S : Sto} {μ : Mu} {H : Heap} {e : List (Nat × V)} {tmps : Array Value} (h : ∀ t v, (t, v) ∈ e → VRel S μ H v (tmps.getD t undef)) : ∀ t v, look e t = some v → VRel S μ H v (tmps.getD t undef) :=
  fun t v ht => h t v (look_mem ht)

theorem evolve_cons {S : Sto} {μ : Mu} {hl : List (Nat × AObj)} {id : Nat} {o : AObj} {p : Nat × Nat × Nat} (h : look hl id = none) : Evolve S μ (look hl) S (upd μ id (some p)) (look ((id, o) :: hl)) :=
  ⟨S.le_refl, fun j x hj => by
    have hne : j ≠ id := by rintro rfl; rw [h] at hj; cases hj
    exact ⟨x, by rw [look_cons_ne hne]; exact hj, x.succ_refl (upd_ne _ _ _ hne)⟩⟩
/-- A loop's record is not the table. -/
theorem TabF.aside {w : World} {F : Nat → Prop} {l : Nat} {o : Obj} {r : Loop} (h : TabF w F) (hl : w.heap[l]? = some (.loop r)) : TabF (w.putObj l o) F :=
  ⟨fun g hg => by
    obtain ⟨h1, t, fr, h2⟩ := h.1 g hg
    have hne : g ≠ l := by rintro rfl; rw [h2] at hl; cases hl
    exact ⟨by simpa using h1, t, fr, by rw [World.putObj_heap_other hne]; exact h2⟩, h.2⟩
/-- What lies aside turns. -/
theorem Inv.aside {G : Ctx} {S : Sto} {μ : Mu} {H : Heap} {w : World} {l : Nat} {o : Obj} {r : Loop} (hlr : G.w0.heap[l]? = some (.loop r)) (h : Inv G S μ H w) (hl : l < G.w0.heap.size) (hF : ¬ G.F l) (hS : (∀ k, S.cell l k = none) ∧ S.mapo l = none) :
    Inv ⟨G.w0.putObj l o, G.S0, G.F, G.μ0, G.h0⟩ S μ H (w.putObj l o) := by
  obtain ⟨h1, h2, h3, h4, h5, h6, h7, h8⟩ := h
  refine ⟨⟨fun b k v e => ?_, fun b es clk e => ?_⟩, fun j x hj => ?_, h3, fun i x b c hi hm => ?_, ?_, h6, fun b hb hF' => ?_, h8⟩
  · obtain ⟨vs, t, fr, k1, k2⟩ := h1.1 b k v e
    have : b ≠ l := by rintro rfl; rw [hS.1] at e; cases e
    exact ⟨vs, t, fr, by rw [World.putObj_heap_other this]; exact k1, k2⟩
  · have : b ≠ l := by rintro rfl; rw [hS.2] at e; cases e
    rw [World.putObj_heap_other this]; exact h1.2 b es clk e
  · refine (h2 j x hj).evolve (Evolve.refl _ _ _) rfl fun b c hm => ⟨World.putObj_heap_other ?_, fun _ => rfl, rfl⟩
    rintro rfl
    rcases h4 j x b c hj hm with h | h
    · omega
    · exact hF h
  · rcases h4 i x b c hi hm with h | h
    · exact .inl (by simpa using h)
    · exact .inr h
  · obtain ⟨f1, f2, f3, f4, f5, f6⟩ := h5
    refine ⟨f1, f2, f3, by simpa using f4, fun k hk hFk => ?_, f6.aside hlr⟩
    simp only [World.putObj_size] at hk
    by_cases hkl : k = l
    · subst hkl
      rw [World.putObj_heap_same hk, World.putObj_heap_same (Nat.lt_of_lt_of_le hk f4)]
    · rw [World.putObj_heap_other hkl, World.putObj_heap_other hkl]; exact f5 k hk hFk
  · simp only [World.putObj_size] at hb
    exact h7 b hb hF'

/-- The objects that are left at a round's end. -/
theorem Inv.keep {G : Ctx} {S : Sto} {μ : Mu} {H : Heap} {w : World} {hout : List (Nat × AObj)} (hs : Inv G S μ H w) (hout' : AllP (fun p => ∃ o, H p.1 = some o ∧ Ole (fun i => i) o p.2) hout)
    (k2 : subset (refsH hout) (keys hout) = true) (k4 : ∀ id o, G.h0 id = some o → id ∈ keys hout) : Inv G S μ (look hout) w := by
  have hgood : ∀ i ∈ keys hout, Good H (look hout) (fun i => i) i := by
    intro i hi
    obtain ⟨o', ho'⟩ := look_some hi
    obtain ⟨o, g1, g2⟩ := hout'.mem _ (look_mem ho')
    exact ⟨o, o', g1, ho', g2⟩
  refine ⟨hs.holds, fun id o ho => ?_, fun i j o o' b c c' hi hj hm hm' => ?_, fun i o b c hi hm => ?_, hs.frame, hs.sle, hs.sto, ⟨hs.evo.le, fun id o ho => ?_⟩⟩
  · obtain ⟨o1, g1, g2⟩ := hout'.mem _ (look_mem ho)
    exact (hs.obj _ _ g1).ren g2 fun i hi => hgood i (subset_spec k2 i (refsH_mem (look_mem ho) i hi))
  · obtain ⟨o1, g1, g2⟩ := hout'.mem _ (look_mem hi)
    obtain ⟨o2, g3, g4⟩ := hout'.mem _ (look_mem hj)
    exact hs.inj _ _ _ _ b c c' g1 g3 hm hm'
  · obtain ⟨o1, g1, g2⟩ := hout'.mem _ (look_mem hi)
    exact hs.own _ _ b c g1 hm
  · obtain ⟨o', g1, g2⟩ := hs.evo.obj id o ho
    obtain ⟨o1, o2, g3, g4, g5⟩ := hgood id (k4 id o ho)
    rw [g1] at g3; cases g3
    exact ⟨o2, g4, AObj.succ_trans g2 g5.succ fun e _ => e⟩

def rndOk (id : Nat) (i : LI) (e : List (Nat × V)) (args : List V) (hin hout : List (Nat × AObj)) : Bool :=
  subset (refsE e) (keys hin) && subset (refsH hin) (keys hin) && subset (V.refsL args) (keys hin) && (hin.all fun p => p.2.live) && !((keys hin).contains id) && !((keys hout).contains id) && Nat.beq args.length i.params.size && (i.params.toList.all fun t => Nat.blt t i.n)
theorem not_key {α : Type} : ∀ {l : List (Nat × α)} {id : Nat}, (!((keys l).contains id)) = true → look l id = none := by
  intro l id h
  refine look_none fun hm => ?_
  simp only [Bool.not_eq_true'] at h
  have : (keys l).contains id = true := by simpa [keys] using hm
  rw [this] at h; cases h

/-- A ROUND, BY ITS CODE. -/
theorem RndC.of {P : Program} {id : Nat} {i : LI} {e : List (Nat × V)} {args : List V} {hin hout : List (Nat × AObj)} {j : Option Code}
    (h : ∀ l, AWp (some l) P i.n (keys hin) i.asg (mk (argP i.params.toList args ++ e) hin) (fun ex st => ex = .normal ∧ AWp (some l) P i.n (keys hin) i.body st (RndEnd hin hout j)))
    (hok : rndOk id i e args hin hout = true) : RndC P id args ((id, .lp .ready none i e) :: hin) j.isNone ((id, .lp (stOf j) j i e) :: hout) := by
  simp only [rndOk, Bool.and_eq_true] at hok
  obtain ⟨⟨⟨⟨⟨⟨⟨o1, o2⟩, o3⟩, o4⟩, o5⟩, o6⟩, o7⟩, o8⟩ := hok
  have hid := not_key o5
  have hid2 := not_key o6
  intro ro S μ w l c vals hI hv hm
  obtain ⟨b, r, fn, tmps, g1, g2, g3, g4, g5, g6⟩ := hI.obj id _ look_cons_same
  rw [hm] at g1; cases g1
  have hlt := lt_of_some g2
  have hlen : vals.length = args.length := VRelL.length hv
  have hsub : ∀ j o, look hin j = some o → look ((id, .lp .ready none i e) :: hin) j = some o ∧ o ≠ .dead := by
    intro j o hj
    have hne : j ≠ id := by rintro rfl; rw [hid] at hj; cases hj
    refine ⟨by rw [look_cons_ne hne]; exact hj, ?_⟩
    have := (List.all_eq_true.1 o4) _ (look_mem hj)
    rintro rfl
    simp [AObj.live] at this
  have hgood : ∀ j ∈ keys hin, Good (look ((id, .lp .ready none i e) :: hin)) (look hin) (fun i => i) j := by
    intro j hj
    obtain ⟨o, ho⟩ := look_some hj
    obtain ⟨q1, q2⟩ := hsub j o ho
    exact ⟨o, o, q1, ho, .refl_id q2⟩
  have hI1 := hI.hand hsub o2
  have hnF : ¬ Foot μ (look hin) l := by
    rintro ⟨j, o, c', q1, q2⟩
    have := hI.inj j id o _ l c' _ (hsub j o q1).1 look_cons_same q2 hm
    subst this
    rw [hid] at q1; cases q1
  have hargs : VRelL S μ (look hin) args vals := by
    have := VRelL.ren (H := look ((id, .lp .ready none i e) :: hin)) (H' := look hin) (σ := fun i => i) args vals (fun j hj => hgood j (subset_spec o3 j hj)) (by rw [V.renL_id]; exact hv)
    exact this
  have he : ∀ t v, (t, v) ∈ e → VRel S μ (look hin) v (tmps.getD t undef) := fun t v ht => by
    have := VRel.ren (H := look ((id, .lp .ready none i e) :: hin)) (H' := look hin) (σ := fun i => i) v _ (fun j hj => hgood j (subset_spec o1 j (refsE_mem ht j hj))) (by rw [V.ren_id]; exact g4 t v ht)
    exact this
  have hps : ∀ t ∈ i.params.toList, t < tmps.size := fun t ht => by
    rw [g3]
    exact Nat.le_of_ble_eq_true ((List.all_eq_true.1 o8) t ht)
  have hpl : args.length = i.params.toList.length := by rw [Nat.eq_of_beq_eq_true o7]; simp
  obtain ⟨z1, z2⟩ := zip_tmps (ps := i.params.toList) hargs hpl hps (look_e he)
  have hround : (Instr.yield l ⟨vals⟩).run P w = .ok (.round l fn ((i.params.toList.zip vals).foldl (fun (tmps : Array Value) (x : Nat × Value) => tmps.setIfInBounds x.1 x.2) tmps) i.asg i.body) w := by
    rw [run_yield g2 (by simp only [List.size_toArray]; rw [hlen]; exact Nat.eq_of_beq_eq_true o7)]
    congr 2
    rw [← Array.foldl_toList, Array.toList_zip]
  refine ⟨fn, _, i.asg, i.body, hround, roundIn_of_wpIn trivial ?_⟩
  have hkeep : Ctx.keeps ⟨w, S, Foot μ (look hin), μ, look hin⟩ (keys hin) := fun id o ho => List.mem_map.2 ⟨_, look_mem ho, rfl⟩
  refine h l ⟨w, S, Foot μ (look hin), μ, look hin⟩ S μ _ w _ ⟨hkeep, ⟨_, g2⟩, hnF⟩ ⟨hI1, by rw [z1, g3], rfl, z2⟩ ?_
  rintro ex st1 S1 μ1 a1 w1 ⟨rfl, hbody⟩ s1
  have hw1 : w1.heap[l]? = some (.loop { state := .ready, pending := none, fn := fn, tmps := tmps, params := i.params, assign := i.asg, body := i.body, defers := r }) := (s1.inv.frame.block l hlt hnF).trans g2
  refine ⟨_, run_beginRound hw1 rfl, ?_⟩
  have hS1 := s1.inv.sto l hlt hnF
  have hI2 := Inv.aside (h := s1.inv) (hlr := g2) (o := .loop { state := .busy, pending := none, fn := fn, tmps := tmps, params := i.params, assign := i.asg, body := i.body, defers := r }) hlt hnF ⟨fun k => by rw [hS1.1]; exact g5 k, by rw [hS1.2]; exact g6⟩
  refine hbody ⟨w.putObj l (.loop { state := .busy, pending := none, fn := fn, tmps := tmps, params := i.params, assign := i.asg, body := i.body, defers := r }), S, Foot μ (look hin), μ, look hin⟩ S1 μ1 a1 _ _ ⟨hkeep, ⟨_, World.putObj_heap_same hlt⟩, hnF⟩ ⟨hI2, s1.size, by have := s1.defers; simpa using this, s1.env⟩ ?_
  rintro ex st3 S3 μ3 a3 w3 ⟨hj, hout', hok3⟩ s3
  simp only [Bool.and_eq_true] at hok3
  obtain ⟨⟨p1, p2⟩, p3⟩ := hok3
  have hw3 : w3.heap[l]? = some (.loop { state := .busy, pending := none, fn := fn, tmps := tmps, params := i.params, assign := i.asg, body := i.body, defers := r }) := (s3.inv.frame.block l (by simpa using hlt) hnF).trans (World.putObj_heap_same hlt)
  have hI3 := s3.inv.keep hout' p1 fun id o ho => subset_spec p3 id (List.mem_map.2 ⟨_, look_mem (show look hin id = some o from ho), rfl⟩)
  have hS3 := hI3.sto l (by simpa using hlt) hnF
  have hS3' : (∀ k, S3.cell l k = none) ∧ S3.mapo l = none := ⟨fun k => by rw [hS3.1]; exact g5 k, by rw [hS3.2]; exact g6⟩
  have hlt3 := lt_of_some hw3
  have hfin : ∃ v w', (Instr.endRound l j).run P w3 = .ok v w' ∧ ∃ S' μ', Ending.returned v = .returned (.bool j.isNone) ∧ Inv ⟨w, S, Foot μ (look ((id, .lp .ready none i e) :: hin)), μ, look ((id, .lp .ready none i e) :: hin)⟩ S' μ' (look ((id, .lp (stOf j) j i e) :: hout)) w' := by
    refine ⟨_, _, run_endRound j hw3, S3, upd μ3 id (some (l, 0, 0)), rfl, ?_⟩
    have hE3 : Evolve S3 μ3 (look hout) S3 (upd μ3 id (some (l, 0, 0))) (look ((id, .lp (stOf j) j i e) :: hout)) := evolve_cons hid2
    have hne : ∀ {k o} , look hout k = some o → ∀ b c, μ3 k = some (b, c) → b ≠ l := by
      rintro k o hk b c hmk rfl
      rcases hI3.own k o b c hk hmk with q | q
      · simp only [World.putObj_size] at q; omega
      · exact hnF q
    have hget : ∀ {k o}, look ((id, .lp (stOf j) j i e) :: hout) k = some o → (k = id ∧ o = .lp (stOf j) j i e) ∨ (k ≠ id ∧ look hout k = some o) := by
      intro k o hk
      by_cases hki : k = id
      · subst hki; rw [look_cons_same] at hk; cases hk; exact .inl ⟨rfl, rfl⟩
      · rw [look_cons_ne hki] at hk; exact .inr ⟨hki, hk⟩
    have hFoot : ∀ {b}, ¬ Foot μ (look ((id, .lp .ready none i e) :: hin)) b → b ≠ l ∧ ¬ Foot μ (look hin) b := by
      intro b hb
      refine ⟨?_, ?_⟩
      · rintro rfl; exact hb ⟨id, _, _, look_cons_same, hm⟩
      · rintro ⟨k, o, c, q1, q2⟩; exact hb ⟨k, o, c, (hsub k o q1).1, q2⟩
    refine ⟨⟨fun b k v hc => ?_, fun b es clk hc => ?_⟩, fun k o hk => ?_, fun a b o o' x c c' ha hb m1 m2 => ?_, fun k o b c hk m1 => ?_, ?_, hI3.sle, fun b hb hF => ?_, ⟨hI3.evo.le, fun k o hk => ?_⟩⟩
    · obtain ⟨vs, t, fr, k1, k2⟩ := hI3.holds.1 b k v hc
      have : b ≠ l := by rintro rfl; rw [hS3'.1] at hc; cases hc
      exact ⟨vs, t, fr, by rw [World.putObj_heap_other this]; exact k1, k2⟩
    · have : b ≠ l := by rintro rfl; rw [hS3'.2] at hc; cases hc
      rw [World.putObj_heap_other this]; exact hI3.holds.2 b es clk hc
    · rcases hget hk with ⟨rfl, rfl⟩ | ⟨q1, q2⟩
      · refine ⟨l, r, fn, tmps, upd_same _ _ _, by rw [World.putObj_heap_same hlt3]; rfl, g3, fun t v ht => ?_, hS3'.1, hS3'.2⟩
        exact VRel.evolve (hI3.evo.trans hE3) _ _ (he t v ht)
      · refine (hI3.obj k o q2).evolve hE3 (upd_ne _ _ _ q1) fun b c m1 => ⟨World.putObj_heap_other (hne q2 b c m1), fun _ => rfl, rfl⟩
    · rcases hget ha with ⟨rfl, rfl⟩ | ⟨q1, q2⟩ <;> rcases hget hb with ⟨rfl, rfl⟩ | ⟨q3, q4⟩
      · rfl
      · rw [upd_same] at m1; cases m1
        rw [upd_ne _ _ _ q3] at m2
        exact absurd rfl (hne q4 _ _ m2)
      · rw [upd_same] at m2; cases m2
        rw [upd_ne _ _ _ q1] at m1
        exact absurd rfl (hne q2 _ _ m1)
      · rw [upd_ne _ _ _ q1] at m1
        rw [upd_ne _ _ _ q3] at m2
        exact hI3.inj a b o o' x c c' q2 q4 m1 m2
    · rcases hget hk with ⟨rfl, rfl⟩ | ⟨q1, q2⟩
      · rw [upd_same] at m1; cases m1
        exact .inr ⟨k, _, _, look_cons_same, hm⟩
      · rw [upd_ne _ _ _ q1] at m1
        rcases hI3.own k o b c q2 m1 with q | ⟨k', o', c', q, q'⟩
        · exact .inl (by simpa using q)
        · exact .inr ⟨k', o', c', (hsub k' o' q).1, q'⟩
    · obtain ⟨f1, f2, f3, f4, f5, f6⟩ := hI3.frame
      refine ⟨f1, f2, f3, by simpa using f4, fun k hk hF => ?_, hI.frame.tab⟩
      obtain ⟨q1, q2⟩ := hFoot hF
      rw [World.putObj_heap_other q1, f5 k (by simpa using hk) q2, World.putObj_heap_other q1]
    · obtain ⟨q1, q2⟩ := hFoot hF
      exact hI3.sto b (by simpa using hb) q2
    · have hk : look ((id, .lp .ready none i e) :: hin) k = some o := hk
      by_cases hki : k = id
      · subst hki
        rw [look_cons_same] at hk; cases hk
        exact ⟨_, look_cons_same, by simp only [AObj.succ]; rw [upd_same, hm]⟩
      · rw [look_cons_ne hki] at hk
        obtain ⟨o', q1, q2⟩ := hI3.evo.obj k o hk
        exact ⟨o', by rw [look_cons_ne hki]; exact q1, by rw [upd_ne _ _ _ hki]; exact q2⟩
  cases ex with
  | normal => cases hj; exact hfin
  | ret => cases hj; exact hfin
  | exit id => cases hj; exact hfin
  | _ => cases hj

section
variable {P : Program} {n : Nat} {o : Oper} {st : St} {d : Nat}
/-- A call of yield. -/
theorem r_yield {id : Nat} {x : Operand} {xs : Array Operand} {ts : Array TypeId} {ids : List Nat} {args : List V} {go : Bool} (hin hout : List (Nat × AObj)) (ho : o.op = .call { callee := .value x, args := xs, argTypes := ts }) (hd : o.dst = some d) (hdn : d < n)
    (hx : opv st x = some (.one (.yl id))) (hf : RndC P id args hin go hout) (ha : ArgsV st ids xs.toList args) (hin' : AllP (fun p => st.h p.1 = some p.2) hin) (hout' : AllP (fun p => p.1 ∈ keys hin ∨ st.h p.1 = none) hout) (hok : callOk (.one (.yl id) :: args) hin = true) :
    Step P n o st ⟨opr x ++ operandsR xs.toList, ids ++ keys hin ++ keys hout⟩ ⟨some (d, some (B go)), outs hout⟩ := by
  intro st' hag G S μ a w K Q hs hk
  have hv := ha.rel hs (fun t ht => hag.1 t (by simp [ht])) fun i h => hag.2 i (by simp [h])
  have hvx := opv_rel hs hx fun t ht => hag.1 t (by simp [ht])
  simp only [callOk, Bool.and_eq_true] at hok
  obtain ⟨⟨k1, k2⟩, k3⟩ := hok
  have hh : ∀ id o, look hin id = some o → st'.h id = some o ∧ o ≠ .dead := by
    intro id o ho
    have hm := look_mem ho
    have h1 := hin'.mem _ hm
    refine ⟨by rw [hag.2 id (by simp only [List.mem_append]; exact .inl (.inr (List.mem_map.2 ⟨_, hm, rfl⟩)))]; exact h1, ?_⟩
    have := (List.all_eq_true.1 k3) _ hm
    rintro rfl
    simp [AObj.live] at this
  have hnew : ∀ id o, look hout id = some o → (∃ o', look hin id = some o') ∨ st'.h id = none := by
    intro id o ho
    have hm := look_mem ho
    rcases hout'.mem _ hm with h1 | h1
    · exact .inl (look_some h1)
    · exact .inr (by rw [hag.2 id (by simp only [List.mem_append]; exact .inr (List.mem_map.2 ⟨_, hm, rfl⟩))]; exact h1)
  have hI := hs.inv.hand hh k2
  have hgood : ∀ i ∈ keys hin, Good st'.h (look hin) (fun i => i) i := by
    intro i hi
    obtain ⟨o, ho⟩ := look_some hi
    obtain ⟨h1, h2⟩ := hh i o ho
    exact ⟨o, o, h1, ho, .refl_id h2⟩
  have hv' : VRelL S μ (look hin) (.one (.yl id) :: args) (a.eval x :: xs.toList.map a.eval) := by
    have := VRelL.ren (H := st'.h) (H' := look hin) (σ := fun i => i) (.one (.yl id) :: args) (a.eval x :: xs.toList.map a.eval) (fun i hi => hgood i (subset_spec k1 i hi)) (by rw [V.renL_id]; simp only [VRelL]; exact ⟨_, _, rfl, hvx, hv⟩)
    exact this
  simp only [VRelL] at hv'
  obtain ⟨_, _, he, hy, hv'⟩ := hv'
  cases he
  simp only [VRel, RRel] at hy
  obtain ⟨_, _, _, _, l, c, q1, q2, q3⟩ := hy
  intro ro
  obtain ⟨fn, tmps, asg, body, hr1, hr2⟩ := hf ro S μ w l c _ hI hv' q2
  have hr : (execOp a.eval o).run P w = .ok (.round l fn tmps asg body) w := by
    simp only [execOp, ho, resolve, q3, Deferred.ofValue, Sem.run_bind, Sem.run_pure, Result.andThen_ok, invoke]
    rw [← hr1]
    congr 2
    apply Array.ext'
    simp
  refine ⟨fun _ _ => trivial, ?_⟩
  rw [semAt_of_ok hr (by simp), Oper.uponIn_round]
  refine ⟨fun h => by simp [Wd] at h, hr2.mono ?_⟩
  rintro e w' ⟨S', μ', rfl, hI'⟩
  obtain ⟨μ2, p1, p2, p3, p4⟩ := hs.inv.back (fun id o ho => (hh id o ho).1) hnew hI'
  show K (a.put o.dst _) w'
  rw [hd]
  refine hk S' μ2 _ _ ?_
  exact hs.put p2 p3 hdn (x := some (B go)) fun z hz => by cases hz; simp [VRel, RRel, Rep]

/-! ### The loop -/
/-- Where one goes on behind the loop. -/
def jumpPost (Q : Exit → St → Prop) (st : St) : Option Code → Prop
  | none => Q .normal st
  | some .ret => Q .ret st
  | some (.exit id) => Q (.exit id) st
  | _ => False

theorem run_enterLoop_inner {fn : FuncId} {tmps : Array Value} {ps : Array Tmp} {asg body : Code} {w : World} {l0 : Nat} {r : Loop} (h : w.heap[l0]? = some (.loop r)) :
    (Instr.enterLoop fn tmps ps asg body (some l0)).run P w = .ok (w.heap.size, []) (w.alloc (.loop { state := .ready, pending := none, fn, tmps, params := ps, assign := asg, body, defers := r.defers })) := by
  unfold Instr.enterLoop
  simp only [Sem.run_bind, run_getLoop h, run_newObj_alloc, Result.andThen, Sem.run_pure]

theorem capsRel {S : Sto} {μ : Mu} {H : Heap} : ∀ {caps : List R} {vs : List Value}, RRelL S μ H caps vs → VRelL S μ H (caps.map V.one) vs
  | [], _, h => by simp only [RRelL] at h; subst h; simp [VRelL]
  | c :: caps, _, h => by
    simp only [RRelL] at h
    obtain ⟨v, vs', rfl, q1, q2⟩ := h
    simp only [List.map_cons, VRelL]
    exact ⟨v, vs', rfl, by simpa [VRel] using q1, capsRel q2⟩
/-- The loop's record is laid; the function is called; the record is put aside. -/
theorem range_core {G : Ctx} {S : Sto} {μ : Mu} {a : Act} {w : World} {g : Operand} {ps : Array Tmp} {asg body : Code} {f : FuncId} {caps : List R} {e : List (Nat × V)} {idl : Nat} {hin hout : List (Nat × AObj)} {st' : LoopState} {j : Option Code} {i' : LI} {e' : List (Nat × V)} {fn : FuncId} {r : Nat}
    (hb : bodied P f) (hg : opv st g = some (.one (.clo f caps))) (he : AllP (fun p => st.e p.1 = some p.2) e) (hin' : AllP (fun p => st.h p.1 = some p.2) hin) (hout' : AllP (fun p => p.1 ∈ keys hin ∨ st.h p.1 = none) hout) (hidl : st.h idl = none)
    (hf : ImpC P f (.one (.yl idl) :: caps.map V.one) ((idl, .lp .ready none ⟨n, ps, asg, body⟩ e) :: hin) (.tup []) ((idl, .lp st' j i' e') :: hout))
    (hok : callOk (.one (.yl idl) :: caps.map V.one) ((idl, .lp .ready none ⟨n, ps, asg, body⟩ e) :: hin) = true) (hst : st' ≠ .busy)
    (hs : Sim G n S μ st a w) {Q : World → Prop} (hQ : ∀ S' μ' w', Sim G n S' μ' ⟨st.e, updL st.h (outs ((idl, .lp .exhausted j i' e') :: hout)), st.d⟩ a w' → Q w') :
    ∃ d w2 args, (resolve a.eval (rangeCall g w.heap.size) 0).run P (w.alloc (.loop { state := .ready, pending := none, fn, tmps := a.tmps, params := ps, assign := asg, body, defers := r })) = .ok d w2 ∧ (invoke d.target d.args).run P w2 = .ok (.enter f args) w2 ∧
      Calls P f args w2 fun ending w3 => ∃ v, ending = .returned v ∧ ∃ w4, (Instr.endLoop w.heap.size).run P w3 = .ok j w4 ∧ Q w4 := by
  have hW := WChg.alloc w (.loop { state := .ready, pending := none, fn, tmps := a.tmps, params := ps, assign := asg, body, defers := r })
  have hE := evolve_new (S := S) (μ := μ) hidl (some (w.heap.size, (0, 0))) (some (.lp .ready none ⟨n, ps, asg, body⟩ e))
  have hnoS : (∀ k, S.cell w.heap.size k = none) ∧ S.mapo w.heap.size = none := by
    refine ⟨fun k => ?_, ?_⟩
    · cases hc : S.cell w.heap.size k with
      | none => rfl
      | some v => obtain ⟨vs, t, fr, h1, _⟩ := hs.inv.holds.1 _ _ _ hc; exact absurd (lt_of_some h1) (Nat.lt_irrefl _)
    · cases hc : S.mapo w.heap.size with
      | none => rfl
      | some v => have h1 := hs.inv.holds.2 _ _ _ hc; exact absurd (lt_of_some h1) (Nat.lt_irrefl _)
  have hI1 := hs.inv.chg (id := idl) (cap := (0, 0)) (ao := .lp .ready none ⟨n, ps, asg, body⟩ e) hW (.inl (Nat.le_refl _)) hE
    ⟨w.heap.size, r, fn, a.tmps, upd_same _ _ _, hW.new, hs.size, fun t v ht => VRel.evolve hE _ _ (hs.env t v (he.mem _ ht)), hnoS⟩
    (fun k v hc => by rw [hnoS.1] at hc; cases hc) (fun m hc => Nat.le_refl _)
  have hs1 : Sim G n S (upd μ idl (some (w.heap.size, (0, 0)))) ⟨st.e, upd st.h idl (some (.lp .ready none ⟨n, ps, asg, body⟩ e)), st.d⟩ a (w.alloc (.loop { state := .ready, pending := none, fn, tmps := a.tmps, params := ps, assign := asg, body, defers := r })) :=
    ⟨hI1, hs.size, hs.defers.evolve hE, fun t v ht => VRel.evolve hE _ _ (hs.env t v ht)⟩
  generalize w.alloc (.loop { state := .ready, pending := none, fn, tmps := a.tmps, params := ps, assign := asg, body, defers := r }) = w1 at hs1 hW
  have hvx := VRel.evolve hE _ _ (opv_rel hs hg fun _ _ => rfl)
  simp only [VRel, RRel] at hvx
  obtain ⟨vs, hgv, hcaps⟩ := hvx
  simp only [callOk, Bool.and_eq_true] at hok
  obtain ⟨⟨k1, k2⟩, k3⟩ := hok
  have hne : ∀ {j o}, st.h j = some o → j ≠ idl := by rintro j o hj rfl; rw [hidl] at hj; cases hj
  have hh : ∀ id o, look ((idl, .lp .ready none ⟨n, ps, asg, body⟩ e) :: hin) id = some o → upd st.h idl (some (.lp .ready none ⟨n, ps, asg, body⟩ e)) id = some o ∧ o ≠ .dead := by
    intro id o ho
    have hm := look_mem ho
    refine ⟨?_, ?_⟩
    · by_cases hid : id = idl
      · subst hid
        rw [look_cons_same] at ho; rw [upd_same]; exact ho
      · rw [look_cons_ne hid] at ho
        rw [upd_ne _ _ _ hid]
        exact hin'.mem _ (look_mem ho)
    · have := (List.all_eq_true.1 k3) _ hm
      rintro rfl
      simp [AObj.live] at this
  have hnew : ∀ id o, look ((idl, .lp st' j i' e') :: hout) id = some o → (∃ o', look ((idl, .lp .ready none ⟨n, ps, asg, body⟩ e) :: hin) id = some o') ∨ upd st.h idl (some (.lp .ready none ⟨n, ps, asg, body⟩ e)) id = none := by
    intro id o ho
    by_cases hid : id = idl
    · subst hid; exact .inl ⟨_, look_cons_same⟩
    · rw [look_cons_ne hid] at ho
      rcases hout'.mem _ (look_mem ho) with h1 | h1
      · obtain ⟨o', h2⟩ := look_some h1
        exact .inl ⟨o', by rw [look_cons_ne hid]; exact h2⟩
      · exact .inr (by rw [upd_ne _ _ _ hid]; exact h1)
  have hI := hs1.inv.hand hh k2
  have hgood : ∀ i ∈ keys ((idl, .lp .ready none ⟨n, ps, asg, body⟩ e) :: hin), Good (upd st.h idl (some (.lp .ready none ⟨n, ps, asg, body⟩ e))) (look ((idl, .lp .ready none ⟨n, ps, asg, body⟩ e) :: hin)) (fun i => i) i := by
    intro i hi
    obtain ⟨o, ho⟩ := look_some hi
    obtain ⟨h1, h2⟩ := hh i o ho
    exact ⟨o, o, h1, ho, .refl_id h2⟩
  have hcv : VRelL S (upd μ idl (some (w.heap.size, (0, 0)))) (upd st.h idl (some (.lp .ready none ⟨n, ps, asg, body⟩ e))) (.one (.yl idl) :: caps.map V.one) (.func (.yield w.heap.size) #[] #[] :: vs) := by
    simp only [VRelL]
    refine ⟨_, _, rfl, ?_, ?_⟩
    · simp only [VRel, RRel]
      exact ⟨_, _, _, _, w.heap.size, _, upd_same _ _ _, upd_same _ _ _, rfl⟩
    · exact capsRel hcaps
  have hcv' : VRelL S (upd μ idl (some (w.heap.size, (0, 0)))) (look ((idl, .lp .ready none ⟨n, ps, asg, body⟩ e) :: hin)) (.one (.yl idl) :: caps.map V.one) (.func (.yield w.heap.size) #[] #[] :: vs) := by
    have := VRelL.ren (H := upd st.h idl (some (.lp .ready none ⟨n, ps, asg, body⟩ e))) (H' := look ((idl, .lp .ready none ⟨n, ps, asg, body⟩ e) :: hin)) (σ := fun i => i) _ _ (fun i hi => hgood i (subset_spec k1 i hi)) (by rw [V.renL_id]; exact hcv)
    exact this
  refine ⟨{ target := .fn (.func f) ⟨vs⟩, args := #[.func (.yield w.heap.size) #[] #[]] }, w1, #[.func (.yield w.heap.size) #[] #[]] ++ ⟨vs⟩, ?_, ?_, ?_⟩
  · have hce : a.eval (.const (.func (.yield w.heap.size) #[] #[])) = .func (.yield w.heap.size) #[] #[] := rfl
    simp only [resolve, hgv, Deferred.ofValue, Sem.run_pure, List.map_toArray, List.map_cons, List.map_nil, hce]
    rfl
  · simp only [invoke, run_callFunc hb]
  · have hc := hf S _ w1 _ hI hcv'
    have hlist : (⟨.func (.yield w.heap.size) #[] #[] :: vs⟩ : Array Value) = #[.func (.yield w.heap.size) #[] #[]] ++ ⟨vs⟩ := by
      apply Array.ext'
      simp
    rw [hlist] at hc
    refine hc.mono ?_
    rintro ending w3 ⟨S', μ', v, rfl, hI', hres⟩
    obtain ⟨μ2, p1, p2, p3, p4⟩ := hs1.inv.back (fun id o ho => (hh id o ho).1) hnew hI'
    have hlp : updL (upd st.h idl (some (.lp .ready none ⟨n, ps, asg, body⟩ e))) (outs ((idl, .lp st' j i' e') :: hout)) idl = some (.lp st' j i' e') := by
      rw [updL_outs, look_cons_same]
    have hμ2 : μ2 idl = some (w.heap.size, (0, 0)) := by
      obtain ⟨o', q1, q2⟩ := p3.obj idl _ (upd_same _ _ _)
      rw [hlp] at q1; cases q1
      simp only [AObj.succ] at q2
      rw [q2, upd_same]
    obtain ⟨b, r', fn', tmps', g1, g2, g3, g4, g5, g6⟩ := p2.obj idl _ hlp
    rw [hμ2] at g1; cases g1
    refine ⟨v, rfl, _, run_endLoop g2 hst, ?_⟩
    have hEx : Evolve S' μ2 (updL (upd st.h idl (some (.lp .ready none ⟨n, ps, asg, body⟩ e))) (outs ((idl, .lp st' j i' e') :: hout))) S' (upd μ2 idl (some (w.heap.size, (0, 0)))) (upd (updL (upd st.h idl (some (.lp .ready none ⟨n, ps, asg, body⟩ e))) (outs ((idl, .lp st' j i' e') :: hout))) idl (some (.lp .exhausted j i' e'))) :=
      evolve_turn hlp hμ2 trivial
    have hW4 := WChg.putObj (o := .loop { state := .exhausted, pending := j, fn := fn', tmps := tmps', params := i'.params, assign := i'.asg, body := i'.body, defers := r' }) g2
    have hI4 := p2.chg (id := idl) (cap := (0, 0)) (ao := .lp .exhausted j i' e') hW4 (.inr ⟨_, _, hlp, hμ2⟩) hEx
      ⟨w.heap.size, r', fn', tmps', upd_same _ _ _, hW4.new, g3, fun t v ht => VRel.evolve hEx _ _ (g4 t v ht), g5, g6⟩ (fun k v hc => by rw [g5] at hc; cases hc) (fun m hc => by rw [g6] at hc; cases hc)
    have hheap : upd (updL (upd st.h idl (some (.lp .ready none ⟨n, ps, asg, body⟩ e))) (outs ((idl, .lp st' j i' e') :: hout))) idl (some (.lp .exhausted j i' e')) = updL st.h (outs ((idl, .lp .exhausted j i' e') :: hout)) := by
      funext k
      by_cases hk : k = idl
      · subst hk; rw [upd_same, updL_outs, look_cons_same]
      · rw [upd_ne _ _ _ hk, updL_outs, updL_outs, look_cons_ne hk, look_cons_ne hk, upd_ne _ _ _ hk]
    refine hQ S' (upd μ2 idl (some (w.heap.size, (0, 0)))) _ ?_
    have hEall := (p3.trans hEx)
    exact ⟨by rw [← hheap]; exact hI4, hs1.size, by
      show Marks _ _ (updL st.h (outs ((idl, .lp .exhausted j i' e') :: hout))) st.d a.defers
      rw [← hheap]; exact hs1.defers.evolve hEall, fun t v ht => by
      show VRel S' _ (updL st.h (outs ((idl, .lp .exhausted j i' e') :: hout))) v _
      rw [← hheap]; exact VRel.evolve hEall _ _ (hs1.env t v ht)⟩

theorem Marks.mem {lo : Nat} {μ : Mu} {H : Heap} : ∀ {ids : List Nat} {ds : List Deferred}, Marks lo μ H ids ds → ∀ id ∈ ids, H id = some .dfr
  | [], _, _, id, h => by simp at h
  | i :: ids, _, ⟨b, c, ds', h1, h2, h3, h4, h5, h6⟩, id, h => by
    rcases List.mem_cons.1 h with rfl | h
    · exact h3
    · exact Marks.mem h6 id h
/-- What comes of a pending jump. -/
def jumpW (F : Fence) (m : Nat) (P : Program) (Q' : Exit → Act → World → Prop) (a : Act) (w : World) : Option Code → Prop
  | none => Q' .normal a w
  | some c => c.wpIn F m P Q' a w
theorem opv_e {st st' : St} (h : st'.e = st.e) (x : Operand) : opv st' x = opv st x := by cases x <;> simp [opv, h]
theorem jump_wp {F : Fence} {m : Nat} {kf : List Nat} {Q : Exit → St → Prop} {Q' : Exit → Act → World → Prop} {st1 st2 : St} {G : Ctx} {S : Sto} {μ : Mu} {a : Act} {w : World} {j : Option Code} (hg : G.keeps kf) (hs : Sim G n S μ st1 a w) (hsub : Sub kf st2 st1) (hQ : jumpPost Q st2 j)
    (hk : ∀ ex st' S' μ' a' w', Q ex st' → Sim G n S' μ' st' a' w' → Q' ex a' w') : jumpW F m P Q' a w j := by
  obtain ⟨S', μ', h⟩ := hsub G n S μ a w hg hs
  match j, hQ with
  | none, hQ => exact hk _ _ _ _ _ _ hQ h
  | some .ret, hQ => exact wpIn_ret (hk _ _ _ _ _ _ hQ h)
  | some (.exit id), hQ => exact wpIn_exit (hk _ _ _ _ _ _ hQ h)

/-- A LOOP OVER A FUNCTION, in a function's own frame. -/
theorem awp_range {kf : List Nat} {Q : Exit → St → Prop} {g : Operand} {ps : Array Tmp} {asg body : Code} {f : FuncId} {caps : List R} {hin hout : List (Nat × AObj)} {st' : LoopState} {j : Option Code} {i' : LI} {e' : List (Nat × V)} (idl idd : Nat) (e : List (Nat × V)) (st2 : St)
    (hb : bodied P f) (hg : opv st g = some (.one (.clo f caps))) (he : AllP (fun p => st.e p.1 = some p.2) e) (hin' : AllP (fun p => st.h p.1 = some p.2) hin) (hout' : AllP (fun p => p.1 ∈ keys hin ∨ st.h p.1 = none) hout) (hidl : st.h idl = none) (hidd : st.h idd = none)
    (hf : ImpC P f (.one (.yl idl) :: caps.map V.one) ((idl, .lp .ready none ⟨n, ps, asg, body⟩ e) :: hin) (.tup []) ((idl, .lp st' j i' e') :: hout))
    (hok : (callOk (.one (.yl idl) :: caps.map V.one) ((idl, .lp .ready none ⟨n, ps, asg, body⟩ e) :: hin) && (!Nat.beq idd idl && !((keys hout).contains idd))) = true) (hst : st' ≠ .busy)
    (hsub : Sub kf st2 ⟨st.e, updL (upd st.h idd (some .dfr)) (outs ((idl, .lp .exhausted j i' e') :: hout)), idd :: st.d⟩) (hQ : jumpPost Q st2 j) : AWp none P n kf (.rangeFunc g ps asg body) st Q := by
  intro G S μ a w Q' hgk hs hk
  rw [Bool.and_eq_true, Bool.and_eq_true] at hok
  obtain ⟨hok, hne, hno⟩ := hok
  have hno := not_key hno
  have hne' : idd ≠ idl := by
    intro h
    subst h
    simp at hne
  refine wpIn_rangeFunc fun fn _ => ?_
  have hW := WChg.alloc w (.deferred (some []))
  have hE := evolve_new (S := S) (μ := μ) hidd (some (w.heap.size, (0, 0))) (some .dfr)
  have hnoS : (∀ k, S.cell w.heap.size k = none) ∧ S.mapo w.heap.size = none := by
    refine ⟨fun k => ?_, ?_⟩
    · cases hc : S.cell w.heap.size k with
      | none => rfl
      | some v => obtain ⟨vs, t, fr, h1, _⟩ := hs.inv.holds.1 _ _ _ hc; exact absurd (lt_of_some h1) (Nat.lt_irrefl _)
    · cases hc : S.mapo w.heap.size with
      | none => rfl
      | some v => have h1 := hs.inv.holds.2 _ _ _ hc; exact absurd (lt_of_some h1) (Nat.lt_irrefl _)
  have hI1 := hs.inv.chg (id := idd) (cap := (0, 0)) (ao := .dfr) hW (.inl (Nat.le_refl _)) hE ⟨w.heap.size, upd_same _ _ _, hW.new, hnoS⟩
    (fun k v hc => by rw [hnoS.1] at hc; cases hc) (fun m hc => Nat.le_refl _)
  have hmk : Marks G.w0.heap.size (upd μ idd (some (w.heap.size, (0, 0)))) (upd st.h idd (some .dfr)) (idd :: st.d) ({ target := .collected w.heap.size, args := #[] } :: a.defers) :=
    ⟨w.heap.size, _, _, rfl, upd_same _ _ _, upd_same _ _ _, hs.inv.frame.size, (fun h => by have := hs.defers.mem idd h; rw [hidd] at this; cases this), hs.defers.evolve hE⟩
  have hsA : Sim G n S (upd μ idd (some (w.heap.size, (0, 0)))) ⟨st.e, upd st.h idd (some .dfr), idd :: st.d⟩ { a with defers := [{ target := .collected w.heap.size, args := #[] }] ++ a.defers } (w.alloc (.deferred (some []))) :=
    ⟨hI1, hs.size, hmk, fun t v ht => VRel.evolve hE _ _ (hs.env t v ht)⟩
  have hnd : ∀ {j o}, st.h j = some o → j ≠ idd := by rintro j o hj rfl; rw [hidd] at hj; cases hj
  have hinA : AllP (fun p => upd st.h idd (some .dfr) p.1 = some p.2) hin := by
    have : ∀ l : List (Nat × AObj), AllP (fun p => st.h p.1 = some p.2) l → AllP (fun p => upd st.h idd (some .dfr) p.1 = some p.2) l := by
      intro l
      induction l with
      | nil => intro _; trivial
      | cons p l ih => intro h; exact ⟨(upd_ne _ _ _ (hnd h.1)).trans h.1, ih h.2⟩
    exact this _ hin'
  have houtA : AllP (fun p => p.1 ∈ keys hin ∨ upd st.h idd (some .dfr) p.1 = none) hout := by
    have : ∀ l : List (Nat × AObj), (∀ p ∈ l, p.1 ≠ idd) → AllP (fun p => p.1 ∈ keys hin ∨ st.h p.1 = none) l → AllP (fun p => p.1 ∈ keys hin ∨ upd st.h idd (some .dfr) p.1 = none) l := by
      intro l
      induction l with
      | nil => intro _ _; trivial
      | cons p l ih => intro hl h; exact ⟨h.1.imp id fun h => (upd_ne _ _ _ (hl p (by simp))).trans h, ih (fun q hq => hl q (by simp [hq])) h.2⟩
    refine this _ (fun p hp he => ?_) hout'
    obtain ⟨x, hx⟩ := look_some (List.mem_map.2 ⟨p, hp, rfl⟩ : p.1 ∈ hout.map (·.1))
    rw [he, hno] at hx
    cases hx
  obtain ⟨d, w2, args, q1, q2, q3⟩ := range_core (P := P) (G := G) (st := ⟨st.e, upd st.h idd (some .dfr), idd :: st.d⟩) (fn := fn) (r := w.heap.size) (asg := asg) (body := body) (ps := ps) (Q := fun w4 => jumpW (Wd none) 0 P Q' { a with defers := [{ target := .collected w.heap.size, args := #[] }] ++ a.defers } w4 j)
    hb (by rw [opv_e rfl]; exact hg) he hinA houtA (by show upd st.h idd (some .dfr) idl = none; rw [upd_ne _ _ _ (Ne.symm hne')]; exact hidl) hf hok hst hsA (fun S' μ' w4 hs4 => jump_wp hgk.1 hs4 hsub hQ hk)
  refine ⟨w.heap.size + 1, [{ target := .collected w.heap.size, args := #[] }], _, d, w2, f, args, w2, run_enterLoop_outer _ _ _ _ _, ?_, fun _ _ => trivial, q2, fun h => by simp [Wd] at h, Wd.calls.2 ?_⟩
  · rw [World.size_alloc] at q1
    exact q1
  · refine q3.mono ?_
    rintro ending w3 ⟨v, rfl, w4, h1, h2⟩
    rw [World.size_alloc] at h1
    exact ⟨j, w4, h1, by cases j <;> exact h2⟩

/-- A LOOP OVER A FUNCTION, in a round of another one. -/
theorem awp_rangeR {l0 : Nat} {kf : List Nat} {Q : Exit → St → Prop} {g : Operand} {ps : Array Tmp} {asg body : Code} {f : FuncId} {caps : List R} {hin hout : List (Nat × AObj)} {st' : LoopState} {j : Option Code} {i' : LI} {e' : List (Nat × V)} (idl : Nat) (e : List (Nat × V)) (st2 : St)
    (hb : bodied P f) (hg : opv st g = some (.one (.clo f caps))) (he : AllP (fun p => st.e p.1 = some p.2) e) (hin' : AllP (fun p => st.h p.1 = some p.2) hin) (hout' : AllP (fun p => p.1 ∈ keys hin ∨ st.h p.1 = none) hout) (hidl : st.h idl = none)
    (hf : ImpC P f (.one (.yl idl) :: caps.map V.one) ((idl, .lp .ready none ⟨n, ps, asg, body⟩ e) :: hin) (.tup []) ((idl, .lp st' j i' e') :: hout))
    (hok : callOk (.one (.yl idl) :: caps.map V.one) ((idl, .lp .ready none ⟨n, ps, asg, body⟩ e) :: hin) = true) (hst : st' ≠ .busy)
    (hsub : Sub kf st2 ⟨st.e, updL st.h (outs ((idl, .lp .exhausted j i' e') :: hout)), st.d⟩) (hQ : jumpPost Q st2 j) : AWp (some l0) P n kf (.rangeFunc g ps asg body) st Q := by
  intro G S μ a w Q' hgk hs hk
  refine wpIn_rangeFunc fun fn _ => ?_
  obtain ⟨⟨r, hr⟩, hnF⟩ := hgk.2
  have hw : w.heap[l0]? = some (.loop r) := (hs.inv.frame.block l0 (lt_of_some hr) hnF).trans hr
  obtain ⟨d, w2, args, q1, q2, q3⟩ := range_core (P := P) (G := G) (st := st) (fn := fn) (r := r.defers) (asg := asg) (body := body) (ps := ps) (Q := fun w4 => jumpW (Wd (some l0)) 0 P Q' a w4 j)
    hb hg he hin' hout' hidl hf hok hst hs (fun S' μ' w4 hs4 => jump_wp hgk.1 hs4 hsub hQ hk)
  refine ⟨w.heap.size, [], _, d, w2, f, args, w2, run_enterLoop_inner hw, q1, fun _ _ => trivial, q2, fun h => by simp [Wd] at h, Wd.calls.2 ?_⟩
  refine q3.mono ?_
  rintro ending w3 ⟨v, rfl, w4, h1, h2⟩
  exact ⟨j, w4, h1, by cases j <;> exact h2⟩
end
end Go.AM

/- HEAPS THAT ARE NOT WRITTEN OUT: what goes on over a loop whose objects are a function of the round. -/
namespace Go.AM
open Go

/-- Objects of such numbers, each once, that refer to one another alone. -/
structure Wf (ks : List Nat) (hl : List (Nat × AObj)) : Prop where
  keys : keys hl = ks
  ok : (subset (refsH hl) ks && distinct ks && (hl.all fun p => p.2.live && p.2.plain)) = true
theorem Wf.all {ks : List Nat} {hl : List (Nat × AObj)} (h : Wf ks hl) : AllP (fun p => look hl p.1 = some p.2) hl := by
  have hk := h.ok
  simp only [Bool.and_eq_true] at hk
  have hd := distinct_spec hk.1.2
  rw [← h.keys] at hd
  have key : ∀ l : List (Nat × AObj), (∀ p ∈ l, p ∈ hl) → AllP (fun p => look hl p.1 = some p.2) l := by
    intro l
    induction l with
    | nil => intro _; trivial
    | cons p l ih =>
      intro hp
      refine ⟨?_, ih fun q hq => hp q (by simp [hq])⟩
      have hm := hp p (by simp)
      obtain ⟨x, hx⟩ := look_some (List.mem_map.2 ⟨p, hm, rfl⟩ : p.1 ∈ hl.map (·.1))
      have := nodup_idx (f := fun q : Nat × AObj => q.1) hd _ (look_mem hx) _ hm rfl
      show look hl p.1 = some p.2
      rw [hx, ← this]
  exact key hl fun p hp => hp
theorem Wf.live {ks : List Nat} {hl : List (Nat × AObj)} (h : Wf ks hl) : (hl.all fun p => p.2.live) = true := by
  have hk := h.ok
  simp only [Bool.and_eq_true, List.all_eq_true] at hk ⊢
  exact fun p hp => (hk.2 p hp).1
theorem Wf.plain {ks : List Nat} {hl : List (Nat × AObj)} (h : Wf ks hl) : (hl.all fun p => p.2.plain) = true := by
  have hk := h.ok
  simp only [Bool.and_eq_true, List.all_eq_true] at hk ⊢
  exact fun p hp => (hk.2 p hp).2
theorem Wf.refs {ks : List Nat} {hl : List (Nat × AObj)} (h : Wf ks hl) : subset (refsH hl) (Go.AM.keys hl) = true := by
  have hk := h.ok
  simp only [Bool.and_eq_true] at hk
  rw [h.keys]
  exact hk.1.1
theorem Wf.distinct {ks : List Nat} {hl : List (Nat × AObj)} (h : Wf ks hl) : Go.AM.distinct (Go.AM.keys hl) = true := by
  have hk := h.ok
  simp only [Bool.and_eq_true] at hk
  rw [h.keys]
  exact hk.1.2
theorem subset_refl (l : List Nat) : subset l l = true := by simp [subset]
theorem subset_trans {a b c : List Nat} (h : subset a b = true) (k : subset b c = true) : subset a c = true := by
  simp only [subset, List.all_eq_true] at h k ⊢
  intro x hx
  exact k x (by simpa using h x hx)
/-- The same objects, or those that came of them. -/
theorem Sub.heap {kf ks : List Nat} {st1 : St} {el : List (Nat × V)} {hl : List (Nat × AObj)} (hw : Wf ks hl) (he : AllP (fun p => st1.e p.1 = some p.2) el) (hh : ∀ id o, look hl id = some o → st1.h id = some o)
    (h1 : subset (refsE el) ks = true) (h2 : subset kf ks = true) (h3 : eqL [] st1.d = true) : Sub kf (mk el hl) st1 := by
  refine Sub.list (fun i => i) ?_ ?_ ?_
  · have key : ∀ l : List (Nat × V), AllP (fun p => st1.e p.1 = some p.2) l → AllP (fun p => st1.e p.1 = some (p.2.ren fun i => i)) l := by
      intro l
      induction l with
      | nil => intro _; trivial
      | cons p l ih => intro h; exact ⟨by show st1.e p.1 = some (p.2.ren fun i => i); rw [V.ren_id]; exact h.1, ih h.2⟩
    exact key _ he
  · have key : ∀ l : List (Nat × AObj), (∀ p ∈ l, p.2.live = true) → AllP (fun p => look hl p.1 = some p.2) l → AllP (fun p => ∃ o, st1.h p.1 = some o ∧ Ole (fun i => i) o p.2) l := by
      intro l
      induction l with
      | nil => intro _ _; trivial
      | cons p l ih =>
        intro hv h
        refine ⟨⟨p.2, hh _ _ h.1, .refl_id ?_⟩, ih (fun q hq => hv q (by simp [hq])) h.2⟩
        intro e
        have := hv p (by simp)
        rw [e] at this
        cases this
    exact key _ (fun p hp => (List.all_eq_true.1 hw.live) p hp) hw.all
  · simp only [mkOk, Bool.and_eq_true]
    have hk : List.map (fun p : Nat × AObj => p.1) hl = ks := hw.keys
    refine ⟨⟨⟨⟨⟨?_, ?_⟩, ?_⟩, ?_⟩, ?_⟩, h3⟩
    · rw [hk]; exact h1
    · exact hw.refs
    · exact hw.distinct
    · rw [hk]; exact h2
    · simp
theorem Wf.callOk {ks : List Nat} {hl : List (Nat × AObj)} (h : Wf ks hl) {args : List V} (ha : subset (V.refsL args) ks = true) : callOk args hl = true := by
  simp only [Go.AM.callOk, Bool.and_eq_true]
  exact ⟨⟨by rw [h.keys]; exact ha, h.refs⟩, h.live⟩
theorem AllP.of {α : Type} {p : α → Prop} : ∀ {l : List α}, (∀ x ∈ l, p x) → AllP p l
  | [], _ => trivial
  | x :: l, h => ⟨h x (by simp), AllP.of fun y hy => h y (by simp [hy])⟩
theorem Wf.hout {ks : List Nat} {hl hl' : List (Nat × AObj)} (h : Wf ks hl) (h' : Wf ks hl') {g : Heap} : AllP (fun q : Nat × AObj => q.1 ∈ Go.AM.keys hl ∨ g q.1 = none) hl' :=
  AllP.of fun q hq => .inl (by rw [h.keys, ← h'.keys]; exact List.mem_map.2 ⟨q, hq, rfl⟩)
/-- The end of a body whose objects are not written out. -/
theorem Fin.heap {T : TT} {fn : Func} {st : St} {ks : List Nat} {hin hout : List (Nat × AObj)} {vs vs' : List V} (hw : Wf ks hin) (hw' : Wf ks hout) (hh : ∀ id o, look hout id = some o → st.h id = some o) (hr : ResV T st fn.results.toList vs) (hc : Convs st.h vs vs') (hs : subset (tupV vs').refs ks = true) : Fin T fn st hin (tupV vs') hout := by
  refine ⟨⟨vs, vs', hr, hc, rfl⟩, AllP.of fun p hp => ⟨p.2, hh _ _ (hw'.all.mem p hp), .refl_id ?_⟩, ?_⟩
  · intro e
    have := (List.all_eq_true.1 hw'.live) p hp
    rw [e] at this
    cases this
  · simp only [Bool.and_eq_true]
    exact ⟨⟨⟨⟨⟨by rw [hw'.keys]; exact hs, hw'.refs⟩, hw'.distinct⟩, by rw [hw.keys, hw'.keys]; exact subset_refl _⟩, hw.plain⟩, hw'.plain⟩
end Go.AM

/- FROM A CONTRACT TO A CALL: memory as it lies when a law is called; slices of integers among its arguments. -/
namespace Go.AM
open Go

/-- All memory as it lies. -/
def memS (W : World) : Sto :=
  ⟨fun b o => match W.heap[b]? with | some (.cells vs _ _) => vs[o]? | _ => none, fun b => match W.heap[b]? with | some (.map es clk) => some (es, clk) | _ => none⟩
theorem memS_holds (W : World) : Holds (memS W) W := by
  refine ⟨fun b o v h => ?_, fun b es clk h => ?_⟩
  · simp only [memS] at h
    split at h
    · rename_i vs t fr hq
      exact ⟨vs, t, fr, hq, h⟩
    · cases h
  · simp only [memS] at h
    split at h
    · rename_i hq
      cases h
      exact hq
    · cases h
theorem memS_cell {W : World} {a : Addr} {v : Value} (h : W.cell? a = some v) : (memS W).cell a.block a.off = some v := by
  unfold World.cell? at h
  simp only [memS]
  split at h
  · rename_i hq
    rw [hq]
    split at h
    · cases h
    · exact h
  · cases h
theorem imp_calls {P : Program} {f : FuncId} {args : List V} {vals : List Value} {res : V} (h : ImpC P f args [] res []) (W : World) (hv : VRelL (memS W) (fun _ => none) (look []) args vals) (ht : TabAt W := by first | assumption | (intro g h; cases h)) :
    Calls P f ⟨vals⟩ W fun e W' => ∃ v S μ, e = .returned v ∧ RowKit.Below W.heap.size W W' ∧ VRel S μ (look []) res v := by
  have hI : Inv ⟨W, memS W, Foot (fun _ => none) (look []), fun _ => none, look []⟩ (memS W) (fun _ => none) (look []) W :=
    ⟨memS_holds W, (fun _ _ h => by cases h), (fun _ _ _ _ _ _ _ h => by cases h), (fun _ _ _ _ h => by cases h), FrameW.refl _ _ ⟨ht, fun g _ ⟨_, _, _, h, _⟩ => by cases h⟩, Sto.le_refl _, fun _ _ _ => ⟨fun _ => rfl, rfl⟩, Evolve.refl _ _ _⟩
  refine (h (memS W) (fun _ => none) W vals hI hv).mono ?_
  rintro e W' ⟨S', μ', v, he, hI', hr⟩
  refine ⟨v, S', μ', he, ⟨hI'.frame.os, hI'.frame.tape, hI'.frame.output, hI'.frame.size, fun k hk => hI'.frame.block k hk ?_⟩, hr⟩
  rintro ⟨id, o, c, h1, _⟩
  cases h1
theorem bool_of {S : Sto} {μ : Mu} {H : Heap} {b : Bool} {v : Value} (h : VRel S μ H (B b) v) : v = .bool b := by simpa [VRel, RRel, Rep] using h
def encInts (l : List Int) : List (List C) := l.map fun m => [.int .i64 m]
/-- A slice of integers that was handed in. -/
theorem rep_ints {W : World} {a : Addr} {len cap : Nat} {l : List Int} (hs : cap ≠ 0 → a.spot = none) (hl : l.length = len) (hc : len ≤ cap) (hm : cap ≤ maxLen) (hcell : ∀ i, i < len → W.cell? (a.add i) = some (.int .i64 (l.getD i 0))) :
    Rep (memS W) (.sl 1 (encInts l)) (.slice (some a) len cap) := by
  simp only [Rep]
  refine ⟨some a, len, cap, rfl, by simp [encInts, hl], hc, hm, (by intro h; cases h), (by intro ad h; cases h; exact hs), a.block, a.off, (by intro ad h; cases h; exact ⟨rfl, rfl⟩), ?_⟩
  have key : ∀ (r : List Int) (k : Nat), (∀ i, i < r.length → W.cell? (a.add (k + i)) = some (.int .i64 (r.getD i 0))) → RepRows (memS W) 1 a.block (encInts r) (a.off + k) := by
    intro r
    induction r with
    | nil => intro k _; simp [encInts, RepRows]
    | cons x r ih =>
      intro k hr
      simp only [encInts, List.map_cons, RepRows]
      refine ⟨rfl, ⟨[.int .i64 x], by simp [RepL, Rep], fun i v hi => ?_⟩, ?_⟩
      · have h0 := memS_cell (hr 0 (by simp))
        have hb : (a.add (k + 0)).block = a.block := by unfold Addr.add; split <;> rfl
        have ho : (a.add (k + 0)).off = a.off + k := by
          unfold Addr.add
          split
          · rename_i h; omega
          · rfl
        rw [hb, ho] at h0
        cases i with
        | zero => simp at hi; subst hi; simpa using h0
        | succ i => simp at hi
      · have := ih (k + 1) fun i hi => by
          have := hr (i + 1) (by simp; omega)
          rw [show k + (i + 1) = k + 1 + i by omega] at this
          simpa using this
        rw [Nat.add_assoc]
        exact this
  have := key l 0 fun i hi => by rw [Nat.zero_add]; exact hcell i (by omega)
  simpa using this
theorem rep_ints_nil {W : World} : Rep (memS W) (.sl 1 (encInts [])) (.slice none 0 0) := by
  simp only [Rep]
  exact ⟨none, 0, 0, rfl, rfl, Nat.le_refl _, Nat.zero_le _, (fun _ => ⟨rfl, rfl⟩), (by intro ad h; cases h), 0, 0, (by intro ad h; cases h), by simp [encInts, RepRows]⟩
theorem open_intsC {H : Type} {enc : TypeId × Value → H} {P : Program} {W : World} {t e : TypeId} {v : Value} {d : DataW H} {ps : List MemPlace} {base : Nat} (ht : P.underlying t = some (.slice e)) (he : P.underlying e = some (.int .i64)) (hc : P.cellsOf e = 1)
    (hok : Value.okWide P W .any base t v) (h : DataW.Trod enc P W 0 (fun _ => true) true t v d ps) :
    ∃ l : List Int, Rep (memS W) (.sl 1 (encInts l)) v ∧ (∀ m ∈ l, -9223372036854775808 ≤ m ∧ m ≤ 9223372036854775807) ∧ (∃ x y, (d = .nil ∧ l = []) ∨ (d = .slice x y ∧ x.length = l.length)) := by
  obtain ⟨fuel, hf⟩ := h
  obtain ⟨a0, len0, cap0, rfl⟩ := WideShapes.okWide_slice ht hok
  rcases ChangeShapes.open_ints ht he hc hf with ⟨h1, h2⟩ | ⟨a, len, cap, zs, h1, _, h3, h4, h5, h6, h7, h8⟩
  · have hv : Value.slice a0 len0 cap0 = .slice none 0 0 := by
      simp only [Value.cells] at h1
      simpa using h1
    cases hv
    refine ⟨[], rep_ints_nil, by simp, [], [], .inl ⟨?_, rfl⟩⟩
    have := congrArg Prod.fst h2
    simpa using this
  · have hv : Value.slice a0 len0 cap0 = .slice (some a) len cap := by
      simp only [Value.cells] at h1
      simpa using h1
    cases hv
    have hs : a.spot = none := by
      simp only [Value.okWide, ht, Cell.okWide, Cell.ok] at hok
      exact hok.2.2.2.1
    have hlen : len0 ≤ zs.length := by rw [h5]; split <;> omega
    refine ⟨zs.take len0, rep_ints (fun _ => hs) (by simp; omega) h3 h4 (fun i hi => ?_), fun m hm => ?_, ChangeShapes.lits .i64 (zs.take len0), ChangeShapes.lits .i64 (zs.drop len0), .inr ⟨?_, ?_⟩⟩
    · rw [h7 i (by omega)]
      congr 2
      simp [List.getD_eq_getElem?_getD, hi]
    · have := h8 m (List.mem_of_mem_take hm)
      simp only [Lit.wf, Bool.and_eq_true, decide_eq_true_eq] at this
      exact this
    · have := congrArg Prod.fst h6
      simpa using this
    · simp [ChangeShapes.lits]
end Go.AM
