/-
  WHAT IS NO MORE WRITTEN: a map, or a variable, becomes memory that stays.
-/
import Derived.Test.YthfeeaifddppoaaAm18
namespace Go.AM
open Go

/-- What an object becomes. -/
inductive Fz where
  | map (agg : Bool) (ents : List (List C))
  | var (l : List C)

mutual
def R.fz (id : Nat) (z : Fz) : R → R
  | .mr j => match z with
    | .map agg ents => if Nat.beq j id then .c (.mp agg ents) else .mr j
    | .var _ => .mr j
  | .vp j off => match z with
    | .var l => if Nat.beq j id then .c (.pt (l.drop off)) else .vp j off
    | .map _ _ => .vp j off
  | .clo f caps => .clo f (R.fzL id z caps)
  | r => r
def R.fzL (id : Nat) (z : Fz) : List R → List R
  | [] => []
  | r :: rs => R.fz id z r :: R.fzL id z rs
end
mutual
def V.fz (id : Nat) (z : Fz) : V → V
  | .one r => .one (r.fz id z)
  | .pa l => .pa l
  | .ma l => .ma (R.fzL id z l)
  | .tup l => .tup (V.fzL id z l)
def V.fzL (id : Nat) (z : Fz) : List V → List V
  | [] => []
  | r :: rs => V.fz id z r :: V.fzL id z rs
end
def fzE (id : Nat) (z : Fz) : List (Nat × V) → List (Nat × V)
  | [] => []
  | (t, v) :: l => (t, v.fz id z) :: fzE id z l
def fzR (id : Nat) (z : Fz) : List (List R) → List (List R)
  | [] => []
  | r :: l => R.fzL id z r :: fzR id z l
theorem fzE_mem {id : Nat} {z : Fz} : ∀ {l : List (Nat × V)} {t : Nat} {v : V}, (t, v) ∈ fzE id z l → ∃ v0, (t, v0) ∈ l ∧ v = v0.fz id z
  | (k, u) :: l, t, v, h => by
    simp only [fzE, List.mem_cons] at h
    rcases h with h | h
    · cases h; exact ⟨u, by simp, rfl⟩
    · obtain ⟨v0, h1, h2⟩ := fzE_mem h
      exact ⟨v0, by simp [h1], h2⟩
theorem R.fzL_length {id : Nat} {z : Fz} : ∀ {l : List R}, (R.fzL id z l).length = l.length
  | [] => rfl
  | _ :: l => by simp [R.fzL, R.fzL_length (l := l)]
theorem R.fzL_append {id : Nat} {z : Fz} : ∀ {l m : List R}, R.fzL id z (l ++ m) = R.fzL id z l ++ R.fzL id z m
  | [], _ => rfl
  | _ :: l, m => by simp [R.fzL, R.fzL_append (l := l)]
theorem fzR_length {id : Nat} {z : Fz} : ∀ {l : List (List R)}, (fzR id z l).length = l.length
  | [] => rfl
  | _ :: l => by simp [fzR, fzR_length (l := l)]
theorem fzR_flat {id : Nat} {z : Fz} : ∀ {l : List (List R)}, (fzR id z l).flatten = R.fzL id z l.flatten
  | [] => rfl
  | _ :: l => by simp [fzR, fzR_flat (l := l), R.fzL_append]
theorem fzR_lengths {id : Nat} {z : Fz} {es : Nat} : ∀ {l : List (List R)}, (∀ r ∈ l, r.length = es) → ∀ r ∈ fzR id z l, r.length = es
  | [], _, r, h => by simp [fzR] at h
  | x :: l, k, r, h => by
    simp only [fzR, List.mem_cons] at h
    rcases h with rfl | h
    · rw [R.fzL_length]; exact k _ (by simp)
    · exact fzR_lengths (l := l) (fun r hr => k r (by simp [hr])) r h
def AObj.fz (id : Nat) (z : Fz) : AObj → AObj
  | .var t cells => .var t (R.fzL id z cells)
  | .lp st j i e => .lp st j i (fzE id z e)
  | .rarr te es l => .rarr te es (fzR id z l)
  | o => o
def Fz.of : Fz → AObj → Prop
  | .map agg ents, o => o = .map agg ents
  | .var l, o => ∃ t, o = .var t (l.map R.c)
/-- The objects without that one. -/
def hfz (id : Nat) (z : Fz) (H : Heap) : Heap := fun j => if Nat.beq j id then none else (H j).map (AObj.fz id z)

section
variable {S S' : Sto} {μ : Mu} {H : Heap} {id : Nat} {z : Fz}
theorem hfz_ne {j : Nat} (h : j ≠ id) : hfz id z H j = (H j).map (AObj.fz id z) := by
  have : Nat.beq j id = false := by
    cases hb : Nat.beq j id with
    | false => rfl
    | true => exact absurd (Nat.eq_of_beq_eq_true hb) h
  simp [hfz, this]
theorem hfz_id : hfz id z H id = none := by simp [hfz]
theorem hfz_arr {j te es fz : Nat} {l : List (List C)} {o : AObj} (hid : H id = some o) (hz : z.of o) (h : H j = some (.arr te es l fz)) : hfz id z H j = some (.arr te es l fz) := by
  have hne : j ≠ id := by
    rintro rfl
    rw [h] at hid; cases hid
    cases z with
    | map agg ents => cases hz
    | var l => obtain ⟨t, h⟩ := hz; cases h
  rw [hfz_ne hne, h]; rfl
theorem hfz_dead {j : Nat} {o : AObj} (hid : H id = some o) (hz : z.of o) (h : H j = some .dead) : hfz id z H j = some .dead := by
  have hne : j ≠ id := by
    rintro rfl
    rw [h] at hid; cases hid
    cases z with
    | map agg ents => cases hz
    | var l => obtain ⟨t, h⟩ := hz; cases h
  rw [hfz_ne hne, h]; rfl

/-- What a reference to it reads as. -/
def FzOk (S' : Sto) (μ : Mu) (id : Nat) : Fz → Prop
  | .map agg ents => ∀ b c, μ id = some (b, c) → ∃ es clk, S'.mapo b = some (es, clk) ∧ RepEnts S' agg ents es.toList
  | .var l => ∀ b c, μ id = some (b, c) → ∃ vs, RepL S' l vs ∧ CellsAt S' b 0 vs

mutual
theorem RRel.fz (hle : S.le S') {o : AObj} (hid : H id = some o) (hz : z.of o) (hk : FzOk S' μ id z) : ∀ (r : R) (v : Value), RRel S μ H r v → RRel S' μ (hfz id z H) (r.fz id z) v
  | .c x, v, k => by simp only [RRel, R.fz] at k ⊢; exact Rep.mono hle x v k
  | .hs j off len sz, v, k => by
    simp only [RRel, R.fz] at k ⊢
    obtain ⟨k0, k | ⟨te, es, elems, fz, h1, h2⟩⟩ := k
    · exact ⟨k0, .inl (hfz_dead hid hz k)⟩
    · exact ⟨k0, .inr ⟨te, es, elems, fz, hfz_arr hid hz h1, h2⟩⟩
  | .tl j off len sz, v, k => by
    simp only [RRel, R.fz] at k ⊢
    obtain ⟨k0, k | ⟨te, es, elems, fz, h1, h2⟩⟩ := k
    · exact ⟨k0, .inl (hfz_dead hid hz k)⟩
    · exact ⟨k0, .inr ⟨te, es, elems, fz, hfz_arr hid hz h1, h2⟩⟩
  | .ep j i fo sz, v, k => by
    simp only [RRel, R.fz] at k ⊢
    obtain ⟨k0, k | ⟨te, es, elems, fz, h1, h2⟩⟩ := k
    · exact ⟨k0, .inl (hfz_dead hid hz k)⟩
    · exact ⟨k0, .inr ⟨te, es, elems, fz, hfz_arr hid hz h1, h2⟩⟩
  | .vp j off, v, k => by
    simp only [RRel] at k
    obtain ⟨t, cells, b, c, h1, h2, h3⟩ := k
    cases z with
    | map agg ents =>
      simp only [R.fz, RRel]
      have hne : j ≠ id := by
        rintro rfl
        rw [h1] at hid; cases hid
        cases hz
      exact ⟨t, _, b, c, by rw [hfz_ne hne, h1]; rfl, h2, h3⟩
    | var l =>
      simp only [R.fz]
      by_cases hj : j = id
      · subst hj
        simp only [Nat.beq_refl, if_true, RRel, Rep]
        obtain ⟨vs, g1, g2⟩ := hk b c h2
        refine ⟨b, off, h3, vs.drop off, g1.drop off, fun i u hu => ?_⟩
        rw [List.getElem?_drop] at hu
        have := g2 _ u hu
        rwa [Nat.zero_add] at this
      · have : Nat.beq j id = false := by
          cases hb : Nat.beq j id with
          | false => rfl
          | true => exact absurd (Nat.eq_of_beq_eq_true hb) hj
        simp only [this, Bool.false_eq_true, if_false, RRel]
        exact ⟨t, _, b, c, by rw [hfz_ne hj, h1]; rfl, h2, h3⟩
  | .mr j, v, k => by
    simp only [RRel] at k
    obtain ⟨agg, ents, b, c, h1, h2, h3⟩ := k
    cases z with
    | var l =>
      simp only [R.fz, RRel]
      have hne : j ≠ id := by
        rintro rfl
        rw [h1] at hid; cases hid
        obtain ⟨t, h⟩ := hz; cases h
      exact ⟨agg, ents, b, c, by rw [hfz_ne hne, h1]; rfl, h2, h3⟩
    | map agg' ents' =>
      simp only [R.fz]
      by_cases hj : j = id
      · subst hj
        rw [h1] at hid; cases hid
        cases hz
        simp only [Nat.beq_refl, if_true, RRel, Rep]
        obtain ⟨es, clk, g1, g2⟩ := hk b c h2
        exact ⟨b, es, clk, h3, g1, g2⟩
      · have : Nat.beq j id = false := by
          cases hb : Nat.beq j id with
          | false => rfl
          | true => exact absurd (Nat.eq_of_beq_eq_true hb) hj
        simp only [this, Bool.false_eq_true, if_false, RRel]
        exact ⟨agg, ents, b, c, by rw [hfz_ne hj, h1]; rfl, h2, h3⟩
  | .clo f caps, v, k => by
    simp only [RRel, R.fz] at k ⊢
    obtain ⟨vs, h1, h2⟩ := k
    exact ⟨vs, h1, RRelL.fz hle hid hz hk caps vs h2⟩
  | .mth f recv, v, k => by
    simp only [RRel, R.fz] at k ⊢
    obtain ⟨u, h1, h2⟩ := k
    exact ⟨u, h1, Rep.mono hle recv u h2⟩
  | .yl j, v, k => by
    simp only [RRel, R.fz] at k ⊢
    obtain ⟨st, jp, i, e, b, c, h1, h2, h3⟩ := k
    have hne : j ≠ id := by
      rintro rfl
      rw [h1] at hid; cases hid
      cases z with
      | map agg ents => cases hz
      | var l => obtain ⟨t, h⟩ := hz; cases h
    exact ⟨st, jp, i, _, b, c, by rw [hfz_ne hne, h1]; rfl, h2, h3⟩
  | .ra j off len sz, v, k => by
    simp only [RRel, R.fz] at k ⊢
    obtain ⟨k0, k | ⟨te, es, elems, h1, h2, h3⟩⟩ := k
    · exact ⟨k0, .inl (hfz_dead hid hz k)⟩
    · have hne : j ≠ id := by
        rintro rfl
        rw [h1] at hid; cases hid
        cases z with
        | map agg ents => cases hz
        | var l => obtain ⟨t, h⟩ := hz; cases h
      refine ⟨k0, .inr ⟨te, es, fzR id z elems, by rw [hfz_ne hne, h1]; rfl, by rw [fzR_length]; exact h2, fun e => ?_⟩⟩
      rw [fzR_length] at e
      obtain ⟨q1, q2⟩ := h3 e
      refine ⟨q1, ?_⟩
      rcases q2 with ⟨q2, q3, q4⟩ | q2
      · exact .inl ⟨q2, by rw [q3]; rfl, q4⟩
      · exact .inr q2
theorem RRelL.fz (hle : S.le S') {o : AObj} (hid : H id = some o) (hz : z.of o) (hk : FzOk S' μ id z) : ∀ (r : List R) (v : List Value), RRelL S μ H r v → RRelL S' μ (hfz id z H) (R.fzL id z r) v
  | [], _, k => by simpa only [RRelL, R.fzL] using k
  | r :: rs, vs, k => by
    simp only [RRelL, R.fzL] at k ⊢
    obtain ⟨v, vs', h1, h2, h3⟩ := k
    exact ⟨v, vs', h1, RRel.fz hle hid hz hk r v h2, RRelL.fz hle hid hz hk rs vs' h3⟩
end
mutual
theorem VRel.fz (hle : S.le S') {o : AObj} (hid : H id = some o) (hz : z.of o) (hk : FzOk S' μ id z) : ∀ (r : V) (v : Value), VRel S μ H r v → VRel S' μ (hfz id z H) (r.fz id z) v
  | .one r, v, k => by simp only [VRel, V.fz] at k ⊢; exact RRel.fz hle hid hz hk r v k
  | .pa l, v, k => by
    simp only [VRel, V.fz] at k ⊢
    obtain ⟨vs, h1, h2⟩ := k
    exact ⟨vs, h1, RepL.mono hle l vs h2⟩
  | .ma l, v, k => by
    simp only [VRel, V.fz] at k ⊢
    obtain ⟨vs, h1, h2⟩ := k
    exact ⟨vs, h1, RRelL.fz hle hid hz hk l vs h2⟩
  | .tup l, v, k => by
    simp only [VRel, V.fz] at k ⊢
    obtain ⟨vs, h1, h2⟩ := k
    exact ⟨vs, h1, VRelL.fz hle hid hz hk l vs h2⟩
theorem VRelL.fz (hle : S.le S') {o : AObj} (hid : H id = some o) (hz : z.of o) (hk : FzOk S' μ id z) : ∀ (r : List V) (v : List Value), VRelL S μ H r v → VRelL S' μ (hfz id z H) (V.fzL id z r) v
  | [], _, k => by simpa only [VRelL, V.fzL] using k
  | r :: rs, vs, k => by
    simp only [VRelL, V.fzL] at k ⊢
    obtain ⟨v, vs', h1, h2, h3⟩ := k
    exact ⟨v, vs', h1, VRel.fz hle hid hz hk r v h2, VRelL.fz hle hid hz hk rs vs' h3⟩
end

theorem AObj.succ_fz {p : Prop} {o o' : AObj} (h : o.succ p o') : o.succ p (o'.fz id z) := by
  cases o <;> cases o' <;> simp only [AObj.succ, AObj.fz, fzR_length] at h ⊢ <;> exact h

theorem ORel.fz {w : World} {j : Nat} {x : AObj} (hle : S.le S') {o : AObj} (hid : H id = some o) (hz : z.of o) (hk : FzOk S' μ id z) (h : ORel S μ H w j x) (hb : ∀ b c, μ j = some (b, c) → (∀ o, S'.cell b o = S.cell b o) ∧ S'.mapo b = S.mapo b) : ORel S' μ (hfz id z H) w j (x.fz id z) := by
  cases x with
  | var t cells =>
    obtain ⟨b, vs, h1, h2, h3, h4⟩ := h
    exact ⟨b, vs, h1, h2, RRelL.fz hle hid hz hk _ _ h3, fun o => by rw [(hb b _ h1).1, h4]⟩
  | arr te es elems fz =>
    obtain ⟨h0, h1 | ⟨b, base, cap, vs, h1, h2, h3, h4, h5, h6, h7, h8, h9⟩⟩ := h
    · exact ⟨h0, .inl h1⟩
    · exact ⟨h0, .inr ⟨b, base, cap, vs, h1, h2, h3, h4, h5, RepL.mono hle _ _ h6, fun e o ho => by rw [(hb b _ h1).1, h7 e o ho], fun o e => by rw [(hb b _ h1).1, h8 o e], fun e => (h9 e).mono hle⟩⟩
  | map agg ents =>
    obtain ⟨b, es, clk, h1, h2, h3, h4⟩ := h
    exact ⟨b, es, clk, h1, h2, RepEnts.mono hle _ _ _ h3, by rw [(hb b _ h1).2, h4]⟩
  | dead => exact h
  | lp st jp i e =>
    obtain ⟨b, r, fn, tmps, h1, h2, h3, h4, h5, h6⟩ := h
    refine ⟨b, r, fn, tmps, h1, h2, h3, fun t v ht => ?_, fun o => by rw [(hb b _ h1).1, h5], by rw [(hb b _ h1).2, h6]⟩
    obtain ⟨v0, q1, rfl⟩ := fzE_mem ht
    exact VRel.fz hle hid hz hk _ _ (h4 t v0 q1)
  | dfr =>
    obtain ⟨b, h1, h2, h3, h4⟩ := h
    exact ⟨b, h1, h2, fun o => by rw [(hb b _ h1).1, h3], by rw [(hb b _ h1).2, h4]⟩
  | rarr te es elems =>
    obtain ⟨h0, h1 | ⟨b, base, cap, vs, h1, h2, h3, h4, h5, h6, h7⟩⟩ := h
    · exact ⟨fzR_lengths h0, .inl ⟨h1.1, by rw [h1.2]; rfl⟩⟩
    · refine ⟨fzR_lengths h0, .inr ⟨b, base, cap, vs, h1, h2, h3, by rw [fzR_length]; exact h4, h5, ?_, fun o => by rw [(hb b _ h1).1, h7]⟩⟩
      rw [fzR_flat, fzR_length]
      exact RRelL.fz hle hid hz hk _ _ h6

theorem frz_core {G : Ctx} {n : Nat} {kf : List Nat} {st : St} {a : Act} {w : World} {o : AObj} (hid : st.h id = some o) (hz : z.of o) (hkf : id ∉ kf) (hg : G.keeps kf) (hs : Sim G n S μ st a w) (hle : S.le S') (hh : Holds S' w) (hk : FzOk S' μ id z)
    (hb : ∀ b, (∀ c, μ id ≠ some (b, c)) → (∀ o, S'.cell b o = S.cell b o) ∧ S'.mapo b = S.mapo b) : Sim G n S' μ ⟨fun t => (st.e t).map (V.fz id z), hfz id z st.h, st.d⟩ a w := by
  have hold : ∀ j x, hfz id z st.h j = some x → j ≠ id ∧ ∃ x0, st.h j = some x0 ∧ x = x0.fz id z := by
    intro j x hj
    have hne : j ≠ id := by rintro rfl; rw [hfz_id] at hj; cases hj
    rw [hfz_ne hne] at hj
    cases h : st.h j with
    | none => rw [h] at hj; cases hj
    | some x0 =>
      rw [h] at hj
      cases hj
      exact ⟨hne, x0, rfl, rfl⟩
  have hoth : ∀ j x0, st.h j = some x0 → j ≠ id → ∀ b c, μ j = some (b, c) → ∀ c', μ id ≠ some (b, c') := by
    intro j x0 hj hne b c hm c' hm'
    exact hne (hs.inv.inj j id x0 o b c c' hj hid hm hm')
  refine ⟨⟨hh, fun j x hj => ?_, fun i j x x' b c c' hi hj hm hm' => ?_, fun i x b c hi hm => ?_, hs.inv.frame, Sto.le_trans hs.inv.sle hle, fun b hb1 hF => ?_, ⟨Sto.le_trans hs.inv.evo.le hle, fun j x hj => ?_⟩⟩, hs.size, hs.defers.go fun j _ hj => ⟨rfl, ?_⟩, fun t v e => ?_⟩
  · obtain ⟨hne, x0, h1, rfl⟩ := hold j x hj
    exact (hs.inv.obj j x0 h1).fz hle hid hz hk fun b c hm => hb b (hoth j x0 h1 hne b c hm)
  · obtain ⟨_, y, h1, _⟩ := hold i x hi
    obtain ⟨_, y', h2, _⟩ := hold j x' hj
    exact hs.inv.inj i j y y' b c c' h1 h2 hm hm'
  · obtain ⟨_, y, h1, _⟩ := hold i x hi
    exact hs.inv.own i y b c h1 hm
  · have hno : ∀ c, μ id ≠ some (b, c) := by
      intro c hm
      rcases hs.inv.own id o b c hid hm with h | h
      · omega
      · exact hF h
    obtain ⟨h1, h2⟩ := hb b hno
    obtain ⟨h3, h4⟩ := hs.inv.sto b hb1 hF
    exact ⟨fun o => (h1 o).trans (h3 o), h2.trans h4⟩
  · obtain ⟨o', h1, h2⟩ := hs.inv.evo.obj j x hj
    have hne : j ≠ id := fun e => hkf (e ▸ hg j x hj)
    exact ⟨o'.fz id z, by show hfz id z st.h j = _; rw [hfz_ne hne, h1]; rfl, AObj.succ_fz h2⟩
  · have hne : j ≠ id := by
      rintro rfl
      rw [hj] at hid; cases hid
      cases z with
      | map agg ents => cases hz
      | var l => obtain ⟨t, h⟩ := hz; cases h
    show hfz id z st.h j = _
    rw [hfz_ne hne, hj]; rfl
  · cases h : st.e t with
    | none => simp [h] at e
    | some v0 =>
      simp only [h, Option.map_some, Option.some.injEq] at e
      subst e
      exact VRel.fz hle hid hz hk v0 _ (hs.env t v0 h)

/-- A map is no more written. -/
theorem Sub.fmap {kf : List Nat} {st : St} {id : Nat} {agg : Bool} {ents : List (List C)} (hid : st.h id = some (.map agg ents)) (hkf : id ∉ kf) : Sub kf ⟨fun t => (st.e t).map (V.fz id (.map agg ents)), hfz id (.map agg ents) st.h, st.d⟩ st := by
  intro G n S μ a w hg hs
  obtain ⟨b, es, clk, h1, h2, h3, h4⟩ := hs.inv.obj id _ hid
  let S' : Sto := ⟨S.cell, fun b' => if b' = b then some (es, clk) else S.mapo b'⟩
  have hle : S.le S' := ⟨fun _ _ _ e => e, fun b' m e => by
    show (if b' = b then some (es, clk) else S.mapo b') = some m
    by_cases hb : b' = b
    · subst hb; rw [h4] at e; cases e
    · rw [if_neg hb]; exact e⟩
  refine ⟨S', μ, frz_core hid rfl hkf hg hs hle ⟨hs.inv.holds.1, fun b' es' clk' e => ?_⟩ ?_ fun b' hb => ⟨fun _ => rfl, ?_⟩⟩
  · have e' : (if b' = b then some (es, clk) else S.mapo b') = some (es', clk') := e
    by_cases hb : b' = b
    · subst hb
      rw [if_pos rfl] at e'
      cases e'
      exact h2
    · rw [if_neg hb] at e'
      exact hs.inv.holds.2 b' es' clk' e'
  · intro b' c hm
    rw [h1] at hm; cases hm
    exact ⟨es, clk, if_pos rfl, RepEnts.mono hle _ _ _ h3⟩
  · have hne : b' ≠ b := fun e => hb (0, 0) (by rw [e]; exact h1)
    exact if_neg hne

/-- A variable is no more written. -/
theorem Sub.fvar {kf : List Nat} {st : St} {id t : Nat} {l : List C} (hid : st.h id = some (.var t (l.map R.c))) (hkf : id ∉ kf) : Sub kf ⟨fun t => (st.e t).map (V.fz id (.var l)), hfz id (.var l) st.h, st.d⟩ st := by
  intro G n S μ a w hg hs
  obtain ⟨b, vs, h1, h2, h3, h4⟩ := hs.inv.obj id _ hid
  have h3' := h3.pure
  let S' : Sto := ⟨fun b' o => if b' = b then vs[o]? else S.cell b' o, S.mapo⟩
  have hle : S.le S' := ⟨fun b' o v e => by
    show (if b' = b then vs[o]? else S.cell b' o) = some v
    by_cases hb : b' = b
    · subst hb; rw [h4] at e; cases e
    · rw [if_neg hb]; exact e, fun _ _ e => e⟩
  refine ⟨S', μ, frz_core hid ⟨t, rfl⟩ hkf hg hs hle ⟨fun b' o v e => ?_, hs.inv.holds.2⟩ ?_ fun b' hb => ⟨fun o => ?_, rfl⟩⟩
  · have e' : (if b' = b then vs[o]? else S.cell b' o) = some v := e
    by_cases hb : b' = b
    · subst hb
      rw [if_pos rfl] at e'
      exact ⟨⟨vs⟩, t, (0, 0), h2, by simpa using e'⟩
    · rw [if_neg hb] at e'
      exact hs.inv.holds.1 b' o v e'
  · intro b' c hm
    rw [h1] at hm; cases hm
    refine ⟨vs, RepL.mono hle _ _ h3', fun i u hu => ?_⟩
    show (if b = b then vs[0 + i]? else S.cell b (0 + i)) = some u
    rw [if_pos rfl, Nat.zero_add]
    exact hu
  · have hne : b' ≠ b := fun e => hb (0, 0) (by rw [e]; exact h1)
    exact if_neg hne
end
end Go.AM
