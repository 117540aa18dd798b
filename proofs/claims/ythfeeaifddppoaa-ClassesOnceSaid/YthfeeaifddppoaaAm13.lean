/-
  A FUNCTION's BODY; steps of the proof's own: an array is frozen, a nil slice is an empty array.
-/
import Derived.Test.YthfeeaifddppoaaAm12
namespace Go.AM
open Go

/-! ### Steps of the proof's own -/
/-- An array's cells stay from now on. -/
theorem Sim.freeze {G : Ctx} {n : Nat} {S : Sto} {μ : Mu} {a : Act} {w : World} {st : St} {id te es : Nat} {elems : List (List C)} {fz : Nat} (h : st.h id = some (.arr te es elems fz)) (hs : Sim G n S μ st a w) : ∃ S' μ', Sim G n S' μ' ⟨st.e, upd st.h id (some (.arr te es elems 2)), st.d⟩ a w := by
  have hO := hs.inv.obj id _ h
  have hE0 : ∀ S', S.le S' → Evolve S μ st.h S' μ (upd st.h id (some (.arr te es elems 2))) := fun S' hle => ⟨hle, fun j x hj => by
    by_cases hne : j = id
    · subst hne
      rw [h] at hj; cases hj
      exact ⟨_, upd_same _ _ _, by simp [AObj.succ]⟩
    · exact ⟨x, by rw [upd_ne _ _ _ hne]; exact hj, x.succ_refl rfl⟩⟩
  have hold : ∀ j x, upd st.h id (some (.arr te es elems 2)) j = some x → ∃ x', st.h j = some x' := fun j x hj => by
    by_cases hne : j = id
    · subst hne; exact ⟨_, h⟩
    · rw [upd_ne _ _ _ hne] at hj; exact ⟨_, hj⟩
  obtain ⟨h1, h2, h3, h4, h5, h6, h7, h8⟩ := hs.inv
  obtain ⟨g0, ⟨g1, g2⟩ | ⟨b, base, cap, vs, g1, g2, g3, g4, g5, g6, g7, g8, g9⟩⟩ := hO
  · -- no block yet
    have hE := hE0 S S.le_refl
    refine ⟨S, μ, ⟨h1, fun j x hj => ?_, fun i j x x' b c c' hi hj hm hm' => ?_, fun i x b c hi hm => ?_, h5, h6, h7, h8.trans hE⟩, hs.size, hs.defers.evolve hE, fun t v e => VRel.evolve hE v _ (hs.env t v e)⟩
    · by_cases hne : j = id
      · subst hne
        have hj' : some (AObj.arr te es elems 2) = some x := by rw [← hj]; exact (upd_same _ _ _).symm
        cases hj'
        exact ⟨g0, .inl ⟨g1, g2⟩⟩
      · have hj' : st.h j = some x := by rw [← hj]; exact (upd_ne _ _ _ hne).symm
        exact (h2 j x hj').evolve hE rfl fun _ _ _ => ⟨rfl, fun _ => rfl, rfl⟩
    · obtain ⟨_, hi'⟩ := hold _ _ hi
      obtain ⟨_, hj'⟩ := hold _ _ hj
      exact h3 i j _ _ b c c' hi' hj' hm hm'
    · obtain ⟨_, hi'⟩ := hold _ _ hi
      exact h4 i _ b c hi' hm
  · let S' : Sto := ⟨fun b' o => if b' = b ∧ base ≤ o ∧ o < base + elems.length * es then vs[o]? else S.cell b' o, S.mapo⟩
    have hcell : ∀ o v, S.cell b o = some v → vs[o]? = some v := fun o v e => by
      obtain ⟨vs0, t0, fr0, p1, p2⟩ := h1.1 b o v e
      rw [g2] at p1; cases p1
      simpa using p2
    have hle : S.le S' := ⟨fun b' o v e => by
      show (if b' = b ∧ base ≤ o ∧ o < base + elems.length * es then vs[o]? else S.cell b' o) = some v
      by_cases hc : b' = b ∧ base ≤ o ∧ o < base + elems.length * es
      · rw [if_pos hc]
        obtain ⟨rfl, _⟩ := hc
        exact hcell o v e
      · rw [if_neg hc]; exact e, fun b' m e => e⟩
    have hE := hE0 S' hle
    have hsame : ∀ b' o, b' ≠ b → S'.cell b' o = S.cell b' o := fun b' o hne => if_neg fun hc => hne hc.1
    refine ⟨S', μ, ⟨⟨fun b' o v e => ?_, h1.2⟩, fun j x hj => ?_, fun i j x x' b c c' hi hj hm hm' => ?_, fun i x b c hi hm => ?_, h5, Sto.le_trans h6 hle, fun b' hb hF => ?_, h8.trans hE⟩, hs.size, hs.defers.evolve hE, fun t v e => VRel.evolve hE v _ (hs.env t v e)⟩
    · by_cases hc : b' = b ∧ base ≤ o ∧ o < base + elems.length * es
      · have e' : vs[o]? = some v := by rw [← e]; exact (if_pos hc).symm
        obtain ⟨rfl, _⟩ := hc
        exact ⟨⟨vs⟩, te, (0, 0), g2, by simpa using e'⟩
      · have e' : S.cell b' o = some v := by rw [← e]; exact (if_neg hc).symm
        exact h1.1 b' o v e'
    · by_cases hne : j = id
      · subst hne
        have hj' : some (AObj.arr te es elems 2) = some x := by rw [← hj]; exact (upd_same _ _ _).symm
        cases hj'
        refine ⟨g0, .inr ⟨b, base, cap, vs, g1, g2, g3, g4, g5, RepL.mono hle _ _ g6, (fun e => by cases e), fun o ho => ?_, fun _ i v hi => ?_⟩⟩
        · show (if b = b ∧ base ≤ o ∧ o < base + elems.length * es then vs[o]? else S.cell b o) = none
          rw [if_neg (by omega)]
          exact g8 o ho
        · rw [List.getElem?_take] at hi
          split at hi
          · rw [List.getElem?_drop] at hi
            show (if b = b ∧ base ≤ base + i ∧ base + i < base + elems.length * es then vs[base + i]? else S.cell b (base + i)) = some v
            rw [if_pos ⟨rfl, by omega, by omega⟩]
            exact hi
          · cases hi
      · have hj' : st.h j = some x := by rw [← hj]; exact (upd_ne _ _ _ hne).symm
        refine (h2 j x hj').evolve hE rfl fun b' c' hm => ⟨rfl, fun o => hsame b' o ?_, rfl⟩
        rintro rfl
        exact hne (h3 j id x _ b' c' _ hj' h hm g1)
    · obtain ⟨_, hi'⟩ := hold _ _ hi
      obtain ⟨_, hj'⟩ := hold _ _ hj
      exact h3 i j _ _ b c c' hi' hj' hm hm'
    · obtain ⟨_, hi'⟩ := hold _ _ hi
      exact h4 i _ b c hi' hm
    · have hne : b' ≠ b := by
        rintro rfl
        rcases h4 id _ b' _ h g1 with h9 | h9
        · omega
        · exact hF h9
      exact ⟨fun o => (hsame b' o hne).trans ((h7 b' hb hF).1 o), (h7 b' hb hF).2⟩

theorem Sub.freeze {kf : List Nat} {st : St} {id te es : Nat} {elems : List (List C)} {fz : Nat} (h : st.h id = some (.arr te es elems fz)) : Sub kf ⟨st.e, upd st.h id (some (.arr te es elems 2)), st.d⟩ st :=
  fun _ _ _ _ _ _ _ hs => hs.freeze h
theorem Inv.empty {G : Ctx} {S : Sto} {μ : Mu} {H : Heap} {w : World} {id : Nat} (te es : Nat) (h : Inv G S μ H w) (hid : H id = none) : Inv G S (upd μ id none) (upd H id (some (.arr te es [] 0))) w ∧ Evolve S μ H S (upd μ id none) (upd H id (some (.arr te es [] 0))) := by
  have hE : Evolve S μ H S (upd μ id none) (upd H id (some (.arr te es [] 0))) := evolve_new hid _ _
  refine ⟨⟨h.holds, fun j x hj => ?_, fun i j x x' b c c' hi hj hm hm' => ?_, fun i x b c hi hm => ?_, h.frame, h.sle, h.sto, h.evo.trans hE⟩, hE⟩
  · by_cases hne : j = id
    · subst hne
      rw [upd_same] at hj; cases hj
      exact ⟨by simp, .inl ⟨upd_same _ _ _, rfl⟩⟩
    · rw [upd_ne _ _ _ hne] at hj
      exact (h.obj j x hj).evolve hE (upd_ne _ _ _ hne) fun _ _ _ => ⟨rfl, fun _ => rfl, rfl⟩
  · have h1 : i ≠ id := fun e => by subst e; rw [upd_same] at hm; cases hm
    have h2 : j ≠ id := fun e => by subst e; rw [upd_same] at hm'; cases hm'
    rw [upd_ne _ _ _ h1] at hi hm
    rw [upd_ne _ _ _ h2] at hj hm'
    exact h.inj i j x x' b c c' hi hj hm hm'
  · have h1 : i ≠ id := fun e => by subst e; rw [upd_same] at hm; cases hm
    rw [upd_ne _ _ _ h1] at hi hm
    exact h.own i x b c hi hm

/-- A slot that holds nil holds an empty array of the call's own. -/
theorem Sub.own {kf : List Nat} {st : St} {t id : Nat} (te es : Nat) (h : st.e t = some (.one (.c .nl))) (hid : st.h id = none) : Sub kf ⟨upd st.e t (some (.one (.hs id 0 0 0))), upd st.h id (some (.arr te es [] 0)), st.d⟩ st := by
  intro G n S μ a w _ hs
  obtain ⟨hi, hE⟩ := hs.inv.empty te es hid
  refine ⟨S, upd μ id none, ⟨hi, hs.size, hs.defers.evolve hE, fun s v e => ?_⟩⟩
  by_cases hst : s = t
  · subst hst
    have hv := hs.env s _ h
    have e' : v = .one (.hs id 0 0 0) := by
      have : some v = some (V.one (.hs id 0 0 0)) := by rw [← e]; exact upd_same _ _ _
      cases this; rfl
    subst e'
    simp only [VRel, RRel, Rep] at hv ⊢
    exact ⟨⟨_, _, _, hv⟩, .inr ⟨te, es, [], 0, upd_same _ _ _, Nat.le_refl _, fun _ => ⟨Nat.le_refl _, .inl ⟨upd_same _ _ _, rfl, hv⟩⟩⟩⟩
  · have e' : st.e s = some v := by rw [← e]; exact (upd_ne _ _ _ hst).symm
    exact VRel.evolve hE v _ (hs.env s v e')

/-- A cell of a variable that holds nil, likewise. -/
theorem Sub.ownCell {kf : List Nat} {st : St} {x k id tv : Nat} {cells : List R} (te es : Nat) (h : st.h x = some (.var tv cells)) (hk : cells[k]? = some (.c .nl)) (hid : st.h id = none) :
    Sub kf ⟨st.e, upd (upd st.h id (some (.arr te es [] 0))) x (some (.var tv (cells.set k (.hs id 0 0 0)))), st.d⟩ st := by
  intro G n S μ a w _ hs
  obtain ⟨hi, hE⟩ := hs.inv.empty te es hid
  have hne : x ≠ id := fun e => by subst e; rw [h] at hid; cases hid
  have hx : upd st.h id (some (.arr te es [] 0)) x = some (.var tv cells) := by rw [upd_ne _ _ _ hne]; exact h
  obtain ⟨b, vs, g1, g2, g3, g4⟩ := hi.obj x _ hx
  have hE2 : Evolve S (upd μ id none) (upd st.h id (some (.arr te es [] 0))) S (upd μ id none) (upd (upd st.h id (some (.arr te es [] 0))) x (some (.var tv (cells.set k (.hs id 0 0 0))))) := ⟨S.le_refl, fun j y hj => by
    by_cases hjx : j = x
    · subst hjx
      rw [hx] at hj; cases hj
      exact ⟨_, upd_same _ _ _, by simp [AObj.succ]⟩
    · exact ⟨y, by rw [upd_ne _ _ _ hjx]; exact hj, y.succ_refl rfl⟩⟩
  have hold : ∀ j y, upd (upd st.h id (some (.arr te es [] 0))) x (some (.var tv (cells.set k (.hs id 0 0 0)))) j = some y → ∃ y', upd st.h id (some (.arr te es [] 0)) j = some y' := fun j y hj => by
    by_cases hjx : j = x
    · subst hjx; exact ⟨_, hx⟩
    · rw [upd_ne _ _ _ hjx] at hj; exact ⟨_, hj⟩
  refine ⟨S, upd μ id none, ⟨⟨hi.holds, fun j y hj => ?_, fun i j y y' b c c' hi' hj hm hm' => ?_, fun i y b c hi' hm => ?_, hi.frame, hi.sle, hi.sto, hi.evo.trans hE2⟩, hs.size, hs.defers.evolve (hE.trans hE2), fun s v e => VRel.evolve (hE.trans hE2) v _ (hs.env s v e)⟩⟩
  · by_cases hjx : j = x
    · subst hjx
      have hj' : some (AObj.var tv (cells.set k (.hs id 0 0 0))) = some y := by rw [← hj]; exact (upd_same _ _ _).symm
      cases hj'
      refine ⟨b, vs, g1, g2, ?_, g4⟩
      have h3 := RRelL.evolve hE2 _ _ g3
      obtain ⟨u, hu, hru⟩ := g3.get k _ hk
      simp only [RRel, Rep] at hru
      have hkl : k < cells.length := (List.getElem?_eq_some_iff.1 hk).1
      have hsplit : cells.set k (.hs id 0 0 0) = splice cells k [.hs id 0 0 0] := by
        unfold splice
        rw [List.set_eq_take_append_cons_drop, if_pos hkl]
        simp
      have hvl := g3.length
      have hvs : vs = splice vs k [u] := by
        unfold splice
        apply List.ext_getElem?
        intro i
        simp only [List.getElem?_append, List.length_append, List.length_take, List.length_cons, List.length_nil, List.getElem?_take, List.getElem?_drop]
        have hm : min k vs.length = k := by omega
        rw [hm]
        by_cases c1 : i < k
        · simp [c1, show i < k + 1 by omega]
        · by_cases c2 : i = k
          · subst c2; simp [hu]
          · simp [show ¬ i < k + 1 by omega, show k + 1 + (i - (k + 1)) = i by omega]
      rw [hsplit] at h3 ⊢
      rw [hvs]
      refine splice_rel h3 ?_
      simp only [RRelL, RRel]
      exact ⟨u, [], rfl, ⟨⟨_, _, _, hru⟩, .inr ⟨te, es, [], 0, by rw [upd_ne _ _ _ hne.symm]; exact upd_same _ _ _, Nat.le_refl _, fun _ => ⟨Nat.le_refl _, .inl ⟨upd_same _ _ _, rfl, hru⟩⟩⟩⟩, rfl⟩
    · have hj' : upd st.h id (some (.arr te es [] 0)) j = some y := by rw [← hj]; exact (upd_ne _ _ _ hjx).symm
      exact (hi.obj j y hj').evolve hE2 rfl fun _ _ _ => ⟨rfl, fun _ => rfl, rfl⟩
  · obtain ⟨_, h1⟩ := hold _ _ hi'
    obtain ⟨_, h2⟩ := hold _ _ hj
    exact hi.inj i j _ _ b c c' h1 h2 hm hm'
  · obtain ⟨_, h1⟩ := hold _ _ hi'
    exact hi.own i _ b c h1 hm
end Go.AM
