/-
  HEAPS THAT ARE NOT WRITTEN OUT: what goes on over a loop whose objects are a function of the round.
-/
import Derived.Test.YthfeeaifddppoaaAm20
namespace Go.AM
open Go

/-- Objects of such numbers, each once, that refer to one another alone. -/
structure Wf (ks : List Nat) (hl : List (Nat × AObj)) : Prop where
  keys : keys hl = ks
  ok : (subset (refsH hl) ks && distinct ks && (hl.all fun p => p.2.live && p.2.plain)) = true
theorem Wf.all {ks : List Nat} {hl : List (Nat × AObj)} (h : Wf ks hl) : AllP (fun p => look hl p.1 = some p.2) hl := by
  have hk := h.ok
  simp only [Bool.and_eq_true] at hk
  have hd := distinct_spec hk.1.2
  rw [← h.keys] at hd
  have key : ∀ l : List (Nat × AObj), (∀ p ∈ l, p ∈ hl) → AllP (fun p => look hl p.1 = some p.2) l := by
    intro l
    induction l with
    | nil => intro _; trivial
    | cons p l ih =>
      intro hp
      refine ⟨?_, ih fun q hq => hp q (by simp [hq])⟩
      have hm := hp p (by simp)
      obtain ⟨x, hx⟩ := look_some (List.mem_map.2 ⟨p, hm, rfl⟩ : p.1 ∈ hl.map (·.1))
      have := nodup_idx (f := fun q : Nat × AObj => q.1) hd _ (look_mem hx) _ hm rfl
      show look hl p.1 = some p.2
      rw [hx, ← this]
  exact key hl fun p hp => hp
theorem Wf.live {ks : List Nat} {hl : List (Nat × AObj)} (h : Wf ks hl) : (hl.all fun p => p.2.live) = true := by
  have hk := h.ok
  simp only [Bool.and_eq_true, List.all_eq_true] at hk ⊢
  exact fun p hp => (hk.2 p hp).1
theorem Wf.plain {ks : List Nat} {hl : List (Nat × AObj)} (h : Wf ks hl) : (hl.all fun p => p.2.plain) = true := by
  have hk := h.ok
  simp only [Bool.and_eq_true, List.all_eq_true] at hk ⊢
  exact fun p hp => (hk.2 p hp).2
theorem Wf.refs {ks : List Nat} {hl : List (Nat × AObj)} (h : Wf ks hl) : subset (refsH hl) (Go.AM.keys hl) = true := by
  have hk := h.ok
  simp only [Bool.and_eq_true] at hk
  rw [h.keys]
  exact hk.1.1
theorem Wf.distinct {ks : List Nat} {hl : List (Nat × AObj)} (h : Wf ks hl) : Go.AM.distinct (Go.AM.keys hl) = true := by
  have hk := h.ok
  simp only [Bool.and_eq_true] at hk
  rw [h.keys]
  exact hk.1.2
theorem subset_refl (l : List Nat) : subset l l = true := by simp [subset]
theorem subset_trans {a b c : List Nat} (h : subset a b = true) (k : subset b c = true) : subset a c = true := by
  simp only [subset, List.all_eq_true] at h k ⊢
  intro x hx
  exact k x (by simpa using h x hx)
/-- The same objects, or those that came of them. -/
theorem Sub.heap {kf ks : List Nat} {st1 : St} {el : List (Nat × V)} {hl : List (Nat × AObj)} (hw : Wf ks hl) (he : AllP (fun p => st1.e p.1 = some p.2) el) (hh : ∀ id o, look hl id = some o → st1.h id = some o)
    (h1 : subset (refsE el) ks = true) (h2 : subset kf ks = true) (h3 : eqL [] st1.d = true) : Sub kf (mk el hl) st1 := by
  refine Sub.list (fun i => i) ?_ ?_ ?_
  · have key : ∀ l : List (Nat × V), AllP (fun p => st1.e p.1 = some p.2) l → AllP (fun p => st1.e p.1 = some (p.2.ren fun i => i)) l := by
      intro l
      induction l with
      | nil => intro _; trivial
      | cons p l ih => intro h; exact ⟨by show st1.e p.1 = some (p.2.ren fun i => i); rw [V.ren_id]; exact h.1, ih h.2⟩
    exact key _ he
  · have key : ∀ l : List (Nat × AObj), (∀ p ∈ l, p.2.live = true) → AllP (fun p => look hl p.1 = some p.2) l → AllP (fun p => ∃ o, st1.h p.1 = some o ∧ Ole (fun i => i) o p.2) l := by
      intro l
      induction l with
      | nil => intro _ _; trivial
      | cons p l ih =>
        intro hv h
        refine ⟨⟨p.2, hh _ _ h.1, .refl_id ?_⟩, ih (fun q hq => hv q (by simp [hq])) h.2⟩
        intro e
        have := hv p (by simp)
        rw [e] at this
        cases this
    exact key _ (fun p hp => (List.all_eq_true.1 hw.live) p hp) hw.all
  · simp only [mkOk, Bool.and_eq_true]
    have hk : List.map (fun p : Nat × AObj => p.1) hl = ks := hw.keys
    refine ⟨⟨⟨⟨⟨?_, ?_⟩, ?_⟩, ?_⟩, ?_⟩, h3⟩
    · rw [hk]; exact h1
    · exact hw.refs
    · exact hw.distinct
    · rw [hk]; exact h2
    · simp
theorem Wf.callOk {ks : List Nat} {hl : List (Nat × AObj)} (h : Wf ks hl) {args : List V} (ha : subset (V.refsL args) ks = true) : callOk args hl = true := by
  simp only [Go.AM.callOk, Bool.and_eq_true]
  exact ⟨⟨by rw [h.keys]; exact ha, h.refs⟩, h.live⟩
theorem AllP.of {α : Type} {p : α → Prop} : ∀ {l : List α}, (∀ x ∈ l, p x) → AllP p l
  | [], _ => trivial
  | x :: l, h => ⟨h x (by simp), AllP.of fun y hy => h y (by simp [hy])⟩
theorem Wf.hout {ks : List Nat} {hl hl' : List (Nat × AObj)} (h : Wf ks hl) (h' : Wf ks hl') {g : Heap} : AllP (fun q : Nat × AObj => q.1 ∈ Go.AM.keys hl ∨ g q.1 = none) hl' :=
  AllP.of fun q hq => .inl (by rw [h.keys, ← h'.keys]; exact List.mem_map.2 ⟨q, hq, rfl⟩)
/-- The end of a body whose objects are not written out. -/
theorem Fin.heap {T : TT} {fn : Func} {st : St} {ks : List Nat} {hin hout : List (Nat × AObj)} {vs vs' : List V} (hw : Wf ks hin) (hw' : Wf ks hout) (hh : ∀ id o, look hout id = some o → st.h id = some o) (hr : ResV T st fn.results.toList vs) (hc : Convs st.h vs vs') (hs : subset (tupV vs').refs ks = true) : Fin T fn st hin (tupV vs') hout := by
  refine ⟨⟨vs, vs', hr, hc, rfl⟩, AllP.of fun p hp => ⟨p.2, hh _ _ (hw'.all.mem p hp), .refl_id ?_⟩, ?_⟩
  · intro e
    have := (List.all_eq_true.1 hw'.live) p hp
    rw [e] at this
    cases this
  · simp only [Bool.and_eq_true]
    exact ⟨⟨⟨⟨⟨by rw [hw'.keys]; exact hs, hw'.refs⟩, hw'.distinct⟩, by rw [hw.keys, hw'.keys]; exact subset_refl _⟩, hw.plain⟩, hw'.plain⟩
end Go.AM
