/-
  PLAIN LAWS OF CLASSES (1): what is above what: 'over' (round by round) and 'above' (depth first) hold what can be reached.
-/
import Derived.Test.YthfeeaifddppoaaCl20
namespace Go.Proofs.Ythfeeaifddppoaa

/-- s is above f. -/
inductive Rch (p : Prog) (f : Str) : Str → Prop
  | one {s} : s ∈ supersOf p f → (cls p s).isSome → Rch p f s
  | step {u s} : Rch p f u → s ∈ supersOf p u → (cls p s).isSome → Rch p f s
theorem Rch.cls' {p : Prog} {f s : Str} (h : Rch p f s) : (cls p s).isSome := by cases h <;> assumption
theorem Rch.head {p : Prog} {f u s : Str} (h1 : u ∈ supersOf p f) (h2 : (cls p u).isSome) (h : Rch p u s) : Rch p f s := by
  induction h with
  | one h3 h4 => exact .step (.one h1 h2) h3 h4
  | step _ h3 h4 ih => exact .step ih h3 h4

/-! ### over -/
theorem ostep_spec (p : Prog) (o : List Str) (x : List Str × List Str) (t : Str) (h : x.1 = o ++ x.2) : (ostep p x t).1 = o ++ (ostep p x t).2 ∧ (∀ s ∈ x.2, s ∈ (ostep p x t).2) ∧ ((cls p t).isSome → t ∈ (ostep p x t).1) ∧ ∀ s ∈ (ostep p x t).2, s ∈ x.2 ∨ (s = t ∧ (cls p t).isSome) := by
  unfold ostep
  split
  · rename_i hc
    refine ⟨by rw [h, List.append_assoc], fun s hs => by simp [hs], fun _ => by simp, fun s hs => ?_⟩
    rcases List.mem_append.1 hs with hs | hs
    · exact .inl hs
    · simp at hs; exact .inr ⟨hs, hc.1⟩
  · rename_i hc
    refine ⟨h, fun s hs => hs, fun hcl => ?_, fun s hs => .inl hs⟩
    have : ¬ (t ∉ x.1) := fun hn => hc ⟨hcl, hn⟩
    simpa using this
theorem osteps_spec (p : Prog) (o : List Str) : ∀ (l : List Str) (x : List Str × List Str), x.1 = o ++ x.2 →
    (l.foldl (ostep p) x).1 = o ++ (l.foldl (ostep p) x).2 ∧ (∀ s ∈ x.2, s ∈ (l.foldl (ostep p) x).2) ∧ (∀ t ∈ l, (cls p t).isSome → t ∈ (l.foldl (ostep p) x).1) ∧ ∀ s ∈ (l.foldl (ostep p) x).2, s ∈ x.2 ∨ (s ∈ l ∧ (cls p s).isSome)
  | [], x, h => ⟨h, fun s hs => hs, by simp, fun s hs => .inl hs⟩
  | t :: l, x, h => by
    obtain ⟨h1, h2, h3, h4⟩ := ostep_spec p o x t h
    obtain ⟨k1, k2, k3, k4⟩ := osteps_spec p o l (ostep p x t) h1
    simp only [List.foldl_cons]
    refine ⟨k1, fun s hs => k2 s (h2 s hs), fun u hu hc => ?_, fun s hs => ?_⟩
    · rcases List.mem_cons.1 hu with rfl | hu
      · have := h3 hc
        rw [h1] at this
        rw [k1]
        rcases List.mem_append.1 this with h | h
        · simp [h]
        · simp [k2 _ h]
      · exact k3 u hu hc
    · rcases k4 s hs with h | ⟨h, hc⟩
      · rcases h4 s h with h | ⟨rfl, hc⟩
        · exact .inl h
        · exact .inr ⟨by simp, hc⟩
      · exact .inr ⟨by simp [h], hc⟩
theorem oclasses_spec (p : Prog) (o : List Str) : ∀ (l : List Str) (x : List Str × List Str), x.1 = o ++ x.2 →
    (l.foldl (oclass p) x).1 = o ++ (l.foldl (oclass p) x).2 ∧ (∀ s ∈ x.2, s ∈ (l.foldl (oclass p) x).2) ∧ (∀ u ∈ l, ∀ t ∈ supersOf p u, (cls p t).isSome → t ∈ (l.foldl (oclass p) x).1) ∧ ∀ s ∈ (l.foldl (oclass p) x).2, s ∈ x.2 ∨ ∃ u ∈ l, s ∈ supersOf p u ∧ (cls p s).isSome
  | [], x, h => ⟨h, fun s hs => hs, by simp, fun s hs => .inl hs⟩
  | v :: l, x, h => by
    obtain ⟨h1, h2, h3, h4⟩ := osteps_spec p o (supersOf p v) x h
    obtain ⟨k1, k2, k3, k4⟩ := oclasses_spec p o l (oclass p x v) h1
    simp only [List.foldl_cons]
    refine ⟨k1, fun s hs => k2 s (h2 s hs), fun u hu t ht hc => ?_, fun s hs => ?_⟩
    · rcases List.mem_cons.1 hu with rfl | hu
      · have := h3 t ht hc
        rw [h1] at this
        rw [k1]
        rcases List.mem_append.1 this with h | h
        · simp [h]
        · simp [k2 _ h]
      · exact k3 u hu t ht hc
    · rcases k4 s hs with h | ⟨u, hu, h⟩
      · rcases h4 s h with h | ⟨h, hc⟩
        · exact .inl h
        · exact .inr ⟨v, by simp, h, hc⟩
      · exact .inr ⟨u, by simp [hu], h⟩
/-- After so many rounds. -/
structure OInv (p : Prog) (f : Str) (k : Nat) (x : List Str × List Str) : Prop where
  sound : ∀ s ∈ x.1, Rch p f s
  next : ∀ u ∈ x.2, u = f ∨ u ∈ x.1
  closed : ∀ u, u = f ∨ u ∈ x.1 → u ∉ x.2 → ∀ s ∈ supersOf p u, (cls p s).isSome → s ∈ x.1
  many : 1 ≤ k → x.2 ≠ [] → k ≤ x.1.length
theorem OInv.start (p : Prog) (f : Str) : OInv p f 0 ([], [f]) := ⟨by simp, by simp, by simp, by omega⟩
theorem OInv.round {p : Prog} {f : Str} {k : Nat} {x : List Str × List Str} (h : OInv p f k x) : OInv p f (k + 1) (oround p x) := by
  obtain ⟨k1, k2, k3, k4⟩ := oclasses_spec p x.1 x.2 (x.1, []) (by simp)
  have e : oround p x = x.2.foldl (oclass p) (x.1, []) := rfl
  rw [e]
  generalize x.2.foldl (oclass p) (x.1, []) = y at k1 k2 k3 k4
  refine ⟨fun s hs => ?_, fun u hu => ?_, fun u hu hn s hs hc => ?_, fun _ hne => ?_⟩
  · rw [k1] at hs
    rcases List.mem_append.1 hs with hs | hs
    · exact h.sound s hs
    · rcases k4 s hs with h' | ⟨u, hu, h1, h2⟩
      · simp at h'
      · rcases h.next u hu with rfl | hu'
        · exact .one h1 h2
        · exact .step (h.sound u hu') h1 h2
  · right; rw [k1]; simp [hu]
  · have hu' : u = f ∨ u ∈ x.1 := by
      rcases hu with hu | hu
      · exact .inl hu
      · rw [k1] at hu
        rcases List.mem_append.1 hu with hu | hu
        · exact .inr hu
        · exact absurd hu hn
    by_cases hx : u ∈ x.2
    · exact k3 u hx s hs hc
    · rw [k1]; simp [h.closed u hu' hx s hs hc]
  · have hl : y.1.length = x.1.length + y.2.length := by rw [k1]; simp
    have hp : 0 < y.2.length := List.length_pos_iff.2 hne
    by_cases hx : x.2 = []
    · -- nothing came
      obtain ⟨s, hs⟩ := List.exists_mem_of_ne_nil _ hne
      rcases k4 s hs with h' | ⟨u, hu, _⟩
      · simp at h'
      · rw [hx] at hu; simp at hu
    · by_cases hk : 1 ≤ k
      · have := h.many hk hx; omega
      · omega
theorem OInv.iter (p : Prog) (f : Str) : ∀ k, OInv p f k (iter (oround p) k ([], [f]))
  | 0 => .start p f
  | k + 1 => (OInv.iter p f k).round
theorem okO_iter (p : Prog) (f : Str) : ∀ k, 1 ≤ k → OkO p (iter (oround p) k ([], [f])) := by
  have h0 : ∀ x : List Str × List Str, x.1.Nodup → (∀ t ∈ x.1, (cls p t).isSome) → OkO p (oround p x) := fun x h1 h2 => OkO.classes x.2 ⟨h1, h2, by simp⟩
  intro k
  induction k with
  | zero => intro h; omega
  | succ k ih =>
    intro _
    cases k with
    | zero => exact h0 _ (by simp [iter]) (by simp [iter])
    | succ k => exact h0 _ (ih (by omega)).nodup (ih (by omega)).cls
theorem over_iff (p : Prog) (f s : Str) : s ∈ over p f ↔ Rch p f s := by
  have h := OInv.iter p f (p.classes.length + 1)
  have hok := okO_iter p f (p.classes.length + 1) (by omega)
  have hnil : (iter (oround p) (p.classes.length + 1) ([], [f])).2 = [] := by
    by_cases hne : (iter (oround p) (p.classes.length + 1) ([], [f])).2 = []
    · exact hne
    · have := h.many (by omega) hne
      have := hok.len
      omega
  refine ⟨fun hs => h.sound s hs, fun hr => ?_⟩
  unfold over
  induction hr with
  | one h1 h2 => exact h.closed f (.inl rfl) (by rw [hnil]; simp) _ h1 h2
  | step _ h1 h2 ih => exact h.closed _ (.inr ih) (by rw [hnil]; simp) _ h1 h2

/-! ### above -/
theorem abv_spec (p : Prog) : ∀ (m : Nat) (s : Str) (told : List Str), TOk p told → p.classes.length + 1 ≤ told.length + m →
    (∀ u ∈ told, u ∈ abv p m told s) ∧ ((cls p s).isSome → s ∈ abv p m told s) ∧ (∀ u ∈ abv p m told s, u ∉ told → ∀ v ∈ supersOf p u, (cls p v).isSome → v ∈ abv p m told s) ∧
    (∀ u ∈ abv p m told s, u ∈ told ∨ ((cls p s).isSome ∧ (u = s ∨ Rch p s u)))
  | 0, s, told, ht, hm => by have := ht.len; omega
  | m + 1, s, told, ht, hm => by
    have htl := ht.len
    unfold abv
    split
    · rename_i hc
      have hok : TOk p (told ++ [s]) := ht.snoc hc.1 hc.2
      -- the fold
      have key : ∀ (l : List Str) (t : List Str), TOk p t → told.length + 1 ≤ t.length → (∀ u ∈ t, u ∈ l.foldl (abv p m) t) ∧ (∀ v ∈ l, (cls p v).isSome → v ∈ l.foldl (abv p m) t) ∧
          (∀ u ∈ l.foldl (abv p m) t, u ∉ t → ∀ v ∈ supersOf p u, (cls p v).isSome → v ∈ l.foldl (abv p m) t) ∧ (∀ u ∈ l.foldl (abv p m) t, u ∈ t ∨ ∃ v ∈ l, (cls p v).isSome ∧ (u = v ∨ Rch p v u)) := by
        intro l
        induction l with
        | nil => intro t _ _; exact ⟨fun u hu => hu, by simp, fun u hu hn => absurd hu hn, fun u hu => .inl hu⟩
        | cons x l ih =>
          intro t ht' htl'
          obtain ⟨a1, a2, a3, a4⟩ := abv_spec p m x t ht' (by omega)
          have hlen := abv_len (p := p) m x t
          obtain ⟨b1, b2, b3, b4⟩ := ih (abv p m t x) (ht'.abv m x) (by omega)
          simp only [List.foldl_cons]
          refine ⟨fun u hu => b1 u (a1 u hu), fun v hv hcv => ?_, fun u hu hn v hv hcv => ?_, fun u hu => ?_⟩
          · rcases List.mem_cons.1 hv with rfl | hv
            · exact b1 _ (a2 hcv)
            · exact b2 v hv hcv
          · by_cases hux : u ∈ abv p m t x
            · exact b1 v (a3 u hux hn v hv hcv)
            · exact b3 u hu hux v hv hcv
          · rcases b4 u hu with h | ⟨v, hv, h⟩
            · rcases a4 u h with h | h
              · exact .inl h
              · exact .inr ⟨x, by simp, h⟩
            · exact .inr ⟨v, by simp [hv], h⟩
      obtain ⟨b1, b2, b3, b4⟩ := key (supersOf p s) (told ++ [s]) hok (by simp)
      refine ⟨fun u hu => b1 u (by simp [hu]), fun _ => b1 s (by simp), fun u hu hn v hv hcv => ?_, fun u hu => ?_⟩
      · by_cases hus : u = s
        · subst hus; exact b2 v hv hcv
        · exact b3 u hu (by simp [hn, hus]) v hv hcv
      · rcases b4 u hu with h | ⟨v, hv, hcv, h⟩
        · rcases List.mem_append.1 h with h | h
          · exact .inl h
          · simp at h; exact .inr ⟨hc.1, .inl h⟩
        · refine .inr ⟨hc.1, .inr ?_⟩
          rcases h with rfl | h
          · exact .one hv hcv
          · exact h.head hv hcv
    · rename_i hc
      refine ⟨fun u hu => hu, fun hcs => ?_, fun u hu hn => absurd hu hn, fun u hu => .inl hu⟩
      have : ¬ (s ∉ told) := fun hn => hc ⟨hcs, hn⟩
      simpa using this
theorem above_iff (p : Prog) (f s : Str) : s ∈ above p f ↔ (cls p f).isSome ∧ (s = f ∨ Rch p f s) := by
  obtain ⟨_, h2, h3, h4⟩ := abv_spec p (p.classes.length + 1) f [] (.nil p) (by simp)
  refine ⟨fun h => ?_, fun ⟨hc, h⟩ => ?_⟩
  · rcases h4 s h with h | h
    · simp at h
    · exact h
  · rcases h with rfl | h
    · exact h2 hc
    · have key : ∀ u, Rch p f u → u ∈ abv p (p.classes.length + 1) [] f := by
        intro u hu
        induction hu with
        | one h5 h6 => exact h3 f (h2 hc) (by simp) _ h5 h6
        | step _ h5 h6 ih => exact h3 _ ih (by simp) _ h5 h6
      exact key s h
end Go.Proofs.Ythfeeaifddppoaa
