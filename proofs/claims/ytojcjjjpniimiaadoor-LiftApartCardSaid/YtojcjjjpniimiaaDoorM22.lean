/-
  Texts Ln37, Ln38, Ln39 in one.
-/
import Derived.Test.YtojcjjjpniimiaaDoorM21
/- HOW MUCH is lifted, where p is a name, too; no types in it. -/
namespace Go.Proofs.YtojcjjjpniimiaaDoor
open Go Go.AM
set_option maxRecDepth 20000

/-- How great the bodies are, all together. -/
def msum : List Sup → Nat
  | [] => 0
  | x :: l => csize x.body + msum l
theorem msum_app : ∀ a b : List Sup, msum (a ++ b) = msum a + msum b
  | [], b => by rw [List.nil_append, msum, Nat.zero_add]
  | x :: a, b => by rw [List.cons_append, msum, msum, msum_app a b, Nat.add_assoc]
theorem msum_set (c : Core) : ∀ (l : List Sup) (k : Nat), msum (setBody l k c) ≤ msum l + csize c
  | [], k => by rw [setBody]; exact Nat.le_add_right _ _
  | x :: l, 0 => by rw [setBody, msum, msum]; dsimp only; omega
  | x :: l, k + 1 => by rw [setBody, msum, msum]; have := msum_set c l k; omega
theorem msum_mem : ∀ {l : List Sup} {x : Sup}, x ∈ l → csize x.body ≤ msum l
  | y :: l, x, h => by
    rw [msum]
    rcases List.mem_cons.1 h with rfl | h
    · omega
    · have := msum_mem h; omega
def Sh40 (l : List Str) : Prop := ∀ s ∈ l, s.length ≤ 40
theorem paramsTo_sh : ∀ (l : List Str) (i : Nat), (∀ s ∈ l, s ∈ nm6) → Sh40 (paramsTo i l)
  | [], _, _ => by rw [paramsTo]; intro s hs; simp at hs
  | s :: l, i, h => by
    have ih := paramsTo_sh l (i + 1) fun x hx => h x (List.mem_cons_of_mem _ hx)
    have h1 := nm6_len s (h s List.mem_cons_self)
    have h2 := dec_len i
    rw [paramsTo]
    intro x hx
    rcases List.mem_cons.1 hx with rfl | hx
    · split
      · simp only [List.length_append, List.length_cons, List.length_nil]; omega
      · omega
    · exact ih x hx
def P100 (l : List Sup) : Prop := ∀ x ∈ l, x.params.length ≤ 200000 ∧ Sh40 x.params
theorem P100.app {a b : List Sup} (ha : P100 a) (hb : P100 b) : P100 (a ++ b) := fun x hx => (List.mem_append.1 hx).elim (ha x) (hb x)
theorem P100.set (c : Core) : ∀ {l : List Sup} (k : Nat), P100 l → P100 (setBody l k c)
  | [], k, h => by rw [setBody]; exact h
  | x :: l, 0, h => by
    rw [setBody]
    intro y hy
    rcases List.mem_cons.1 hy with rfl | hy
    · exact h x List.mem_cons_self
    · exact h y (List.mem_cons_of_mem _ hy)
  | x :: l, k + 1, h => by
    rw [setBody]
    intro y hy
    rcases List.mem_cons.1 hy with rfl | hy
    · exact h _ List.mem_cons_self
    · exact P100.set c (l := l) k (fun z hz => h z (List.mem_cons_of_mem _ hz)) y hy
theorem appVars_size : ∀ (l : List Str) (c : Core), (∀ s ∈ l, s ∈ nm6) → csize (appVars c l) ≤ csize c + 5 * l.length
  | [], c, _ => by rw [appVars]; exact Nat.le_add_right _ _
  | s :: l, c, h => by
    have h1 := appVars_size l (appC c (varC s)) fun x hx => h x (List.mem_cons_of_mem _ hx)
    have h2 := nm6_len s (h s List.mem_cons_self)
    have h3 : csize (appC c (varC s)) = csize c + s.length + 2 := by
      unfold appC varC
      rw [csize, csizes, csizes, csizes, bsizes, asizes, csize, csizes, bsizes, asizes]
      simp
      omega
    rw [appVars, List.length_cons]
    omega
theorem chainNs_nm {ks : List Core} (hw : wfCs ks = true) (hn : nmCs ks = true) : (∀ s ∈ chainNs ks, s ∈ nm6) ∧ (chainNs ks).length ≤ lamsCs ks := by
  cases ks with
  | nil => rw [chainNs]; exact ⟨by simp, by simp⟩
  | cons k ks =>
    rw [wfCs, Bool.and_eq_true] at hw
    rw [nmCs, Bool.and_eq_true] at hn
    obtain ⟨h1, _, h3⟩ := nm_chain _ k (Nat.le_refl _) hw.1 hn.1
    rw [chainNs, lamsCs]
    exact ⟨h1, by omega⟩
def Sml (of : Str) : Prop := of.length ≤ 10
def AIn (A : Str → Bool) : Prop := ∀ s, A s = true → s ∈ nm6
theorem AIn.ext {A : Str → Bool} (h : AIn A) {l : List Str} (hl : ∀ s ∈ l, s ∈ nm6) : AIn (ext A l) := fun s hs => by
  simp only [YtojcjjjpniimiaaDoor.ext, Bool.or_eq_true, decide_eq_true_eq] at hs
  exact hs.elim (h s) (hl s)
mutual
theorem part_sz {of : Str} (ho : Sml of) : ∀ (c : Core) (ch : Bool) (A : Str → Bool) (made : List Sup), wfR c = true → nmR c = true → lamsN c ≤ 100000 → AIn A → P100 made →
    csize (partR of ch c A made).1 + msum (partR of ch c A made).2 ≤ csize c + msum made + 100 * lamsN c ∧ P100 (partR of ch c A made).2
  | .mk f n s t ks bs al, ch, A, made, hw, hn, hl, hA, hp => by
    have hw0 := hw
    have hn0 := hn
    simp only [wfR, Bool.and_eq_true] at hw
    simp only [nmR, Bool.and_eq_true] at hn
    rw [lamsN] at hl ⊢
    rw [partR]
    by_cases h5 : f = 5
    · rw [if_pos h5] at hl hw hn ⊢
      rw [if_pos h5]
      have hne : ks ≠ [] := fun e => by subst e; simp at hw
      cases ch with
      | true =>
        rw [if_pos rfl]
        obtain ⟨k1, k2⟩ := partK_sz ho ks A made hne hw.2.1 hn.2.1 (by omega) hA hp
        rw [csize]
        exact ⟨by omega, k2⟩
      | false =>
        rw [if_neg Bool.false_ne_true]
        dsimp only
        have hfi := freeR_in A (.mk f n s t ks bs al) (fun _ => false) [] (fun s hs => by simp at hs)
        have hfo := freeR_once A (.mk f n s t ks bs al) (fun _ => false) [] List.nodup_nil
        have hfn : ∀ x ∈ freeR A (.mk f n s t ks bs al) (fun _ => false) [], x ∈ nm6 := fun x hx => hA x (hfi x hx)
        have hfl := nodup_len nm6 _ hfo hfn
        have hnl : nm6.length = 6 := rfl
        obtain ⟨c1, c2⟩ := chainNs_nm hw.2.1 hn.2.1
        generalize freeR A (.mk f n s t ks bs al) (fun _ => false) [] = free at hfn hfl ⊢
        have han : ∀ x ∈ free ++ (s :: chainNs ks), x ∈ nm6 := fun x hx => by
          rcases List.mem_append.1 hx with hx | hx
          · exact hfn x hx
          · rcases List.mem_cons.1 hx with rfl | hx
            · exact of_decide_eq_true hn.1
            · exact c1 x hx
        have hal : (free ++ (s :: chainNs ks)).length ≤ 200000 := by rw [List.length_append, List.length_cons]; omega
        generalize free ++ (s :: chainNs ks) = all at han hal ⊢
        have hpl : (paramsR all).length = all.length := paramsTo_len all 0
        obtain ⟨k1, k2⟩ := partK_sz ho ks (fun x => decide (x ∈ all)) (made ++ [⟨fname of made.length, paramsR all, zCore⟩]) hne hw.2.1 hn.2.1 (by omega) (fun x hx => han x (of_decide_eq_true hx)) (hp.app fun x hx => by rw [List.mem_singleton.1 hx]; exact ⟨by show (paramsR all).length ≤ 200000; omega, paramsTo_sh all 0 han⟩)
        rw [msum_app] at k1
        have e1 : msum [⟨fname of made.length, paramsR all, zCore⟩] = 1 := by simp [msum, zCore, csize, csizes, bsizes, asizes]
        rw [e1] at k1
        generalize partK of ks (fun x => decide (x ∈ all)) (made ++ [⟨fname of made.length, paramsR all, zCore⟩]) = r at k1 k2 ⊢
        have hs := msum_set r.1 r.2 made.length
        have ha := appVars_size free (varC (fname of made.length)) hfn
        have hd := dec_len (made.length + 1)
        have hv : csize (varC (fname of made.length)) ≤ 33 := by
          unfold varC fname
          unfold Sml at ho
          simp only [csize, csizes, bsizes, asizes, List.length_append]
          simp
          omega
        refine ⟨?_, P100.set r.1 made.length k2⟩
        rw [csize]
        omega
    · rw [if_neg h5] at hl ⊢
      rw [if_neg h5]
      have hg := nm_gvs hn0
      have hA' := hA.ext hg
      obtain ⟨b1, b2⟩ := partBs_sz ho bs (ext A (gvs f s bs)) made hw.2.2.1 hn.2.2.1 (by omega) hA' hp
      obtain ⟨k1, k2⟩ := partCs_sz ho ks (ext A (gvs f s bs)) (partBs of bs (ext A (gvs f s bs)) made).2 hw.2.1 hn.2.1 (by omega) hA' b2
      obtain ⟨a1, a2⟩ := partAs_sz ho al (ext A (gvs f s bs)) (partCs of ks (ext A (gvs f s bs)) (partBs of bs (ext A (gvs f s bs)) made).2).2 hw.2.2.2 hn.2.2.2 (by omega) hA' k2
      refine ⟨?_, a2⟩
      dsimp only
      rw [csize, csize]
      omega
theorem partK_sz {of : Str} (ho : Sml of) : ∀ (l : List Core) (A : Str → Bool) (made : List Sup), l ≠ [] → wfCs l = true → nmCs l = true → lamsCs l ≤ 100000 → AIn A → P100 made →
    csize (partK of l A made).1 + msum (partK of l A made).2 ≤ csizes l + msum made + 100 * lamsCs l ∧ P100 (partK of l A made).2
  | [], _, _, h, _, _, _, _, _ => absurd rfl h
  | c :: l, A, made, _, hw, hn, hl, hA, hp => by
    rw [wfCs, Bool.and_eq_true] at hw
    rw [nmCs, Bool.and_eq_true] at hn
    rw [lamsCs] at hl ⊢
    rw [partK, csizes]
    obtain ⟨h1, h2⟩ := part_sz ho c true A made hw.1 hn.1 (by omega) hA hp
    exact ⟨by omega, h2⟩
theorem partCs_sz {of : Str} (ho : Sml of) : ∀ (l : List Core) (A : Str → Bool) (made : List Sup), wfCs l = true → nmCs l = true → lamsCs l ≤ 100000 → AIn A → P100 made →
    csizes (partCs of l A made).1 + msum (partCs of l A made).2 ≤ csizes l + msum made + 100 * lamsCs l ∧ P100 (partCs of l A made).2
  | [], _, _, _, _, _, _, hp => by rw [partCs]; exact ⟨by dsimp only; rw [lamsCs]; omega, hp⟩
  | c :: l, A, made, hw, hn, hl, hA, hp => by
    rw [wfCs, Bool.and_eq_true] at hw
    rw [nmCs, Bool.and_eq_true] at hn
    rw [lamsCs] at hl ⊢
    rw [partCs]
    obtain ⟨h1, h2⟩ := part_sz ho c false A made hw.1 hn.1 (by omega) hA hp
    obtain ⟨h3, h4⟩ := partCs_sz ho l A (partR of false c A made).2 hw.2 hn.2 (by omega) hA h2
    refine ⟨?_, h4⟩
    dsimp only
    rw [csizes, csizes]
    omega
theorem partBs_sz {of : Str} (ho : Sml of) : ∀ (l : List Bind) (A : Str → Bool) (made : List Sup), wfBs l = true → nmBs l = true → lamsBs l ≤ 100000 → AIn A → P100 made →
    bsizes (partBs of l A made).1 + msum (partBs of l A made).2 ≤ bsizes l + msum made + 100 * lamsBs l ∧ P100 (partBs of l A made).2
  | [], _, _, _, _, _, _, hp => by rw [partBs]; exact ⟨by dsimp only; rw [lamsBs]; omega, hp⟩
  | .mk s t c :: l, A, made, hw, hn, hl, hA, hp => by
    simp only [wfBs, Bool.and_eq_true] at hw
    simp only [nmBs, Bool.and_eq_true] at hn
    rw [lamsBs] at hl ⊢
    rw [partBs]
    obtain ⟨h1, h2⟩ := part_sz ho c false A made hw.1.2 hn.1.2 (by omega) hA hp
    obtain ⟨h3, h4⟩ := partBs_sz ho l A (partR of false c A made).2 hw.2 hn.2 (by omega) hA h2
    refine ⟨?_, h4⟩
    dsimp only
    rw [bsizes, bsizes, bsize, bsize]
    omega
theorem partAs_sz {of : Str} (ho : Sml of) : ∀ (l : List Alt) (A : Str → Bool) (made : List Sup), wfAs l = true → nmAs l = true → lamsAs l ≤ 100000 → AIn A → P100 made →
    asizes (partAs of l A made).1 + msum (partAs of l A made).2 ≤ asizes l + msum made + 100 * lamsAs l ∧ P100 (partAs of l A made).2
  | [], _, _, _, _, _, _, hp => by rw [partAs]; exact ⟨by dsimp only; rw [lamsAs]; omega, hp⟩
  | .mk f n s v c :: l, A, made, hw, hn, hl, hA, hp => by
    rw [wfAs, Bool.and_eq_true] at hw
    simp only [nmAs, Bool.and_eq_true] at hn
    rw [lamsAs] at hl ⊢
    rw [partAs]
    obtain ⟨h1, h2⟩ := part_sz ho c false (ext A v) made hw.1 hn.1.2 (by omega) (hA.ext fun x hx => of_decide_eq_true (List.all_eq_true.1 hn.1.1 x hx)) hp
    obtain ⟨h3, h4⟩ := partAs_sz ho l A (partR of false c (ext A v) made).2 hw.2 hn.2 (by omega) hA h2
    refine ⟨?_, h4⟩
    dsimp only
    rw [asizes, asizes, asize, asize]
    omega
end
theorem z0_appVars : ∀ (l : List Str) (c : Core), z0R c = true → z0R (appVars c l) = true
  | [], _, h => h
  | s :: l, c, h => by
    rw [appVars]
    refine z0_appVars l _ ?_
    simp only [appC, varC, z0R, z0Cs, z0Bs, z0As, h]
    rfl
def AllZ (l : List Sup) : Prop := ∀ x ∈ l, z0R x.body = true
mutual
theorem part_z0 (of : Str) : ∀ (c : Core) (ch : Bool) (A : Str → Bool) (made : List Sup), z0R c = true → AllZ made → z0R (partR of ch c A made).1 = true ∧ AllZ (partR of ch c A made).2
  | .mk f n s t ks bs al, ch, A, made, h, hm => by
    have h0 := h
    simp only [z0R, Bool.and_eq_true] at h
    obtain ⟨h1, h2, h3, h4⟩ := h
    rw [partR]
    split
    · split
      · exact partK_z0 of ks A made h2 hm
      · have hp := partK_z0 of ks (fun x => decide (x ∈ freeR A (.mk f n s t ks bs al) (fun _ => false) [] ++ (s :: chainNs ks))) (made ++ [⟨fname of made.length, paramsR (freeR A (.mk f n s t ks bs al) (fun _ => false) [] ++ (s :: chainNs ks)), zCore⟩]) h2 (by
          intro x hx
          rcases List.mem_append.1 hx with hx | hx
          · exact hm x hx
          · simp only [List.mem_singleton] at hx; subst hx; rfl)
        exact ⟨z0_appVars _ _ rfl, setBody_mem hp.2 fun x _ => hp.1⟩
    · have q1 := partBs_z0 of bs (ext A (gvs f s bs)) made h3 hm
      have q2 := partCs_z0 of ks (ext A (gvs f s bs)) _ h2 q1.2
      have q3 := partAs_z0 of al (ext A (gvs f s bs)) _ h4 q2.2
      refine ⟨?_, q3.2⟩
      dsimp only
      rw [z0R, h1, q1.1, q2.1, q3.1]
      rfl
theorem partK_z0 (of : Str) : ∀ (l : List Core) (A : Str → Bool) (made : List Sup), z0Cs l = true → AllZ made → z0R (partK of l A made).1 = true ∧ AllZ (partK of l A made).2
  | [], _, made, _, hm => by rw [partK]; exact ⟨rfl, hm⟩
  | c :: l, A, made, h, hm => by
    rw [z0Cs, Bool.and_eq_true] at h
    rw [partK]
    exact part_z0 of c true A made h.1 hm
theorem partCs_z0 (of : Str) : ∀ (l : List Core) (A : Str → Bool) (made : List Sup), z0Cs l = true → AllZ made → z0Cs (partCs of l A made).1 = true ∧ AllZ (partCs of l A made).2
  | [], _, made, _, hm => by rw [partCs]; exact ⟨rfl, hm⟩
  | c :: l, A, made, h, hm => by
    rw [z0Cs, Bool.and_eq_true] at h
    rw [partCs]
    have h1 := part_z0 of c false A made h.1 hm
    have h2 := partCs_z0 of l A _ h.2 h1.2
    exact ⟨by dsimp only; rw [z0Cs, h1.1, h2.1]; rfl, h2.2⟩
theorem partBs_z0 (of : Str) : ∀ (l : List Bind) (A : Str → Bool) (made : List Sup), z0Bs l = true → AllZ made → z0Bs (partBs of l A made).1 = true ∧ AllZ (partBs of l A made).2
  | [], _, made, _, hm => by rw [partBs]; exact ⟨rfl, hm⟩
  | .mk s t c :: l, A, made, h, hm => by
    simp only [z0Bs, Bool.and_eq_true] at h
    rw [partBs]
    have h1 := part_z0 of c false A made h.1.2 hm
    have h2 := partBs_z0 of l A _ h.2 h1.2
    exact ⟨by dsimp only; rw [z0Bs, h.1.1, h1.1, h2.1]; rfl, h2.2⟩
theorem partAs_z0 (of : Str) : ∀ (l : List Alt) (A : Str → Bool) (made : List Sup), z0As l = true → AllZ made → z0As (partAs of l A made).1 = true ∧ AllZ (partAs of l A made).2
  | [], _, made, _, hm => by rw [partAs]; exact ⟨rfl, hm⟩
  | .mk f n s vs c :: l, A, made, h, hm => by
    simp only [z0As, Bool.and_eq_true] at h
    rw [partAs]
    have h1 := part_z0 of c false (ext A vs) made h.1 hm
    have h2 := partAs_z0 of l A _ h.2 h1.2
    exact ⟨by dsimp only; rw [z0As, h1.1, h2.1]; rfl, h2.2⟩
end
theorem liftR_z0 {l : List Bind} (h : ∀ b ∈ l, z0R b.body = true) : ∀ x ∈ liftR l, z0R x.body = true := by
  intro x hx
  obtain ⟨b, hb, hx'⟩ := List.mem_flatMap.1 hx
  have := part_z0 b.name b.body true (fun x => decide (x ∈ chainN b.body)) [] (h b hb) (fun x hx => by simp at hx)
  rcases List.mem_cons.1 hx' with rfl | hx'
  · exact this.1
  · exact this.2 x hx'
mutual
theorem erase_z0 : ∀ c : Core, z0R (eraseR c) = true
  | .mk f n s t ks bs al => by
    have hk := erase_z0s ks
    rw [eraseR]
    split
    · cases ks with
      | nil => rename_i h; simp at h
      | cons k ks => rw [eraseCs] at hk ⊢; rw [z0Cs, Bool.and_eq_true] at hk; exact hk.1
    · rw [z0R, hk, erase_z0b bs, erase_z0a al]; rfl
theorem erase_z0s : ∀ l : List Core, z0Cs (eraseCs l) = true
  | [] => by rw [eraseCs, z0Cs]
  | c :: l => by rw [eraseCs, z0Cs, erase_z0 c, erase_z0s l]; rfl
theorem erase_z0b : ∀ l : List Bind, z0Bs (eraseBs l) = true
  | [] => by rw [eraseBs, z0Bs]
  | .mk s t c :: l => by rw [eraseBs, eraseB, z0Bs, erase_z0 c, erase_z0b l]; rfl
theorem erase_z0a : ∀ l : List Alt, z0As (eraseAs l) = true
  | [] => by rw [eraseAs, z0As]
  | .mk f n s v c :: l => by rw [eraseAs, eraseA, z0As, erase_z0 c, erase_z0a l]; rfl
end
end Go.Proofs.YtojcjjjpniimiaaDoor

/- CORE OF A TYPE, erased: what the program needs to lift it. -/
namespace Go.Proofs.YtojcjjjpniimiaaDoor
open Go Go.AM
set_option maxRecDepth 20000

theorem vsum6 : ∀ l : List Str, (∀ s ∈ l, s ∈ nm6) → l.length ≤ 2 → (l.map fun v => 1 + v.length).sum ≤ 8 := by
  intro l h hl
  match l, hl with
  | [], _ => simp
  | [a], _ => have := nm6_len a (h a (by simp)); simp; omega
  | [a, b], _ => have := nm6_len a (h a (by simp)); have := nm6_len b (h b (by simp)); simp; omega
theorem primL_len : ∀ s ∈ primL, s.length ≤ 3 := by decide
theorem all6 {vs : List Str} (h : ∀ x ∈ vs, x ∈ nm6) : vs.all (fun s => decide (s ∈ nm6)) = true := List.all_eq_true.2 fun x hx => decide_eq_true (h x hx)
/-- Core that is made, and what is left of it without types. -/
theorem GC.facts {m : Nat} {c : Core} (h : GC m c) : csize c ≤ m ∧ csize (eraseR c) ≤ m ∧ wfR (eraseR c) = true ∧ nmR (eraseR c) = true ∧ 4 * lamsN (eraseR c) ≤ m := by
  induction h with
  | var h => have := nm6_len _ h; simp [eraseR, eraseCs, eraseBs, eraseAs, csize, csizes, bsizes, asizes, wfR, wfCs, wfBs, wfAs, nmR, nmCs, nmBs, nmAs, lamsN, lamsCs, lamsBs, lamsAs]; omega
  | con h => simp [eraseR, eraseCs, eraseBs, eraseAs, csize, csizes, bsizes, asizes, wfR, wfCs, wfBs, wfAs, nmR, nmCs, nmBs, nmAs, lamsN, lamsCs, lamsBs, lamsAs]; omega
  | int h => simp [eraseR, eraseCs, eraseBs, eraseAs, csize, csizes, bsizes, asizes, wfR, wfCs, wfBs, wfAs, nmR, nmCs, nmBs, nmAs, lamsN, lamsCs, lamsBs, lamsAs]
  | app ha hb i1 i2 =>
    obtain ⟨a1, a2, a3, a4, a5⟩ := i1
    obtain ⟨b1, b2, b3, b4, b5⟩ := i2
    simp [eraseR, eraseCs, eraseBs, eraseAs, csize, csizes, bsizes, asizes, wfR, wfCs, wfBs, wfAs, nmR, nmCs, nmBs, nmAs, lamsN, lamsCs, lamsBs, lamsAs, a3, a4, b3, b4]; omega
  | lam h ht hk ha i1 =>
    obtain ⟨a1, a2, a3, a4, a5⟩ := i1
    have := nm6_len _ h
    simp [eraseR, eraseCs, eraseBs, eraseAs, csize, csizes, bsizes, asizes, wfR, wfCs, wfBs, wfAs, nmR, nmCs, nmBs, nmAs, lamsN, lamsCs, lamsBs, lamsAs, a3, a4, h]; omega
  | tapp ht hk ha i1 =>
    obtain ⟨a1, a2, a3, a4, a5⟩ := i1
    simp [eraseR, eraseCs, csize, csizes, bsizes, asizes, a3, a4]; omega
  | tlam h ha i1 =>
    obtain ⟨a1, a2, a3, a4, a5⟩ := i1
    simp [eraseR, eraseCs, csize, csizes, bsizes, asizes, a3, a4]; omega
  | lt h ht hk ha hb i1 i2 =>
    obtain ⟨a1, a2, a3, a4, a5⟩ := i1
    obtain ⟨b1, b2, b3, b4, b5⟩ := i2
    have := nm6_len _ h
    simp [eraseR, eraseCs, eraseBs, eraseB, eraseAs, csize, csizes, bsize, bsizes, asizes, wfR, wfCs, wfBs, wfAs, nmR, nmCs, nmBs, nmAs, lamsN, lamsCs, lamsBs, lamsAs, a3, a4, b3, b4, h, show tz zTy = true from rfl]; omega
  | case1 ht hk ha hb h1 h2 h3 h4 h5 i1 i2 =>
    obtain ⟨a1, a2, a3, a4, a5⟩ := i1
    obtain ⟨b1, b2, b3, b4, b5⟩ := i2
    have hv := vsum6 _ h4 h5
    have ha6 := all6 h4
    simp [eraseR, eraseCs, eraseBs, eraseAs, eraseA, csize, csizes, bsizes, asize, asizes, wfR, wfCs, wfBs, wfAs, nmR, nmCs, nmBs, nmAs, lamsN, lamsCs, lamsBs, lamsAs, a3, a4, b3, b4, ha6] at hv ⊢
    exact ⟨by omega, by omega, by omega⟩
  | case2 ht hk ha hb hc h1 h2 h3 h4 h5 h1' h2' h3' h4' h5' i1 i2 i3 =>
    obtain ⟨a1, a2, a3, a4, a5⟩ := i1
    obtain ⟨b1, b2, b3, b4, b5⟩ := i2
    obtain ⟨c1, c2, c3, c4, c5⟩ := i3
    have hv := vsum6 _ h4 h5
    have ha6 := all6 h4
    have hv' := vsum6 _ h4' h5'
    have ha6' := all6 h4'
    simp [eraseR, eraseCs, eraseBs, eraseAs, eraseA, csize, csizes, bsizes, asize, asizes, wfR, wfCs, wfBs, wfAs, nmR, nmCs, nmBs, nmAs, lamsN, lamsCs, lamsBs, lamsAs, a3, a4, b3, b4, c3, c4, ha6, ha6'] at hv hv' ⊢
    exact ⟨by omega, by omega, by omega⟩
  | prim h ha hb i1 i2 =>
    obtain ⟨a1, a2, a3, a4, a5⟩ := i1
    obtain ⟨b1, b2, b3, b4, b5⟩ := i2
    have := primL_len _ h
    simp [eraseR, eraseCs, eraseBs, eraseAs, csize, csizes, bsizes, asizes, wfR, wfCs, wfBs, wfAs, nmR, nmCs, nmBs, nmAs, lamsN, lamsCs, lamsBs, lamsAs, a3, a4, b3, b4]; omega
  | fail ht hk => simp [eraseR, eraseCs, eraseBs, eraseAs, csize, csizes, bsizes, asizes, wfR, wfCs, wfBs, wfAs, nmR, nmCs, nmBs, nmAs, lamsN, lamsCs, lamsBs, lamsAs]

/-- A bind of erased core. -/
structure EB (b : Bind) : Prop where
  sz : csize b.body ≤ 110000
  wf : wfR b.body = true
  nm : nmR b.body = true
  z0 : z0R b.body = true
  lams : lamsN b.body ≤ 27500
  len : b.name.length ≤ 3
theorem EB.pok {b : Bind} (h : EB b) : POk b := by
  obtain ⟨c1, c2, c3⟩ := nm_chain _ b.body (Nat.le_refl _) h.wf h.nm
  have h1 := h.sz
  have h2 := h.lams
  have h3 := h.len
  exact ⟨⟨h.wf, by omega, by omega⟩, .inr ⟨c2, fun s hs => c1 s (of_decide_eq_true hs)⟩, by omega, by omega⟩
theorem EB.lift {b : Bind} (h : EB b) : (liftB b).length ≤ 27501 ∧ ∀ x ∈ liftB b, z0R x.body = true ∧ csize x.body ≤ 4000000 ∧ x.params.length ≤ 4000000 := by
  have hz := liftR_z0 (l := [b]) (fun x hx => by rw [List.mem_singleton.1 hx]; exact h.z0)
  have e1 : liftR [b] = liftB b := by unfold liftR; simp
  rw [e1] at hz
  obtain ⟨w1, w3⟩ := And.intro h.wf h.nm
  obtain ⟨c1, c2, c3⟩ := nm_chain _ b.body (Nat.le_refl _) w1 w3
  obtain ⟨x1, x2, x3, x4, x5, x6⟩ := wf_chain _ b.body (Nat.le_refl _) w1
  have hs := h.sz
  have hl := h.lams
  have hfew := part_few b.name (chainB b.body) false (fun x => decide (x ∈ chainN b.body)) []
  obtain ⟨k1, k2⟩ := part_sz (of := b.name) (by have := h.len; unfold Sml; omega) (chainB b.body) false (fun x => decide (x ∈ chainN b.body)) [] x2 c2 (by omega) (fun x hx => c1 x (of_decide_eq_true hx)) (fun x hx => by simp at hx)
  rw [liftB_eq w1] at hz ⊢
  generalize partR b.name false (chainB b.body) (fun x => decide (x ∈ chainN b.body)) [] = r at k1 k2 hfew hz ⊢
  rw [msum] at k1
  simp only [List.length_nil] at hfew
  refine ⟨by rw [List.length_cons]; omega, fun x hx => ⟨hz x hx, ?_⟩⟩
  rcases List.mem_cons.1 hx with rfl | hx
  · have hpl : (paramsR (chainN b.body)).length = (chainN b.body).length := paramsTo_len _ 0
    exact ⟨by show csize r.1 ≤ _; omega, by show (paramsR (chainN b.body)).length ≤ _; omega⟩
  · have := msum_mem hx
    have := (k2 x hx).1
    exact ⟨by omega, by omega⟩
end Go.Proofs.YtojcjjjpniimiaaDoor

/- LiftApart: the walk. -/
namespace Go.Proofs.YtojcjjjpniimiaaDoor
open Go Go.AM
set_option maxRecDepth 20000
set_option maxHeartbeats 4000000

def encL (x : List Int) : List C := [.sl 1 (x.map encI)]
def anames : List Str := [[102], [103], [104]]
/-- The law's binds. -/
def abinds (cs : Nat → Core) (k : Nat) : List Bind := (List.range k).map fun i => .mk (anames[i]?.getD []) zTy (eraseR (cs i))
theorem abinds_step (cs : Nat → Core) (k : Nat) : abinds cs (k + 1) = abinds cs k ++ [.mk (anames[k]?.getD []) zTy (eraseR (cs k))] := by
  unfold abinds
  rw [List.range_succ, List.map_append]; rfl
theorem abinds_len (cs : Nat → Core) (k : Nat) : (abinds cs k).length = k := by unfold abinds; simp
theorem abinds_eb {cs : Nat → Core} {k : Nat} (hk : k ≤ 3) (h : ∀ i, i < k → ∃ m, GC m (cs i) ∧ m ≤ 110000) : ∀ b ∈ abinds cs k, EB b := by
  intro b hb
  obtain ⟨i, hi, rfl⟩ := List.mem_map.1 hb
  have hi := List.mem_range.1 hi
  obtain ⟨m, hg, hm⟩ := h i hi
  obtain ⟨f1, f2, f3, f4, f5⟩ := hg.facts
  refine ⟨by show csize (eraseR (cs i)) ≤ _; omega, f3, f4, erase_z0 _, by show lamsN (eraseR (cs i)) ≤ _; omega, ?_⟩
  have : i = 0 ∨ i = 1 ∨ i = 2 := by omega
  rcases this with rfl | rfl | rfl <;> exact (by decide : (1 : Nat) ≤ 3)
theorem alift_len {cs : Nat → Core} : ∀ {k : Nat}, k ≤ 3 → (∀ i, i < k → ∃ m, GC m (cs i) ∧ m ≤ 110000) → (liftR (abinds cs k)).length ≤ k * 27501 := by
  intro k hk h
  have hb := abinds_eb hk h
  have hl := abinds_len cs k
  generalize abinds cs k = L at hb hl
  subst hl
  clear hk h
  induction L with
  | nil => simp [liftR]
  | cons b L ih =>
    have h1 := (hb b List.mem_cons_self).lift.1
    have h2 := ih fun x hx => hb x (List.mem_cons_of_mem _ hx)
    unfold liftR at h2 ⊢
    rw [List.flatMap_cons, List.length_append, List.length_cons]
    omega
theorem c_LiftApart (l : List (List Int)) (hl : Fits l) (hn : ∀ x ∈ l, Nums x ∧ Fits x) :
    ImpC Tryd.prog 5 [.one (.c (.sl 1 (l.map encL)))] [] (B true) [] := by
  unfold Fits at hl
  have hT : ∀ i : Nat, ∃ p : Core × Ty, ∀ x, l[i]? = some x → (∃ m, GC m p.1 ∧ m ≤ 110000) ∧ ImpC Tryd.prog 18 [.one (.c (.sl 1 (x.map encI)))] [] (.tup [.pa (encCore p.1), tyV p.2]) [] := fun i => by
    cases hx : l[i]? with
    | none => exact ⟨(zCore, zTy), fun x h => by cases h⟩
    | some x =>
      obtain ⟨n1, n2⟩ := hn x (List.mem_of_getElem? hx)
      obtain ⟨c, t, m, g, hm, _, hc⟩ := e_typed x n1 n2
      exact ⟨(c, t), fun y hy => by cases hy; exact ⟨⟨m, g, hm⟩, hc⟩⟩
  obtain ⟨ps, hps⟩ := Classical.axiomOfChoice hT
  have hcs : ∀ k, k ≤ l.length → ∀ i, i < k → ∃ m, GC m (ps i).1 ∧ m ≤ 110000 := fun k hk i hi => by
    obtain ⟨x, hx⟩ := get_of_lt (l := l) (k := i) (by omega)
    exact (hps i x hx).1
  have hlv := c_lives
  have hkl : (l.map encL).length = l.length := List.length_map _
  refine impC (n := 50) tok Tryd.func5 rfl rfl rfl ?_
  refine awp_seq (ag [] rfl ?_)
  refine awp_seq (ag [] rfl ?_)
  refine awp_seq (ag [] rfl ?_)
  refine AWp.sub (Sub.own (t := 3) (id := 600) 46 15 rfl rfl) ?_
  refine AWp.sub (Sub.own (t := 4) (id := 601) 40 12 rfl rfl) ?_
  refine awp_seq (awp_seq (ag [] rfl ?_))
  refine awp_block ?_
  refine awp_loop (fun i : Nat => mk [(0, .one (.c (.sl 1 (l.map encL)))), (3, .one (.hs 600 0 (abinds (fun j => (ps j).1) i).length (abinds (fun j => (ps j).1) i).length)), (4, .one (.hs 601 0 (liftR (abinds (fun j => (ps j).1) i)).length (liftR (abinds (fun j => (ps j).1) i)).length)), (5, I .i64 i)] [(600, .arr 46 15 ((abinds (fun j => (ps j).1) i).map encBind) 0), (601, .arr 40 12 ((liftR (abinds (fun j => (ps j).1) i)).map encSup) 0)]) (fun i => i ≤ l.length ∧ i ≤ 3) (fun i => l.length - i) 0 ⟨Nat.zero_le _, Nat.zero_le _⟩ sl ?_
  rintro i ⟨hi, hi3⟩
  have hst := abinds_step (fun j => (ps j).1) i
  have hln := abinds_len (fun j => (ps j).1) i
  have hll := alift_len (cs := fun j => (ps j).1) hi3 (hcs i hi)
  refine awp_seq (awp_seq (agF 5 [] rfl rfl rfl ?_))
  refine awp_cond rfl (fun hb => ?_) (fun hb => ?_)
  · have hlt : i < l.length ∧ i < 3 := by
      simp at hb
      omega
    obtain ⟨x, hx⟩ := get_of_lt hlt.1
    have hx' := getEnc encL hx
    obtain ⟨s, hs⟩ := get_of_lt (show i < anames.length from hlt.2)
    have hs' := getEnc encS hs
    obtain ⟨⟨m, hg, hm⟩, hty⟩ := hps i x hx
    obtain ⟨f1, f2, f3, f4, f5⟩ := hg.facts
    have her : ImpC Tryd.prog 12 [.pa (encCore (ps i).1)] [] (.pa (encCore (eraseR (ps i).1))) [] := c_erase _ (ps i).1 (Nat.le_refl _) (by omega)
    rw [hs] at hst
    dsimp only [Option.getD] at hst
    have heb := abinds_eb (cs := fun j => (ps j).1) (k := i + 1) (by omega) (hcs (i + 1) (by omega)) (.mk s zTy (eraseR (ps i).1)) (by rw [hst]; simp)
    have hlf : ImpC Tryd.prog 17 [.one (.c (.sl 15 ([Bind.mk s zTy (eraseR (ps i).1)].map encBind)))] [] (supsV (liftR [Bind.mk s zTy (eraseR (ps i).1)])) [] := ImpC.plain (c_Lift [Bind.mk s zTy (eraseR (ps i).1)] (by simp) fun b hb => by rw [List.mem_singleton.1 hb]; exact heb.pok) (List.length_map _).symm
    have hlr : liftR (abinds (fun j => (ps j).1) (i + 1)) = liftR (abinds (fun j => (ps j).1) i) ++ liftR [Bind.mk s zTy (eraseR (ps i).1)] := by rw [hst]; unfold liftR; rw [List.flatMap_append]
    have hl1 : (liftR [Bind.mk s zTy (eraseR (ps i).1)]).length ≤ 27501 := by
      have := heb.lift.1
      unfold liftR; simp; exact this
    generalize hA1 : abinds (fun j => (ps j).1) (i + 1) = A1 at hst hlr
    generalize abinds (fun j => (ps j).1) i = A0 at hst hlr hln hll ⊢
    generalize (ps i).2 = t at hty
    generalize (ps i).1 = c at hty her hst hlr hl1 hlf
    generalize eraseR c = e at her hst hlr hl1 hlf
    generalize liftR [Bind.mk s zTy e] = S1 at hlr hl1 hlf
    generalize liftR A0 = S0 at hlr hll ⊢
    have hA0 : (A0.map encBind).length = A0.length := List.length_map _
    have hS0 : (S0.map encSup).length = S0.length := List.length_map _
    have hS1 : (S1.map encSup).length = S1.length := List.length_map _
    refine awp_skip ?_
    refine awp_seq (awp_block ?_)
    refine awp_seq (awp_rg mixed ?_)
    refine ak 4 [(2, .row i (encL x))] rfl ?_
    refine kc hty ?_
    refine ak 7 [] rfl ?_
    refine az ?_
    refine awp_seq (awp_rg mixed ?_)
    refine ak 5 [(2, .row i []), (3, .row i (encS s))] rfl ?_
    refine kc her ?_
    refine ak 3 [] rfl ?_
    refine az ?_
    refine awp_seq (ag [(2, .all)] rfl ?_)
    refine awp_rg mixed ?_
    refine ak 3 [(2, .all)] rfl ?_
    refine kc hlf ?_
    refine ak 2 [] rfl ?_
    refine az ?_
    refine ag [] rfl ?_
    refine ⟨i + 1, ⟨hlt.1, hlt.2⟩, by dsimp only; omega, ?_⟩
    dsimp only
    rw [hA1, hlr, hst]
    have r1 : A0.map encBind ++ [encBind (.mk s zTy e)] = (A0 ++ [Bind.mk s zTy e]).map encBind := by rw [List.map_append]; rfl
    have r2 : S0.map encSup ++ S1.map encSup = (S0 ++ S1).map encSup := by rw [List.map_append]
    exact sl (he := ⟨rfl, Go.AM.hs_ren (by simp) (by simp), Go.AM.hs_ren (by simp) (by simp), rfl, trivial⟩) (hh := ⟨⟨_, rfl, .arrS r1⟩, ⟨_, rfl, .arrS r2⟩, trivial⟩)
  · refine awp_exit ?_
    have hse := c_seq (liftR (abinds (fun j => (ps j).1) i)) (by omega) fun x hx => by
      obtain ⟨b, hb, hx'⟩ := List.mem_flatMap.1 hx
      exact (abinds_eb hi3 (hcs i hi) b hb).lift.2 x hx'
    have hlf : ImpC Tryd.prog 17 [.one (.c (.sl 15 ((abinds (fun j => (ps j).1) i).map encBind)))] [] (supsV (liftR (abinds (fun j => (ps j).1) i))) [] := ImpC.plain (c_Lift (abinds (fun j => (ps j).1) i) (by omega) fun b hb => (abinds_eb hi3 (hcs i hi) b hb).pok) (List.length_map _).symm
    generalize abinds (fun j => (ps j).1) i = A0 at hse hlf hln hll ⊢
    generalize liftR A0 = S0 at hse hlf hll ⊢
    have hA0 : (A0.map encBind).length = A0.length := List.length_map _
    have hS0 : (S0.map encSup).length = S0.length := List.length_map _
    refine AWp.sub (Sub.freeze (id := 600) rfl) ?_
    refine AWp.sub (Sub.freeze (id := 601) rfl) ?_
    refine awp_seq (awp_rg mixed ?_)
    refine ak 1 [] rfl ?_
    refine kc hlf ?_
    refine ak 1 [] rfl ?_
    refine kc hse ?_
    refine ak 1 [] rfl ?_
    refine kcG hlv ?_
    refine ak 2 [] rfl ?_
    refine az ?_
    exact awp_ret rtT
end Go.Proofs.YtojcjjjpniimiaaDoor
