/-
  Texts Lz1, Lz2 in one.
-/
import Derived.Test.YtnookidjdjhfhaaGreatDoorM10
/- WHAT IS MADE OF NUMBERS: its shape, and how much of it there is (as in La15, La19, La27, La37, La38, for seats without lift). -/
namespace Go.Proofs.YtnookidjdjhfhaaGreatDoor
open Go Go.AM
set_option maxRecDepth 20000

/-- No type. -/
def tz (t : Ty) : Bool := decide (t.form = 0) && (decide (t.n = 0) && (t.name.isEmpty && t.args.isEmpty))
theorem tz_eq {t : Ty} (h : tz t = true) : t = zTy := by
  obtain ⟨f, n, s, a⟩ := t
  simp only [tz, Bool.and_eq_true, decide_eq_true_eq, List.isEmpty_iff] at h
  obtain ⟨h1, h2, h3, h4⟩ := h
  simp only [Ty.form, Ty.n, Ty.name, Ty.args] at h1 h2 h3 h4
  subst h1 h2 h3 h4
  rfl
mutual
def lamsN : Core → Nat
  | .mk f _ _ _ ks bs al => (if f = 5 then 1 else 0) + lamsCs ks + lamsBs bs + lamsAs al
def lamsCs : List Core → Nat
  | [] => 0
  | c :: l => lamsN c + lamsCs l
def lamsBs : List Bind → Nat
  | [] => 0
  | .mk _ _ c :: l => lamsN c + lamsBs l
def lamsAs : List Alt → Nat
  | [] => 0
  | .mk _ _ _ _ c :: l => lamsN c + lamsAs l
end
mutual
/-- No types. -/
def z0R : Core → Bool
  | .mk _ _ _ t ks bs al => tz t && (z0Cs ks && (z0Bs bs && z0As al))
def z0Cs : List Core → Bool
  | [] => true
  | c :: l => z0R c && z0Cs l
def z0Bs : List Bind → Bool
  | [] => true
  | .mk _ t c :: l => (tz t && z0R c) && z0Bs l
def z0As : List Alt → Bool
  | [] => true
  | .mk _ _ _ _ c :: l => z0R c && z0As l
end
theorem z0Cs_mem : ∀ {l : List Core}, z0Cs l = true → ∀ x ∈ l, z0R x = true
  | c :: l, h, x, hx => by
    rw [z0Cs, Bool.and_eq_true] at h
    rcases List.mem_cons.1 hx with rfl | hx
    · exact h.1
    · exact z0Cs_mem h.2 x hx
theorem z0Bs_mem : ∀ {l : List Bind}, z0Bs l = true → ∀ x ∈ l, x.ty = zTy ∧ z0R x.body = true
  | .mk s t c :: l, h, x, hx => by
    simp only [z0Bs, Bool.and_eq_true] at h
    rcases List.mem_cons.1 hx with rfl | hx
    · exact ⟨tz_eq h.1.1, h.1.2⟩
    · exact z0Bs_mem h.2 x hx
theorem z0As_mem : ∀ {l : List Alt}, z0As l = true → ∀ x ∈ l, z0R x.body = true
  | .mk f n s v c :: l, h, x, hx => by
    rw [z0As, Bool.and_eq_true] at h
    rcases List.mem_cons.1 hx with rfl | hx
    · exact h.1
    · exact z0As_mem h.2 x hx
def nmB (s : Str) : Bool := decide (s ∈ nmL)
mutual
/-- Core as it is made. -/
def rawR : Core → Bool
  | .mk f _ s _ ks bs al => (if f = 5 then nmB s && (!ks.isEmpty && bs.isEmpty) else if f = 6 ∨ f = 7 then !ks.isEmpty else if f = 1 then nmB s && (ks.isEmpty && (bs.isEmpty && al.isEmpty)) else true) && (rawCs ks && (rawBs bs && rawAs al))
def rawCs : List Core → Bool
  | [] => true
  | c :: l => rawR c && rawCs l
def rawBs : List Bind → Bool
  | [] => true
  | .mk s _ c :: l => (nmB s && rawR c) && rawBs l
def rawAs : List Alt → Bool
  | [] => true
  | .mk _ _ _ v c :: l => (v.all nmB && rawR c) && rawAs l
end
mutual
/-- Core as it is erased. -/
def gR : Core → Bool
  | .mk f _ s t ks bs al => (decide (f ≠ 6) && (decide (f ≠ 7) && tz t)) && ((if f = 5 then nmB s && (!ks.isEmpty && bs.isEmpty) else if f = 1 then nmB s && (ks.isEmpty && (bs.isEmpty && al.isEmpty)) else true) && (gCs ks && (gBs bs && gAs al)))
def gCs : List Core → Bool
  | [] => true
  | c :: l => gR c && gCs l
def gBs : List Bind → Bool
  | [] => true
  | .mk s t c :: l => ((nmB s && tz t) && gR c) && gBs l
def gAs : List Alt → Bool
  | [] => true
  | .mk _ _ _ v c :: l => (v.all nmB && gR c) && gAs l
end
mutual
theorem raw_g : ∀ c, rawR c = true → gR (eraseR c) = true
  | .mk f n s t ks bs al, h => by
    rw [rawR] at h
    simp only [Bool.and_eq_true] at h
    obtain ⟨h1, h2, h3, h4⟩ := h
    have k2 := raw_gs ks h2
    rw [eraseR]
    by_cases h67 : f = 6 ∨ f = 7
    · have h5 : ¬ f = 5 := by omega
      rw [if_neg h5, if_pos h67] at h1
      cases ks with
      | nil => simp at h1
      | cons k ks =>
        rw [if_pos ⟨h67, by simp⟩]
        rw [eraseCs, gCs, Bool.and_eq_true] at k2
        rw [eraseCs]
        exact k2.1
    · rw [if_neg (fun h => h67 h.1), gR]
      rw [if_neg h67] at h1
      have e1 : decide (f ≠ 6) = true := decide_eq_true fun e => h67 (.inl e)
      have e2 : decide (f ≠ 7) = true := decide_eq_true fun e => h67 (.inr e)
      have e3 : tz zTy = true := rfl
      simp only [e1, e2, e3, Bool.and_eq_true, true_and]
      refine ⟨?_, k2, raw_gb bs h3, raw_ga al h4⟩
      have n1 : (eraseCs ks).isEmpty = ks.isEmpty := by cases ks <;> simp [eraseCs]
      have n2 : (eraseBs bs).isEmpty = bs.isEmpty := by cases bs <;> simp [eraseBs]
      have n3 : (eraseAs al).isEmpty = al.isEmpty := by cases al <;> simp [eraseAs]
      rw [n1, n2, n3]
      exact h1
theorem raw_gs : ∀ l, rawCs l = true → gCs (eraseCs l) = true
  | [], _ => by rw [eraseCs, gCs]
  | c :: l, h => by
    rw [rawCs, Bool.and_eq_true] at h
    rw [eraseCs, gCs, raw_g c h.1, raw_gs l h.2]; rfl
theorem raw_gb : ∀ l, rawBs l = true → gBs (eraseBs l) = true
  | [], _ => by rw [eraseBs, gBs]
  | .mk s t c :: l, h => by
    simp only [rawBs, Bool.and_eq_true] at h
    rw [eraseBs, eraseB, gBs, raw_g c h.1.2, raw_gb l h.2, h.1.1]; rfl
theorem raw_ga : ∀ l, rawAs l = true → gAs (eraseAs l) = true
  | [], _ => by rw [eraseAs, gAs]
  | .mk f n s v c :: l, h => by
    simp only [rawAs, Bool.and_eq_true] at h
    rw [eraseAs, eraseA, gAs, raw_g c h.1.2, raw_ga l h.2, h.1.1]; rfl
end
theorem nm_len : ∀ s ∈ nmL, s.length ≤ 3 := by decide
mutual
theorem erase_le : ∀ c, csize (eraseR c) ≤ csize c ∧ lamsN (eraseR c) ≤ lamsN c
  | .mk f n s t ks bs al => by
    obtain ⟨a1, a2⟩ := erase_les ks
    obtain ⟨b1, b2⟩ := erase_leb bs
    obtain ⟨d1, d2⟩ := erase_lea al
    rw [eraseR]
    split
    · rename_i h
      have h5 : ¬ f = 5 := by omega
      cases ks with
      | nil => simp at h
      | cons k ks =>
        rw [eraseCs, csizes, csizes] at a1
        rw [eraseCs, lamsCs, lamsCs] at a2
        rw [eraseCs]
        obtain ⟨k1, k2⟩ := erase_le k
        rw [csize, csizes, lamsN, lamsCs]
        show csize (eraseR k) ≤ _ ∧ lamsN (eraseR k) ≤ _
        omega
    · rw [csize, csize, lamsN, lamsN]
      omega
theorem erase_les : ∀ l, csizes (eraseCs l) ≤ csizes l ∧ lamsCs (eraseCs l) ≤ lamsCs l
  | [] => by rw [eraseCs]; exact ⟨Nat.le_refl _, Nat.le_refl _⟩
  | c :: l => by
    obtain ⟨h1, h2⟩ := erase_le c
    obtain ⟨h3, h4⟩ := erase_les l
    rw [eraseCs, csizes, csizes, lamsCs, lamsCs]; omega
theorem erase_leb : ∀ l, bsizes (eraseBs l) ≤ bsizes l ∧ lamsBs (eraseBs l) ≤ lamsBs l
  | [] => by rw [eraseBs]; exact ⟨Nat.le_refl _, Nat.le_refl _⟩
  | .mk s t c :: l => by
    obtain ⟨h1, h2⟩ := erase_le c
    obtain ⟨h3, h4⟩ := erase_leb l
    rw [eraseBs, eraseB, bsizes, bsizes, bsize, bsize, lamsBs, lamsBs]; omega
theorem erase_lea : ∀ l, asizes (eraseAs l) ≤ asizes l ∧ lamsAs (eraseAs l) ≤ lamsAs l
  | [] => by rw [eraseAs]; exact ⟨Nat.le_refl _, Nat.le_refl _⟩
  | .mk f n s v c :: l => by
    obtain ⟨h1, h2⟩ := erase_le c
    obtain ⟨h3, h4⟩ := erase_lea l
    rw [eraseAs, eraseA, asizes, asizes, asize, asize, lamsAs, lamsAs]; omega
end

theorem oneOf_in {l : List Str} {n : Int} (hl : 0 < l.length) : oneOf l n ∈ l := by
  obtain ⟨k, hk⟩ := Int.eq_ofNat_of_zero_le (around_lt n (k := l.length) (by omega)).1
  have hlt := (around_lt n (k := l.length) (by omega)).2
  have h1 : k < l.length := by omega
  have : oneOf l n = l[k] := by
    unfold oneOf
    rw [hk]
    simp [h1]
  rw [this]
  exact List.getElem_mem h1
theorem nm_in (n : Int) : oneOf nmL n ∈ nmL := oneOf_in (by decide)
theorem con_len (n : Int) : (oneOf conL n).length ≤ 4 := (by decide : ∀ s ∈ conL, s.length ≤ 4) _ (oneOf_in (by decide))
theorem prim_len (n : Int) : (oneOf primL n).length ≤ 4 := (by decide : ∀ s ∈ primL, s.length ≤ 4) _ (oneOf_in (by decide))
theorem tnm_len (n : Int) : (oneOf tnmL n).length ≤ 4 := (by decide : ∀ s ∈ tnmL, s.length ≤ 4) _ (oneOf_in (by decide))
theorem nmB_in (n : Int) : nmB (oneOf nmL n) = true := decide_eq_true (nm_in n)
theorem namesTo_in (n : Int) : ∀ i : Nat, ∀ s ∈ namesTo n i, s ∈ nmL
  | 0, s, h => by simp [namesTo] at h
  | i + 1, s, h => by
    rw [namesTo, addN] at h
    split at h
    · exact namesTo_in n i s h
    · rcases List.mem_append.1 h with h | h
      · exact namesTo_in n i s h
      · rw [List.mem_singleton.1 h]; exact nm_in _
theorem vsum_nm : ∀ l : List Str, (∀ s ∈ l, s ∈ nmL) → (l.map fun v => 1 + v.length).sum ≤ 4 * l.length
  | [], _ => by simp
  | s :: l, h => by
    have h1 := vsum_nm l fun x hx => h x (List.mem_cons_of_mem _ hx)
    have h2 := nm_len s (h s List.mem_cons_self)
    rw [List.map_cons, List.sum_cons, List.length_cons]
    omega
/-- What may be left: of the nodes that are not leaves. -/
def lf (left : Int) : Nat := (left - 1).toNat
/-- Core that is made of what was left: as it is made, and little. -/
structure MkG (c : Core) (left left' : Int) : Prop where
  raw : rawR c = true
  lams : lamsN c + lf left' ≤ lf left
  size : csize c + 100 * lf left' ≤ 100 * lf left + 7
def MkGs (g : List Int → Int → Mk) : Prop := ∀ l left, MkG (g l left).1 left (g l left).2.2
theorem rawBs_app : ∀ a b, rawBs (a ++ b) = (rawBs a && rawBs b)
  | [], b => by rw [List.nil_append, rawBs, Bool.true_and]
  | .mk s t c :: a, b => by rw [List.cons_append, rawBs, rawBs, rawBs_app a b]; simp only [Bool.and_assoc]
theorem rawAs_app : ∀ a b, rawAs (a ++ b) = (rawAs a && rawAs b)
  | [], b => by rw [List.nil_append, rawAs, Bool.true_and]
  | .mk f n s v c :: a, b => by rw [List.cons_append, rawAs, rawAs, rawAs_app a b]; simp only [Bool.and_assoc]
theorem bsizes_app : ∀ a b, bsizes (a ++ b) = bsizes a + bsizes b
  | [], b => by rw [List.nil_append, bsizes, Nat.zero_add]
  | x :: a, b => by rw [List.cons_append, bsizes, bsizes, bsizes_app a b, Nat.add_assoc]
theorem asizes_app : ∀ a b, asizes (a ++ b) = asizes a + asizes b
  | [], b => by rw [List.nil_append, asizes, Nat.zero_add]
  | x :: a, b => by rw [List.cons_append, asizes, asizes, asizes_app a b, Nat.add_assoc]
theorem lamsBs_app : ∀ a b, lamsBs (a ++ b) = lamsBs a + lamsBs b
  | [], b => by rw [List.nil_append, lamsBs, Nat.zero_add]
  | .mk s t c :: a, b => by rw [List.cons_append, lamsBs, lamsBs, lamsBs_app a b, Nat.add_assoc]
theorem lamsAs_app : ∀ a b, lamsAs (a ++ b) = lamsAs a + lamsAs b
  | [], b => by rw [List.nil_append, lamsAs, Nat.zero_add]
  | .mk f n s v c :: a, b => by rw [List.cons_append, lamsAs, lamsAs, lamsAs_app a b, Nat.add_assoc]
theorem bindsTo_g {g : List Int → Int → Mk} (h : MkGs g) (ns : List Str) (hns : ∀ s ∈ ns, s ∈ nmL) (l : List Int) (left : Int) : ∀ i : Nat, i ≤ ns.length → rawBs (bindsTo g ns l left i).1 = true ∧ lamsBs (bindsTo g ns l left i).1 + lf (bindsTo g ns l left i).2.2 ≤ lf left ∧ bsizes (bindsTo g ns l left i).1 + 100 * lf (bindsTo g ns l left i).2.2 ≤ 100 * lf left + 11 * i
  | 0, _ => by simp [bindsTo, rawBs, lamsBs, bsizes]
  | i + 1, hi => by
    obtain ⟨h1, h2, h3⟩ := bindsTo_g h ns hns l left i (by omega)
    obtain ⟨k1, k2, k3⟩ := h (typR 2 (bindsTo g ns l left i).2.1).2 (bindsTo g ns l left i).2.2
    have hs : (ns[i]?.getD []) ∈ nmL := by
      obtain ⟨s, hs⟩ := get_of_lt (l := ns) (by omega : i < ns.length)
      rw [hs]; exact hns s (List.mem_of_getElem? hs)
    have hsl := nm_len _ hs
    have hsb : nmB (ns[i]?.getD []) = true := decide_eq_true hs
    simp only [bindsTo]
    rw [rawBs_app, lamsBs_app, bsizes_app, rawBs, rawBs, lamsBs, lamsBs, bsizes, bsizes, bsize, h1, k1, hsb]
    refine ⟨rfl, by omega, by omega⟩
theorem altsTo_g {g : List Int → Int → Mk} (h : MkGs g) (n : Int) (l : List Int) (left : Int) : ∀ i : Nat, rawAs (altsTo g n l left i).1 = true ∧ lamsAs (altsTo g n l left i).1 + lf (altsTo g n l left i).2.2 ≤ lf left ∧ asizes (altsTo g n l left i).1 + 100 * lf (altsTo g n l left i).2.2 ≤ 100 * lf left + 24 * i
  | 0 => by simp [altsTo, rawAs, lamsAs, asizes]
  | i + 1 => by
    obtain ⟨h1, h2, h3⟩ := altsTo_g h n l left i
    obtain ⟨k1, k2, k3⟩ := h (namesR (altsTo g n l left i).2.1).2 (altsTo g n l left i).2.2
    have hni : ∀ s ∈ (namesR (altsTo g n l left i).2.1).1, s ∈ nmL := namesTo_in _ _
    have hnl := namesR_len (altsTo g n l left i).2.1
    have hvs := vsum_nm _ hni
    have hva : (namesR (altsTo g n l left i).2.1).1.all nmB = true := List.all_eq_true.2 fun s hs => decide_eq_true (hni s hs)
    have hcl := con_len (n / 14 + i)
    simp only [altsTo]
    rw [rawAs_app, lamsAs_app, asizes_app, h1]
    split
    · rw [rawAs, rawAs, lamsAs, lamsAs, asizes, asizes, asize, k1]
      refine ⟨rfl, by omega, ?_⟩
      simp only [List.length_nil, List.map_nil, List.sum_nil]
      omega
    · split
      · rw [rawAs, rawAs, lamsAs, lamsAs, asizes, asizes, asize, k1]
        refine ⟨rfl, by omega, ?_⟩
        simp only [List.length_nil, List.map_nil, List.sum_nil]
        omega
      · rw [rawAs, rawAs, lamsAs, lamsAs, asizes, asizes, asize, k1, hva]
        exact ⟨rfl, by omega, by omega⟩
theorem coreK_g {g : List Int → Int → Mk} (h : MkGs g) (n k : Int) (l : List Int) (left : Int) (hk : 4 ≤ k → 1 ≤ left) : MkG (coreK g n k l left).1 (left + 1) (coreK g n k l left).2.2 := by
  have hlf : lf left ≤ lf (left + 1) := by unfold lf; omega
  have hlk : 4 ≤ k → lf left + 1 = lf (left + 1) := fun h => by have := hk h; unfold lf; omega
  have n1 := nm_len _ (nm_in (n / 14))
  have n2 := con_len (n / 14)
  have n3 := prim_len (n / 14)
  have n4 := tnm_len (n / 14)
  have nb := nmB_in (n / 14)
  obtain ⟨g1, g2, g3⟩ := h l left
  obtain ⟨h1, h2, h3⟩ := h (g l left).2.1 (g l left).2.2
  obtain ⟨u1, u2, u3⟩ := h (typR 2 l).2 left
  unfold coreK
  split
  · refine ⟨by simp [rawR, rawCs, rawBs, rawAs, nb], ?_, ?_⟩ <;> simp only [lamsN, lamsCs, lamsBs, lamsAs, csize, csizes, bsizes, asizes] <;> simp <;> omega
  split
  · refine ⟨by simp [rawR, rawCs, rawBs, rawAs], ?_, ?_⟩ <;> simp only [lamsN, lamsCs, lamsBs, lamsAs, csize, csizes, bsizes, asizes] <;> simp <;> omega
  split
  · refine ⟨by simp [rawR, rawCs, rawBs, rawAs], ?_, ?_⟩ <;> simp only [lamsN, lamsCs, lamsBs, lamsAs, csize, csizes, bsizes, asizes] <;> simp <;> omega
  have hl := hlk (by omega)
  split
  · refine ⟨by simp [rawR, rawCs, rawBs, rawAs, g1, h1], ?_, ?_⟩ <;> simp only [lamsN, lamsCs, lamsBs, lamsAs, csize, csizes, bsizes, asizes] <;> simp <;> omega
  split
  · refine ⟨by simp [rawR, rawCs, rawBs, rawAs, u1, nb], ?_, ?_⟩ <;> simp only [lamsN, lamsCs, lamsBs, lamsAs, csize, csizes, bsizes, asizes] <;> simp <;> omega
  split
  · refine ⟨by simp [rawR, rawCs, rawBs, rawAs, u1], ?_, ?_⟩ <;> simp only [lamsN, lamsCs, lamsBs, lamsAs, csize, csizes, bsizes, asizes] <;> simp <;> omega
  split
  · refine ⟨by simp [rawR, rawCs, rawBs, rawAs, g1], ?_, ?_⟩ <;> simp only [lamsN, lamsCs, lamsBs, lamsAs, csize, csizes, bsizes, asizes] <;> simp <;> omega
  split
  · have hnl := namesR_len l
    obtain ⟨b1, b2, b3⟩ := bindsTo_g h (namesR l).1 (namesTo_in _ _) (namesR l).2 left (namesR l).1.length (Nat.le_refl _)
    generalize bindsTo g (namesR l).1 (namesR l).2 left (namesR l).1.length = r at b1 b2 b3 ⊢
    obtain ⟨c1, c2, c3⟩ := h r.2.1 r.2.2
    refine ⟨by simp [rawR, rawCs, rawAs, c1, b1], ?_, ?_⟩ <;> simp only [lamsN, lamsCs, lamsAs, csize, csizes, asizes] <;> simp <;> omega
  split
  · obtain ⟨b1, b2, b3⟩ := altsTo_g h n (g (typR 2 l).2 left).2.1 (g (typR 2 l).2 left).2.2 (n / 14 % 4).toNat
    have hi : (n / 14 % 4).toNat ≤ 3 := by omega
    dsimp only
    generalize altsTo g n (g (typR 2 l).2 left).2.1 (g (typR 2 l).2 left).2.2 (n / 14 % 4).toNat = r at b1 b2 b3 ⊢
    refine ⟨by simp [rawR, rawCs, rawBs, u1, b1], ?_, ?_⟩ <;> simp only [lamsN, lamsCs, lamsBs, csize, csizes, bsizes] <;> simp <;> omega
  split
  · refine ⟨by simp [rawR, rawCs, rawBs, rawAs, g1, h1], ?_, ?_⟩ <;> simp only [lamsN, lamsCs, lamsBs, lamsAs, csize, csizes, bsizes, asizes] <;> simp <;> omega
  · refine ⟨by simp [rawR, rawCs, rawBs, rawAs], ?_, ?_⟩ <;> simp only [lamsN, lamsCs, lamsBs, lamsAs, csize, csizes, bsizes, asizes] <;> simp <;> omega
theorem coreR_g : ∀ f : Nat, MkGs (coreR f)
  | 0 => fun l left => by
    have h : MkGs (fun l left => ((.mk 0 0 [] zTy [] [] [], l, left) : Mk)) := fun l left => ⟨by simp [rawR, rawCs, rawBs, rawAs], by simp [lamsN, lamsCs, lamsBs, lamsAs], by simp [csize, csizes, bsizes, asizes]; omega⟩
    have := coreK_g h (nextR l).1 ((nextR l).1 % 4) (nextR l).2 (left - 1) (fun h => by omega)
    rw [Int.sub_add_cancel] at this
    exact this
  | f + 1 => fun l left => by
    have := coreK_g (coreR_g f) (nextR l).1 (if left - 1 < 1 then (nextR l).1 % 4 else (nextR l).1 % 14) (nextR l).2 (left - 1) (fun h => by
      split at h
      · omega
      · omega)
    rw [Int.sub_add_cancel] at this
    exact this
theorem made_raw (l : List Int) : rawR (madeR l) = true ∧ csize (madeR l) ≤ 3000 := by
  obtain ⟨h1, h2, h3⟩ := coreR_g 6 (l.take 60) 30
  have : lf 30 = 29 := rfl
  rw [this] at h2 h3
  unfold madeR
  exact ⟨h1, by omega⟩
/-- What is made of numbers, and erased: as it is erased, and little. -/
theorem made_g (l : List Int) : gR (eraseR (madeR l)) = true ∧ csize (madeR l) ≤ 3000 ∧ csize (eraseR (madeR l)) ≤ 3000 ∧ lamsN (eraseR (madeR l)) ≤ 29 := by
  obtain ⟨h1, h2, h3⟩ := coreR_g 6 (l.take 60) 30
  obtain ⟨e1, e2⟩ := erase_le (madeR l)
  have : lf 30 = 29 := rfl
  rw [this] at h2 h3
  unfold madeR at e1 e2 ⊢
  exact ⟨raw_g _ h1, by omega, by omega, by omega⟩
end Go.Proofs.YtnookidjdjhfhaaGreatDoor

/- GO'S LIBRARY: copies, what is contained; texts that are the same (as in La12, La22, La32, for seats without lift). -/
namespace Go.Proofs.YtnookidjdjhfhaaGreatDoor
open Go Go.AM
set_option maxRecDepth 20000

def strsV (l : List Str) : V := .one (.c (.sl 1 (l.map encS)))
theorem c_clone_string (l : List (List C)) (h : l.length ≤ 1000000) : ImpC Tryz.prog 20 [.one (.c (.sl 1 l))] [] (.one (.hs 710 0 l.length l.length)) [(710, .arr 9 1 l 0)] := by
  refine impC (n := 8) tok Tryz.func20 rfl rfl rfl ?_
  refine awp_seq (ag [] rfl ?_)
  refine awp_sl 0 rfl (fun hl => ?_) ?_
  · subst hl
    refine awp_seq (awp_seq (ag [] rfl ?_))
    refine awp_cond rfl (fun _ => ?_) (fun hb => by cases hb)
    refine awp_seq (ag [] rfl ?_)
    refine AWp.sub (Sub.own (t := 2) (id := 710) 9 1 rfl rfl) ?_
    exact awp_ret rtT
  · refine awp_seq (awp_seq (ag [] rfl ?_))
    refine awp_cond rfl (fun hb => by cases hb) (fun _ => ?_)
    refine awp_skip ?_
    refine awp_seq (ag [(0, .id 710)] rfl ?_)
    refine AWp.sub (st2 := mk [(2, .one (.hs 710 0 l.length l.length))] [(710, .arr 9 1 l 0)]) sl ?_
    exact awp_ret rtT
theorem c_clone_binds (l : List (List C)) (h : l.length ≤ 1000000) : ImpC Tryz.prog 63 [.one (.c (.sl 15 l))] [] (.one (.hs 701 0 l.length l.length)) [(701, .arr 35 15 l 0)] := by
  refine impC (n := 8) tok Tryz.func63 rfl rfl rfl ?_
  refine awp_seq (ag [] rfl ?_)
  refine awp_sl 0 rfl (fun hl => ?_) ?_
  · subst hl
    refine awp_seq (awp_seq (ag [] rfl ?_))
    refine awp_cond rfl (fun _ => ?_) (fun hb => by cases hb)
    refine awp_seq (ag [] rfl ?_)
    refine AWp.sub (Sub.own (t := 2) (id := 701) 35 15 rfl rfl) ?_
    exact awp_ret rtT
  · refine awp_seq (awp_seq (ag [] rfl ?_))
    refine awp_cond rfl (fun hb => by cases hb) (fun _ => ?_)
    refine awp_skip ?_
    refine awp_seq (ag [(0, .id 701)] rfl ?_)
    refine AWp.sub (st2 := mk [(2, .one (.hs 701 0 l.length l.length))] [(701, .arr 35 15 l 0)]) sl ?_
    exact awp_ret rtT
theorem c_clone_cores (l : List (List C)) (h : l.length ≤ 1000000) : ImpC Tryz.prog 62 [.one (.c (.sl 10 l))] [] (.one (.hs 702 0 l.length l.length)) [(702, .arr 30 10 l 0)] := by
  refine impC (n := 8) tok Tryz.func62 rfl rfl rfl ?_
  refine awp_seq (ag [] rfl ?_)
  refine awp_sl 0 rfl (fun hl => ?_) ?_
  · subst hl
    refine awp_seq (awp_seq (ag [] rfl ?_))
    refine awp_cond rfl (fun _ => ?_) (fun hb => by cases hb)
    refine awp_seq (ag [] rfl ?_)
    refine AWp.sub (Sub.own (t := 2) (id := 702) 30 10 rfl rfl) ?_
    exact awp_ret rtT
  · refine awp_seq (awp_seq (ag [] rfl ?_))
    refine awp_cond rfl (fun hb => by cases hb) (fun _ => ?_)
    refine awp_skip ?_
    refine awp_seq (ag [(0, .id 702)] rfl ?_)
    refine AWp.sub (st2 := mk [(2, .one (.hs 702 0 l.length l.length))] [(702, .arr 30 10 l 0)]) sl ?_
    exact awp_ret rtT
theorem c_clone_alts (l : List (List C)) (h : l.length ≤ 1000000) : ImpC Tryz.prog 64 [.one (.c (.sl 14 l))] [] (.one (.hs 703 0 l.length l.length)) [(703, .arr 52 14 l 0)] := by
  refine impC (n := 8) tok Tryz.func64 rfl rfl rfl ?_
  refine awp_seq (ag [] rfl ?_)
  refine awp_sl 0 rfl (fun hl => ?_) ?_
  · subst hl
    refine awp_seq (awp_seq (ag [] rfl ?_))
    refine awp_cond rfl (fun _ => ?_) (fun hb => by cases hb)
    refine awp_seq (ag [] rfl ?_)
    refine AWp.sub (Sub.own (t := 2) (id := 703) 52 14 rfl rfl) ?_
    exact awp_ret rtT
  · refine awp_seq (awp_seq (ag [] rfl ?_))
    refine awp_cond rfl (fun hb => by cases hb) (fun _ => ?_)
    refine awp_skip ?_
    refine awp_seq (ag [(0, .id 703)] rfl ?_)
    refine AWp.sub (st2 := mk [(2, .one (.hs 703 0 l.length l.length))] [(703, .arr 52 14 l 0)]) sl ?_
    exact awp_ret rtT

/-- The first place of a text; below 0: none. -/
def fidx (s : Str) : List Str → Int → Int
  | [], _ => -1
  | x :: l, k => if s = x then k else fidx s l (k + 1)
theorem fidx_mem (s : Str) : ∀ (l : List Str) (k : Int), 0 ≤ k → (decide (0 ≤ fidx s l k) = decide (s ∈ l))
  | [], k, _ => by simp [fidx]
  | x :: l, k, hk => by
    rw [fidx]
    split
    · rename_i h; subst h; simp [hk]
    · rename_i h; rw [fidx_mem s l (k + 1) (by omega)]; simp [h]
theorem c_index (l : List Str) (s : Str) (h : l.length ≤ 8000000) : ImpC Tryz.prog 85 [strsV l, Go.AM.T s] [] (I .i64 (fidx s l 0)) [] := by
  refine impC (n := 19) tok Tryz.func85 rfl rfl rfl ?_
  refine awp_seq (ag [] rfl ?_)
  refine awp_seq (awp_seq (ag [] rfl ?_))
  have hka : (l.map encS).length = l.length := List.length_map _
  refine awp_block ?_
  refine awp_loop (fun i : Nat => mk [(0, strsV l), (1, Go.AM.T s), (7, I .i64 ((l.map encS).length : Int)), (8, I .i64 i)] []) (fun i => i ≤ l.length ∧ fidx s l 0 = fidx s (l.drop i) i) (fun i => l.length - i) 0 ⟨Nat.zero_le _, rfl⟩ sl ?_
  intro i ⟨hi, he⟩
  refine awp_seq (ag [] rfl ?_)
  refine awp_seq (awp_cond rfl (fun hb => ?_) (fun hb => ?_))
  · have hlt := ltD hb hka
    obtain ⟨x, hx⟩ := get_of_lt hlt
    have hx' := getEnc encS hx
    have hd : l.drop i = x :: l.drop (i + 1) := by rw [List.drop_eq_getElem_cons hlt, (List.getElem?_eq_some_iff.1 hx).2]
    rw [hd, fidx] at he
    refine awp_skip ?_
    refine awp_seq (awp_block ?_)
    refine awp_seq (ag [] rfl ?_)
    refine awp_seq (ag [(3, .row i (encS x))] rfl ?_)
    refine awp_cond rfl (fun hb => ?_) (fun hb => ?_)
    · have hs : s = x := of_decide_eq_true hb
      rw [if_pos hs] at he
      rw [he]
      refine awp_seq (ag [] rfl ?_)
      exact awp_ret rtT
    · have hs : ¬ s = x := of_decide_eq_false hb
      rw [if_neg hs] at he
      refine awp_skip ?_
      refine ag [] rfl ?_
      exact ⟨i + 1, ⟨hlt, he⟩, by dsimp only; omega, sl⟩
  · have hge := geD hb hka hi
    subst hge
    rw [List.drop_length, fidx] at he
    rw [he]
    refine awp_exit ?_
    refine awp_seq (ag [] rfl ?_)
    exact awp_ret rtT
theorem c_contains (l : List Str) (s : Str) (h : l.length ≤ 8000000) : ImpC Tryz.prog 59 [strsV l, Go.AM.T s] [] (B (decide (s ∈ l))) [] := by
  have hi := c_index l s h
  refine impC (n := 9) tok Tryz.func59 rfl rfl rfl ?_
  refine awp_seq (ag [] rfl ?_)
  refine awp_seq (ag [(2, .pc (I .i64 (fidx s l 0)))] rfl ?_)
  rw [← fidx_mem s l 0 (by omega)]
  exact awp_ret rtT

theorem c_sameTexts (a b : List Str) (h : a.length ≤ 8000000) : ImpC Tryz.prog 14 [strsV a, strsV b] [] (B (decide (a = b))) [] := by
  refine impC (n := 26) tok Tryz.func14 rfl rfl rfl ?_
  refine awp_seq (ag [] rfl ?_)
  refine awp_seq (awp_seq (ag [] rfl ?_))
  refine awp_cond rfl (fun hb => ?_) (fun hb => ?_)
  · have hne : ¬ a = b := by
      rintro rfl
      simp at hb
    refine awp_seq (ag [] rfl ?_)
    rw [decide_eq_false hne]
    exact awp_ret rtT
  · have hlen : a.length = b.length := by
      have : (a.length : Int) = (b.length : Int) := by simpa using hb
      omega
    refine awp_skip ?_
    refine awp_seq (awp_seq (ag [] rfl ?_))
    refine awp_block ?_
    have hka : (a.map encS).length = a.length := List.length_map _
    refine awp_loop (fun i : Nat => mk [(0, strsV a), (1, strsV b), (5, I .i64 i)] []) (fun i => i ≤ a.length ∧ a.take i = b.take i) (fun i => a.length - i) 0 ⟨Nat.zero_le _, by simp⟩ sl ?_
    intro i ⟨hi, he⟩
    refine awp_seq (awp_seq (ag [] rfl ?_))
    refine awp_cond rfl (fun hb => ?_) (fun hb => ?_)
    · have hlt := ltD hb hka
      obtain ⟨x, hx⟩ := get_of_lt hlt
      obtain ⟨y, hy⟩ := get_of_lt (show i < b.length by omega)
      have hx' := getEnc encS hx
      have hy' := getEnc encS hy
      refine awp_skip ?_
      refine awp_seq (awp_block ?_)
      refine awp_seq (ag [(2, .row i (encS x)), (6, .row i (encS y))] rfl ?_)
      refine awp_cond rfl (fun hb => ?_) (fun hb => ?_)
      · have hxy : ¬ x = y := by simpa using hb
        have hne : ¬ a = b := by
          rintro rfl
          rw [hx] at hy
          exact hxy (Option.some.inj hy)
        rw [decide_eq_false hne]
        refine awp_seq (ag [] rfl ?_)
        exact awp_ret rtT
      · have hxy : x = y := by simpa using hb
        refine awp_skip ?_
        refine ag [] rfl ?_
        refine ⟨i + 1, ⟨hlt, ?_⟩, by dsimp only; omega, sl⟩
        rw [take_step hx, take_step hy, he, hxy]
    · have hge := geD hb hka hi
      have hab : a = b := by
        have := he
        rw [hge, List.take_length, List.take_of_length_le (by omega)] at this
        exact this
      refine awp_exit ?_
      rw [decide_eq_true hab]
      refine awp_seq (ag [] rfl ?_)
      exact awp_ret (rtT (hc := .refl))

def tyd (b : Bind) : Bool := !decide (b.ty.form = 0)
theorem c_fits1 (b : Bind) : ImpC Tryz.prog 52 [.pa (encBind b)] [] (B (tyd b)) [] := by
  refine impC (n := 7) tok Tryz.func52 rfl rfl rfl ?_
  refine awp_seq (ag [] rfl ?_)
  refine awp_seq (ag [] rfl ?_)
  exact awp_ret rtT
/-- The number of the first that is so, if there is one. -/
def idxR {α : Type} (p : α → Bool) : List α → Nat → Int
  | [], _ => -1
  | x :: l, i => if p x then (i : Int) else idxR p l (i + 1)
theorem idx_any {α : Type} (p : α → Bool) : ∀ (l : List α) (i : Nat), decide (idxR p l i ≥ 0) = l.any p
  | [], _ => rfl
  | x :: l, i => by
    rw [idxR, List.any_cons]
    cases h : p x
    · rw [if_neg (by simp), idx_any p l]; rfl
    · rw [if_pos rfl, Bool.true_or]; simp
theorem c_index_binds (l : List Bind) (hl : l.length ≤ 1000000000) : ImpC Tryz.prog 61 [.one (.c (.sl 15 (l.map encBind))), .one (.clo 52 [])] [] (I .i64 (idxR tyd l 0)) [] := by
  have hkl : (l.map encBind).length = l.length := List.length_map _
  refine impC (n := 19) tok Tryz.func61 rfl rfl rfl ?_
  refine awp_seq (ag [] rfl ?_)
  refine awp_seq (awp_seq (ag [] rfl ?_))
  refine awp_block ?_
  refine awp_loop (fun i : Nat => mk [(0, .one (.c (.sl 15 (l.map encBind)))), (1, .one (.clo 52 [])), (7, I .i64 ((l.map encBind).length : Int)), (8, I .i64 i)] []) (fun i => i ≤ l.length ∧ idxR tyd l 0 = idxR tyd (l.drop i) i) (fun i => l.length - i) 0 ⟨Nat.zero_le _, rfl⟩ sl ?_
  intro i ⟨hi, hid⟩
  refine awp_seq (ag [] rfl ?_)
  refine awp_seq (awp_cond rfl (fun hb => ?_) (fun hb => ?_))
  · have hlt := ltD hb hkl
    obtain ⟨b, hbi⟩ := get_of_lt hlt
    have hbi' := getEnc encBind hbi
    have hc : ImpC Tryz.prog 52 ([.pa (encBind b)] ++ ([] : List R).map V.one) [] (B (tyd b)) [] := c_fits1 b
    have hdr : l.drop i = b :: l.drop (i + 1) := by rw [List.drop_eq_getElem_cons hlt, (List.getElem?_eq_some_iff.1 hbi).2]
    rw [hdr, idxR] at hid
    refine awp_skip ?_
    refine awp_seq (awp_block (awp_seq (ag [] rfl ?_)))
    refine awp_seq (awp_rg mixed ?_)
    refine ak 5 [(3, .row i (encBind b))] rfl ?_
    refine kv (args := [.pa (encBind b)]) hc ?_
    refine az ?_
    refine awp_cond rfl (fun hb => ?_) (fun hb => ?_)
    · have hb : tyd b = true := hb
      rw [if_pos hb] at hid
      rw [hid]
      refine awp_seq (ag [] rfl ?_)
      exact awp_ret rtT
    · have hb : tyd b = false := hb
      rw [if_neg (by rw [hb]; exact Bool.false_ne_true)] at hid
      refine awp_skip ?_
      refine ag [] rfl ?_
      exact ⟨i + 1, ⟨hlt, hid⟩, by dsimp only; omega, sl⟩
  have hge := geD hb hkl hi
  subst hge
  rw [List.drop_length, idxR] at hid
  rw [hid]
  refine awp_exit ?_
  refine awp_seq (ag [] rfl ?_)
  exact awp_ret (rtT (v := I .i64 (-1)) (hc := .refl))
theorem c_contains_binds (l : List Bind) (hl : l.length ≤ 1000000000) : ImpC Tryz.prog 51 [.one (.c (.sl 15 (l.map encBind))), .one (.clo 52 [])] [] (B (l.any tyd)) [] := by
  have h := c_index_binds l hl
  rw [← idx_any tyd l 0]
  refine impC (n := 9) tok Tryz.func51 rfl rfl rfl ?_
  refine awp_seq (ag [] rfl ?_)
  refine awp_seq (awp_rg mixed ?_)
  refine ak 2 [] rfl ?_
  refine kc h ?_
  refine ak 2 [] rfl ?_
  refine az ?_
  exact awp_ret rtT

end Go.Proofs.YtnookidjdjhfhaaGreatDoor
