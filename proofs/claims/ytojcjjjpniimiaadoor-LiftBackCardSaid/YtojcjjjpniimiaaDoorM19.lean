/-
  Texts La37, La38, La39, La40 in one.
-/
import Derived.Test.YtojcjjjpniimiaaDoorM18
/- WHAT IS MADE OF NUMBERS, and erased: names are some, lambdas have bodies, there is little of it. -/
namespace Go.Proofs.YtojcjjjpniimiaaDoor
open Go Go.AM
set_option maxRecDepth 20000

def nmB (s : Str) : Bool := decide (s ∈ nmL)
mutual
/-- Core as it is made. -/
def rawR : Core → Bool
  | .mk f _ s _ ks bs al => (if f = 5 then nmB s && (!ks.isEmpty && bs.isEmpty) else if f = 6 ∨ f = 7 then !ks.isEmpty else if f = 1 then nmB s && (ks.isEmpty && (bs.isEmpty && al.isEmpty)) else true) && (rawCs ks && (rawBs bs && rawAs al))
def rawCs : List Core → Bool
  | [] => true
  | c :: l => rawR c && rawCs l
def rawBs : List Bind → Bool
  | [] => true
  | .mk s _ c :: l => (nmB s && rawR c) && rawBs l
def rawAs : List Alt → Bool
  | [] => true
  | .mk _ _ _ v c :: l => (v.all nmB && rawR c) && rawAs l
end
mutual
/-- Core as it is erased. -/
def gR : Core → Bool
  | .mk f _ s t ks bs al => (decide (f ≠ 6) && (decide (f ≠ 7) && tz t)) && ((if f = 5 then nmB s && (!ks.isEmpty && bs.isEmpty) else if f = 1 then nmB s && (ks.isEmpty && (bs.isEmpty && al.isEmpty)) else true) && (gCs ks && (gBs bs && gAs al)))
def gCs : List Core → Bool
  | [] => true
  | c :: l => gR c && gCs l
def gBs : List Bind → Bool
  | [] => true
  | .mk s t c :: l => ((nmB s && tz t) && gR c) && gBs l
def gAs : List Alt → Bool
  | [] => true
  | .mk _ _ _ v c :: l => (v.all nmB && gR c) && gAs l
end
mutual
theorem raw_g : ∀ c, rawR c = true → gR (eraseR c) = true
  | .mk f n s t ks bs al, h => by
    rw [rawR] at h
    simp only [Bool.and_eq_true] at h
    obtain ⟨h1, h2, h3, h4⟩ := h
    have k2 := raw_gs ks h2
    rw [eraseR]
    by_cases h67 : f = 6 ∨ f = 7
    · have h5 : ¬ f = 5 := by omega
      rw [if_neg h5, if_pos h67] at h1
      cases ks with
      | nil => simp at h1
      | cons k ks =>
        rw [if_pos ⟨h67, by simp⟩]
        rw [eraseCs, gCs, Bool.and_eq_true] at k2
        rw [eraseCs]
        exact k2.1
    · rw [if_neg (fun h => h67 h.1), gR]
      rw [if_neg h67] at h1
      have e1 : decide (f ≠ 6) = true := decide_eq_true fun e => h67 (.inl e)
      have e2 : decide (f ≠ 7) = true := decide_eq_true fun e => h67 (.inr e)
      have e3 : tz zTy = true := rfl
      simp only [e1, e2, e3, Bool.and_eq_true, true_and]
      refine ⟨?_, k2, raw_gb bs h3, raw_ga al h4⟩
      have n1 : (eraseCs ks).isEmpty = ks.isEmpty := by cases ks <;> simp [eraseCs]
      have n2 : (eraseBs bs).isEmpty = bs.isEmpty := by cases bs <;> simp [eraseBs]
      have n3 : (eraseAs al).isEmpty = al.isEmpty := by cases al <;> simp [eraseAs]
      rw [n1, n2, n3]
      exact h1
theorem raw_gs : ∀ l, rawCs l = true → gCs (eraseCs l) = true
  | [], _ => by rw [eraseCs, gCs]
  | c :: l, h => by
    rw [rawCs, Bool.and_eq_true] at h
    rw [eraseCs, gCs, raw_g c h.1, raw_gs l h.2]; rfl
theorem raw_gb : ∀ l, rawBs l = true → gBs (eraseBs l) = true
  | [], _ => by rw [eraseBs, gBs]
  | .mk s t c :: l, h => by
    simp only [rawBs, Bool.and_eq_true] at h
    rw [eraseBs, eraseB, gBs, raw_g c h.1.2, raw_gb l h.2, h.1.1]; rfl
theorem raw_ga : ∀ l, rawAs l = true → gAs (eraseAs l) = true
  | [], _ => by rw [eraseAs, gAs]
  | .mk f n s v c :: l, h => by
    simp only [rawAs, Bool.and_eq_true] at h
    rw [eraseAs, eraseA, gAs, raw_g c h.1.2, raw_ga l h.2, h.1.1]; rfl
end
theorem nm_plain : ∀ s ∈ nmL, (112 : UInt8) ∉ s := by decide
theorem nm_len : ∀ s ∈ nmL, s.length ≤ 3 := by decide
theorem nmB_plain {s : Str} (h : nmB s = true) : (!decide ((112 : UInt8) ∈ s)) = true := by
  rw [decide_eq_false (nm_plain s (of_decide_eq_true h))]; rfl
theorem tz_form {t : Ty} (h : tz t = true) : decide (t.form = 0) = true := by rw [tz_eq h]; rfl
mutual
theorem g_ok : ∀ c, gR c = true → okR c = true
  | .mk f n s t ks bs al, h => by
    rw [gR] at h
    simp only [Bool.and_eq_true] at h
    obtain ⟨⟨a1, a2, a3⟩, a4, a5, a6, a7⟩ := h
    rw [okR, a1, a2, tz_form a3, g_oks ks a5, g_okb bs a6, g_oka al a7]
    simp only [Bool.true_and, Bool.and_true]
    split at a4
    · rename_i h5
      simp only [Bool.and_eq_true] at a4
      rw [if_pos h5, nmB_plain a4.1, a4.2.1, a4.2.2]; rfl
    · rename_i h5
      split at a4
      · rename_i h1
        simp only [Bool.and_eq_true] at a4
        rw [if_neg h5, if_pos h1, a4.2.1, a4.2.2.1, a4.2.2.2]; rfl
      · rename_i h1
        rw [if_neg h5, if_neg h1]
theorem g_oks : ∀ l, gCs l = true → okCs l = true
  | [], _ => by rw [okCs]
  | c :: l, h => by
    rw [gCs, Bool.and_eq_true] at h
    rw [okCs, g_ok c h.1, g_oks l h.2]; rfl
theorem g_okb : ∀ l, gBs l = true → okBs l = true
  | [], _ => by rw [okBs]
  | .mk s t c :: l, h => by
    simp only [gBs, Bool.and_eq_true] at h
    rw [okBs, g_ok c h.1.2, g_okb l h.2, tz_form h.1.1.2, nmB_plain h.1.1.1]; rfl
theorem g_oka : ∀ l, gAs l = true → okAs l = true
  | [], _ => by rw [okAs]
  | .mk f n s v c :: l, h => by
    simp only [gAs, Bool.and_eq_true] at h
    have hv : (v.all fun s => !decide ((112 : UInt8) ∈ s)) = true := List.all_eq_true.2 fun s hs => nmB_plain (List.all_eq_true.1 h.1.1 s hs)
    rw [okAs, g_ok c h.1.2, g_oka l h.2, hv]; rfl
end
mutual
theorem g_wf : ∀ c, gR c = true → wfR c = true ∧ z0R c = true ∧ nmR c = true
  | .mk f n s t ks bs al, h => by
    rw [gR] at h
    simp only [Bool.and_eq_true] at h
    obtain ⟨⟨a1, a2, a3⟩, a4, a5, a6, a7⟩ := h
    obtain ⟨b1, b2, b3⟩ := g_wfs ks a5
    obtain ⟨c1, c2, c3⟩ := g_wfb bs a6
    obtain ⟨d1, d2, d3⟩ := g_wfa al a7
    rw [wfR, z0R, nmR, b1, b2, b3, c1, c2, c3, d1, d2, d3, a3]
    simp only [Bool.and_true, true_and]
    by_cases h5 : f = 5
    · rw [if_pos h5] at a4 ⊢
      simp only [Bool.and_eq_true] at a4
      rw [if_pos h5]
      exact ⟨a4.2.1, a4.1⟩
    · rw [if_neg h5, if_neg h5]; exact ⟨rfl, rfl⟩
theorem g_wfs : ∀ l, gCs l = true → wfCs l = true ∧ z0Cs l = true ∧ nmCs l = true
  | [], _ => by rw [wfCs, z0Cs, nmCs]; exact ⟨rfl, rfl, rfl⟩
  | c :: l, h => by
    rw [gCs, Bool.and_eq_true] at h
    obtain ⟨x1, x2, x3⟩ := g_wf c h.1
    obtain ⟨y1, y2, y3⟩ := g_wfs l h.2
    rw [wfCs, z0Cs, nmCs, x1, x2, x3, y1, y2, y3]; exact ⟨rfl, rfl, rfl⟩
theorem g_wfb : ∀ l, gBs l = true → wfBs l = true ∧ z0Bs l = true ∧ nmBs l = true
  | [], _ => by rw [wfBs, z0Bs, nmBs]; exact ⟨rfl, rfl, rfl⟩
  | .mk s t c :: l, h => by
    simp only [gBs, Bool.and_eq_true] at h
    obtain ⟨x1, x2, x3⟩ := g_wf c h.1.2
    obtain ⟨y1, y2, y3⟩ := g_wfb l h.2
    have hs : decide (s ∈ nmL) = true := h.1.1.1
    rw [wfBs, z0Bs, nmBs, x1, x2, x3, y1, y2, y3, h.1.1.2, hs]; exact ⟨rfl, rfl, rfl⟩
theorem g_wfa : ∀ l, gAs l = true → wfAs l = true ∧ z0As l = true ∧ nmAs l = true
  | [], _ => by rw [wfAs, z0As, nmAs]; exact ⟨rfl, rfl, rfl⟩
  | .mk f n s v c :: l, h => by
    simp only [gAs, Bool.and_eq_true] at h
    obtain ⟨x1, x2, x3⟩ := g_wf c h.1.2
    obtain ⟨y1, y2, y3⟩ := g_wfa l h.2
    have hv : (v.all fun s => decide (s ∈ nmL)) = true := h.1.1
    rw [wfAs, z0As, nmAs, x1, x2, x3, y1, y2, y3, hv]; exact ⟨rfl, rfl, rfl⟩
end
mutual
theorem g_free : ∀ (c : Core) (G : Str → Bool) (out : List Str), gR c = true → (∀ s ∈ out, s ∈ nmL) → ∀ s ∈ fR c G out, s ∈ nmL
  | .mk f n x t ks bs al, G, out, h, ho, s, hs => by
    rw [gR] at h
    simp only [Bool.and_eq_true] at h
    obtain ⟨⟨a1, a2, a3⟩, a4, a5, a6, a7⟩ := h
    rw [fR] at hs
    split at hs
    · rename_i h1
      rw [if_neg (by omega), if_pos h1] at a4
      simp only [Bool.and_eq_true] at a4
      split at hs
      · rcases List.mem_append.1 hs with hs | hs
        · exact ho s hs
        · rw [List.mem_singleton.1 hs]; exact of_decide_eq_true a4.1
      · exact ho s hs
    · exact g_freea al _ _ a7 (g_freeb bs _ _ a6 (g_freek ks _ _ a5 ho)) s hs
theorem g_freek : ∀ (l : List Core) (G : Str → Bool) (out : List Str), gCs l = true → (∀ s ∈ out, s ∈ nmL) → ∀ s ∈ fRk l G out, s ∈ nmL
  | [], _, _, _, ho, s, hs => by rw [fRk] at hs; exact ho s hs
  | c :: l, G, out, h, ho, s, hs => by
    rw [gCs, Bool.and_eq_true] at h
    rw [fRk] at hs
    exact g_freek l G _ h.2 (g_free c G out h.1 ho) s hs
theorem g_freeb : ∀ (l : List Bind) (G : Str → Bool) (out : List Str), gBs l = true → (∀ s ∈ out, s ∈ nmL) → ∀ s ∈ fRb l G out, s ∈ nmL
  | [], _, _, _, ho, s, hs => by rw [fRb] at hs; exact ho s hs
  | .mk _ _ c :: l, G, out, h, ho, s, hs => by
    simp only [gBs, Bool.and_eq_true] at h
    rw [fRb] at hs
    exact g_freeb l G _ h.2 (g_free c G out h.1.2 ho) s hs
theorem g_freea : ∀ (l : List Alt) (G : Str → Bool) (out : List Str), gAs l = true → (∀ s ∈ out, s ∈ nmL) → ∀ s ∈ fRa l G out, s ∈ nmL
  | [], _, _, _, ho, s, hs => by rw [fRa] at hs; exact ho s hs
  | .mk _ _ _ v c :: l, G, out, h, ho, s, hs => by
    simp only [gAs, Bool.and_eq_true] at h
    rw [fRa] at hs
    exact g_freea l G _ h.2 (g_free c _ out h.1.2 ho) s hs
end
end Go.Proofs.YtojcjjjpniimiaaDoor

/- WHAT IS MADE OF NUMBERS (2): how much of it there is. -/
namespace Go.Proofs.YtojcjjjpniimiaaDoor
open Go Go.AM
set_option maxRecDepth 20000

mutual
theorem erase_le : ∀ c, csize (eraseR c) ≤ csize c ∧ lamsN (eraseR c) ≤ lamsN c
  | .mk f n s t ks bs al => by
    obtain ⟨a1, a2⟩ := erase_les ks
    obtain ⟨b1, b2⟩ := erase_leb bs
    obtain ⟨d1, d2⟩ := erase_lea al
    rw [eraseR]
    split
    · rename_i h
      have h5 : ¬ f = 5 := by omega
      cases ks with
      | nil => simp at h
      | cons k ks =>
        rw [eraseCs, csizes, csizes] at a1
        rw [eraseCs, lamsCs, lamsCs] at a2
        rw [eraseCs]
        obtain ⟨k1, k2⟩ := erase_le k
        rw [csize, csizes, lamsN, lamsCs]
        show csize (eraseR k) ≤ _ ∧ lamsN (eraseR k) ≤ _
        omega
    · rw [csize, csize, lamsN, lamsN]
      omega
theorem erase_les : ∀ l, csizes (eraseCs l) ≤ csizes l ∧ lamsCs (eraseCs l) ≤ lamsCs l
  | [] => by rw [eraseCs]; exact ⟨Nat.le_refl _, Nat.le_refl _⟩
  | c :: l => by
    obtain ⟨h1, h2⟩ := erase_le c
    obtain ⟨h3, h4⟩ := erase_les l
    rw [eraseCs, csizes, csizes, lamsCs, lamsCs]; omega
theorem erase_leb : ∀ l, bsizes (eraseBs l) ≤ bsizes l ∧ lamsBs (eraseBs l) ≤ lamsBs l
  | [] => by rw [eraseBs]; exact ⟨Nat.le_refl _, Nat.le_refl _⟩
  | .mk s t c :: l => by
    obtain ⟨h1, h2⟩ := erase_le c
    obtain ⟨h3, h4⟩ := erase_leb l
    rw [eraseBs, eraseB, bsizes, bsizes, bsize, bsize, lamsBs, lamsBs]; omega
theorem erase_lea : ∀ l, asizes (eraseAs l) ≤ asizes l ∧ lamsAs (eraseAs l) ≤ lamsAs l
  | [] => by rw [eraseAs]; exact ⟨Nat.le_refl _, Nat.le_refl _⟩
  | .mk f n s v c :: l => by
    obtain ⟨h1, h2⟩ := erase_le c
    obtain ⟨h3, h4⟩ := erase_lea l
    rw [eraseAs, eraseA, asizes, asizes, asize, asize, lamsAs, lamsAs]; omega
end

theorem oneOf_in {l : List Str} {n : Int} (hl : 0 < l.length) : oneOf l n ∈ l := by
  obtain ⟨k, hk⟩ := Int.eq_ofNat_of_zero_le (around_lt n (k := l.length) (by omega)).1
  have hlt := (around_lt n (k := l.length) (by omega)).2
  have h1 : k < l.length := by omega
  have : oneOf l n = l[k] := by
    unfold oneOf
    rw [hk]
    simp [h1]
  rw [this]
  exact List.getElem_mem h1
theorem nm_in (n : Int) : oneOf nmL n ∈ nmL := oneOf_in (by decide)
theorem con_len (n : Int) : (oneOf conL n).length ≤ 4 := (by decide : ∀ s ∈ conL, s.length ≤ 4) _ (oneOf_in (by decide))
theorem prim_len (n : Int) : (oneOf primL n).length ≤ 4 := (by decide : ∀ s ∈ primL, s.length ≤ 4) _ (oneOf_in (by decide))
theorem tnm_len (n : Int) : (oneOf tnmL n).length ≤ 4 := (by decide : ∀ s ∈ tnmL, s.length ≤ 4) _ (oneOf_in (by decide))
theorem nmB_in (n : Int) : nmB (oneOf nmL n) = true := decide_eq_true (nm_in n)
theorem namesTo_in (n : Int) : ∀ i : Nat, ∀ s ∈ namesTo n i, s ∈ nmL
  | 0, s, h => by simp [namesTo] at h
  | i + 1, s, h => by
    rw [namesTo, addN] at h
    split at h
    · exact namesTo_in n i s h
    · rcases List.mem_append.1 h with h | h
      · exact namesTo_in n i s h
      · rw [List.mem_singleton.1 h]; exact nm_in _
theorem vsum_nm : ∀ l : List Str, (∀ s ∈ l, s ∈ nmL) → (l.map fun v => 1 + v.length).sum ≤ 4 * l.length
  | [], _ => by simp
  | s :: l, h => by
    have h1 := vsum_nm l fun x hx => h x (List.mem_cons_of_mem _ hx)
    have h2 := nm_len s (h s List.mem_cons_self)
    rw [List.map_cons, List.sum_cons, List.length_cons]
    omega
/-- What may be left: of the nodes that are not leaves. -/
def lf (left : Int) : Nat := (left - 1).toNat
/-- Core that is made of what was left: as it is made, and little. -/
structure MkG (c : Core) (left left' : Int) : Prop where
  raw : rawR c = true
  lams : lamsN c + lf left' ≤ lf left
  size : csize c + 100 * lf left' ≤ 100 * lf left + 7
def MkGs (g : List Int → Int → Mk) : Prop := ∀ l left, MkG (g l left).1 left (g l left).2.2
theorem rawBs_app : ∀ a b, rawBs (a ++ b) = (rawBs a && rawBs b)
  | [], b => by rw [List.nil_append, rawBs, Bool.true_and]
  | .mk s t c :: a, b => by rw [List.cons_append, rawBs, rawBs, rawBs_app a b]; simp only [Bool.and_assoc]
theorem rawAs_app : ∀ a b, rawAs (a ++ b) = (rawAs a && rawAs b)
  | [], b => by rw [List.nil_append, rawAs, Bool.true_and]
  | .mk f n s v c :: a, b => by rw [List.cons_append, rawAs, rawAs, rawAs_app a b]; simp only [Bool.and_assoc]
theorem bsizes_app : ∀ a b, bsizes (a ++ b) = bsizes a + bsizes b
  | [], b => by rw [List.nil_append, bsizes, Nat.zero_add]
  | x :: a, b => by rw [List.cons_append, bsizes, bsizes, bsizes_app a b, Nat.add_assoc]
theorem asizes_app : ∀ a b, asizes (a ++ b) = asizes a + asizes b
  | [], b => by rw [List.nil_append, asizes, Nat.zero_add]
  | x :: a, b => by rw [List.cons_append, asizes, asizes, asizes_app a b, Nat.add_assoc]
theorem lamsBs_app : ∀ a b, lamsBs (a ++ b) = lamsBs a + lamsBs b
  | [], b => by rw [List.nil_append, lamsBs, Nat.zero_add]
  | .mk s t c :: a, b => by rw [List.cons_append, lamsBs, lamsBs, lamsBs_app a b, Nat.add_assoc]
theorem lamsAs_app : ∀ a b, lamsAs (a ++ b) = lamsAs a + lamsAs b
  | [], b => by rw [List.nil_append, lamsAs, Nat.zero_add]
  | .mk f n s v c :: a, b => by rw [List.cons_append, lamsAs, lamsAs, lamsAs_app a b, Nat.add_assoc]
theorem bindsTo_g {g : List Int → Int → Mk} (h : MkGs g) (ns : List Str) (hns : ∀ s ∈ ns, s ∈ nmL) (l : List Int) (left : Int) : ∀ i : Nat, i ≤ ns.length → rawBs (bindsTo g ns l left i).1 = true ∧ lamsBs (bindsTo g ns l left i).1 + lf (bindsTo g ns l left i).2.2 ≤ lf left ∧ bsizes (bindsTo g ns l left i).1 + 100 * lf (bindsTo g ns l left i).2.2 ≤ 100 * lf left + 11 * i
  | 0, _ => by simp [bindsTo, rawBs, lamsBs, bsizes]
  | i + 1, hi => by
    obtain ⟨h1, h2, h3⟩ := bindsTo_g h ns hns l left i (by omega)
    obtain ⟨k1, k2, k3⟩ := h (typR 2 (bindsTo g ns l left i).2.1).2 (bindsTo g ns l left i).2.2
    have hs : (ns[i]?.getD []) ∈ nmL := by
      obtain ⟨s, hs⟩ := get_of_lt (l := ns) (by omega : i < ns.length)
      rw [hs]; exact hns s (List.mem_of_getElem? hs)
    have hsl := nm_len _ hs
    have hsb : nmB (ns[i]?.getD []) = true := decide_eq_true hs
    simp only [bindsTo]
    rw [rawBs_app, lamsBs_app, bsizes_app, rawBs, rawBs, lamsBs, lamsBs, bsizes, bsizes, bsize, h1, k1, hsb]
    refine ⟨rfl, by omega, by omega⟩
theorem altsTo_g {g : List Int → Int → Mk} (h : MkGs g) (n : Int) (l : List Int) (left : Int) : ∀ i : Nat, rawAs (altsTo g n l left i).1 = true ∧ lamsAs (altsTo g n l left i).1 + lf (altsTo g n l left i).2.2 ≤ lf left ∧ asizes (altsTo g n l left i).1 + 100 * lf (altsTo g n l left i).2.2 ≤ 100 * lf left + 24 * i
  | 0 => by simp [altsTo, rawAs, lamsAs, asizes]
  | i + 1 => by
    obtain ⟨h1, h2, h3⟩ := altsTo_g h n l left i
    obtain ⟨k1, k2, k3⟩ := h (namesR (altsTo g n l left i).2.1).2 (altsTo g n l left i).2.2
    have hni : ∀ s ∈ (namesR (altsTo g n l left i).2.1).1, s ∈ nmL := namesTo_in _ _
    have hnl := namesR_len (altsTo g n l left i).2.1
    have hvs := vsum_nm _ hni
    have hva : (namesR (altsTo g n l left i).2.1).1.all nmB = true := List.all_eq_true.2 fun s hs => decide_eq_true (hni s hs)
    have hcl := con_len (n / 14 + i)
    simp only [altsTo]
    rw [rawAs_app, lamsAs_app, asizes_app, h1]
    split
    · rw [rawAs, rawAs, lamsAs, lamsAs, asizes, asizes, asize, k1]
      refine ⟨rfl, by omega, ?_⟩
      simp only [List.length_nil, List.map_nil, List.sum_nil]
      omega
    · split
      · rw [rawAs, rawAs, lamsAs, lamsAs, asizes, asizes, asize, k1]
        refine ⟨rfl, by omega, ?_⟩
        simp only [List.length_nil, List.map_nil, List.sum_nil]
        omega
      · rw [rawAs, rawAs, lamsAs, lamsAs, asizes, asizes, asize, k1, hva]
        exact ⟨rfl, by omega, by omega⟩
theorem coreK_g {g : List Int → Int → Mk} (h : MkGs g) (n k : Int) (l : List Int) (left : Int) (hk : 4 ≤ k → 1 ≤ left) : MkG (coreK g n k l left).1 (left + 1) (coreK g n k l left).2.2 := by
  have hlf : lf left ≤ lf (left + 1) := by unfold lf; omega
  have hlk : 4 ≤ k → lf left + 1 = lf (left + 1) := fun h => by have := hk h; unfold lf; omega
  have n1 := nm_len _ (nm_in (n / 14))
  have n2 := con_len (n / 14)
  have n3 := prim_len (n / 14)
  have n4 := tnm_len (n / 14)
  have nb := nmB_in (n / 14)
  obtain ⟨g1, g2, g3⟩ := h l left
  obtain ⟨h1, h2, h3⟩ := h (g l left).2.1 (g l left).2.2
  obtain ⟨u1, u2, u3⟩ := h (typR 2 l).2 left
  unfold coreK
  split
  · refine ⟨by simp [rawR, rawCs, rawBs, rawAs, nb], ?_, ?_⟩ <;> simp only [lamsN, lamsCs, lamsBs, lamsAs, csize, csizes, bsizes, asizes] <;> simp <;> omega
  split
  · refine ⟨by simp [rawR, rawCs, rawBs, rawAs], ?_, ?_⟩ <;> simp only [lamsN, lamsCs, lamsBs, lamsAs, csize, csizes, bsizes, asizes] <;> simp <;> omega
  split
  · refine ⟨by simp [rawR, rawCs, rawBs, rawAs], ?_, ?_⟩ <;> simp only [lamsN, lamsCs, lamsBs, lamsAs, csize, csizes, bsizes, asizes] <;> simp <;> omega
  have hl := hlk (by omega)
  split
  · refine ⟨by simp [rawR, rawCs, rawBs, rawAs, g1, h1], ?_, ?_⟩ <;> simp only [lamsN, lamsCs, lamsBs, lamsAs, csize, csizes, bsizes, asizes] <;> simp <;> omega
  split
  · refine ⟨by simp [rawR, rawCs, rawBs, rawAs, u1, nb], ?_, ?_⟩ <;> simp only [lamsN, lamsCs, lamsBs, lamsAs, csize, csizes, bsizes, asizes] <;> simp <;> omega
  split
  · refine ⟨by simp [rawR, rawCs, rawBs, rawAs, u1], ?_, ?_⟩ <;> simp only [lamsN, lamsCs, lamsBs, lamsAs, csize, csizes, bsizes, asizes] <;> simp <;> omega
  split
  · refine ⟨by simp [rawR, rawCs, rawBs, rawAs, g1], ?_, ?_⟩ <;> simp only [lamsN, lamsCs, lamsBs, lamsAs, csize, csizes, bsizes, asizes] <;> simp <;> omega
  split
  · have hnl := namesR_len l
    obtain ⟨b1, b2, b3⟩ := bindsTo_g h (namesR l).1 (namesTo_in _ _) (namesR l).2 left (namesR l).1.length (Nat.le_refl _)
    generalize bindsTo g (namesR l).1 (namesR l).2 left (namesR l).1.length = r at b1 b2 b3 ⊢
    obtain ⟨c1, c2, c3⟩ := h r.2.1 r.2.2
    refine ⟨by simp [rawR, rawCs, rawAs, c1, b1], ?_, ?_⟩ <;> simp only [lamsN, lamsCs, lamsAs, csize, csizes, asizes] <;> simp <;> omega
  split
  · obtain ⟨b1, b2, b3⟩ := altsTo_g h n (g (typR 2 l).2 left).2.1 (g (typR 2 l).2 left).2.2 (n / 14 % 4).toNat
    have hi : (n / 14 % 4).toNat ≤ 3 := by omega
    dsimp only
    generalize altsTo g n (g (typR 2 l).2 left).2.1 (g (typR 2 l).2 left).2.2 (n / 14 % 4).toNat = r at b1 b2 b3 ⊢
    refine ⟨by simp [rawR, rawCs, rawBs, u1, b1], ?_, ?_⟩ <;> simp only [lamsN, lamsCs, lamsBs, csize, csizes, bsizes] <;> simp <;> omega
  split
  · refine ⟨by simp [rawR, rawCs, rawBs, rawAs, g1, h1], ?_, ?_⟩ <;> simp only [lamsN, lamsCs, lamsBs, lamsAs, csize, csizes, bsizes, asizes] <;> simp <;> omega
  · refine ⟨by simp [rawR, rawCs, rawBs, rawAs], ?_, ?_⟩ <;> simp only [lamsN, lamsCs, lamsBs, lamsAs, csize, csizes, bsizes, asizes] <;> simp <;> omega
theorem coreR_g : ∀ f : Nat, MkGs (coreR f)
  | 0 => fun l left => by
    have h : MkGs (fun l left => ((.mk 0 0 [] zTy [] [] [], l, left) : Mk)) := fun l left => ⟨by simp [rawR, rawCs, rawBs, rawAs], by simp [lamsN, lamsCs, lamsBs, lamsAs], by simp [csize, csizes, bsizes, asizes]; omega⟩
    have := coreK_g h (nextR l).1 ((nextR l).1 % 4) (nextR l).2 (left - 1) (fun h => by omega)
    rw [Int.sub_add_cancel] at this
    exact this
  | f + 1 => fun l left => by
    have := coreK_g (coreR_g f) (nextR l).1 (if left - 1 < 1 then (nextR l).1 % 4 else (nextR l).1 % 14) (nextR l).2 (left - 1) (fun h => by
      split at h
      · omega
      · omega)
    rw [Int.sub_add_cancel] at this
    exact this
/-- What is made of numbers, and erased: as it is erased, and little. -/
theorem made_g (l : List Int) : gR (eraseR (madeR l)) = true ∧ csize (madeR l) ≤ 3000 ∧ csize (eraseR (madeR l)) ≤ 3000 ∧ lamsN (eraseR (madeR l)) ≤ 29 := by
  obtain ⟨h1, h2, h3⟩ := coreR_g 6 (l.take 60) 30
  obtain ⟨e1, e2⟩ := erase_le (madeR l)
  have : lf 30 = 29 := rfl
  rw [this] at h2 h3
  unfold madeR at e1 e2 ⊢
  exact ⟨raw_g _ h1, by omega, by omega, by omega⟩
end Go.Proofs.YtojcjjjpniimiaaDoor

/- CLOSED: a lambda for each free name, but some. -/
namespace Go.Proofs.YtojcjjjpniimiaaDoor
open Go Go.AM
set_option maxRecDepth 20000

mutual
theorem fR_once : ∀ (c : Core) (G : Str → Bool) (out : List Str), out.Nodup → (fR c G out).Nodup
  | .mk f _ x _ ks bs al, G, out, h => by
    rw [fR]
    split
    · split
      · rename_i hc
        simp only [Bool.and_eq_true, Bool.not_eq_true', decide_eq_false_iff_not] at hc
        rw [List.nodup_append]
        exact ⟨h, by simp, fun a ha b hb e => by simp only [List.mem_singleton] at hb; subst hb; subst e; exact hc.2 ha⟩
      · exact h
    · exact fRa_once al _ _ (fRb_once bs _ _ (fRk_once ks _ _ h))
theorem fRk_once : ∀ (l : List Core) (G : Str → Bool) (out : List Str), out.Nodup → (fRk l G out).Nodup
  | [], _, _, h => by rw [fRk]; exact h
  | c :: l, G, out, h => by rw [fRk]; exact fRk_once l _ _ (fR_once c _ _ h)
theorem fRb_once : ∀ (l : List Bind) (G : Str → Bool) (out : List Str), out.Nodup → (fRb l G out).Nodup
  | [], _, _, h => by rw [fRb]; exact h
  | .mk _ _ c :: l, G, out, h => by rw [fRb]; exact fRb_once l _ _ (fR_once c _ _ h)
theorem fRa_once : ∀ (l : List Alt) (G : Str → Bool) (out : List Str), out.Nodup → (fRa l G out).Nodup
  | [], _, _, h => by rw [fRa]; exact h
  | .mk _ _ _ vs c :: l, G, out, h => by rw [fRa]; exact fRa_once l _ _ (fR_once c _ _ h)
end
mutual
theorem fR_sub : ∀ (c : Core) (G : Str → Bool) (out : List Str), ∀ s ∈ out, s ∈ fR c G out
  | .mk f _ x _ ks bs al, G, out, s, h => by
    rw [fR]
    split
    · split
      · exact List.mem_append.2 (.inl h)
      · exact h
    · exact fRa_sub al _ _ s (fRb_sub bs _ _ s (fRk_sub ks _ _ s h))
theorem fRk_sub : ∀ (l : List Core) (G : Str → Bool) (out : List Str), ∀ s ∈ out, s ∈ fRk l G out
  | [], _, _, s, h => by rw [fRk]; exact h
  | c :: l, G, out, s, h => by rw [fRk]; exact fRk_sub l _ _ s (fR_sub c _ _ s h)
theorem fRb_sub : ∀ (l : List Bind) (G : Str → Bool) (out : List Str), ∀ s ∈ out, s ∈ fRb l G out
  | [], _, _, s, h => by rw [fRb]; exact h
  | .mk _ _ c :: l, G, out, s, h => by rw [fRb]; exact fRb_sub l _ _ s (fR_sub c _ _ s h)
theorem fRa_sub : ∀ (l : List Alt) (G : Str → Bool) (out : List Str), ∀ s ∈ out, s ∈ fRa l G out
  | [], _, _, s, h => by rw [fRa]; exact h
  | .mk _ _ _ vs c :: l, G, out, s, h => by rw [fRa]; exact fRa_sub l _ _ s (fR_sub c _ _ s h)
end
mutual
theorem fR_cl : ∀ (c : Core) (G H : Str → Bool) (out : List Str), Le G H → (∀ s ∈ fR c G out, H s = true) → clR c H = true
  | .mk f _ x _ ks bs al, G, H, out, hl, h => by
    rw [fR] at h
    rw [clR]
    by_cases h1 : f = 1
    · rw [if_pos h1] at h ⊢
      by_cases hg : G x = true
      · exact hl x hg
      · have hg' : G x = false := by simpa using hg
        rw [hg'] at h
        by_cases hx : x ∈ out
        · simp [hx] at h; exact h x hx
        · simp [hx] at h; exact h x (.inr rfl)
    · rw [if_neg h1] at h ⊢
      have hl' := hl.ext (gvs f x bs)
      have he : ∀ s, H s = true → ext H (gvs f x bs) s = true := fun s hs => by unfold ext; rw [hs]; rfl
      have ha := fRa_cl al _ _ _ hl' fun s hs => he s (h s hs)
      have hb := fRb_cl bs _ _ _ hl' fun s hs => he s (h s (fRa_sub al _ _ s hs))
      have hk := fRk_cl ks _ _ _ hl' fun s hs => he s (h s (fRa_sub al _ _ s (fRb_sub bs _ _ s hs)))
      rw [ha, hb, hk]; rfl
theorem fRk_cl : ∀ (l : List Core) (G H : Str → Bool) (out : List Str), Le G H → (∀ s ∈ fRk l G out, H s = true) → clCs l H = true
  | [], _, _, _, _, _ => by rw [clCs]
  | c :: l, G, H, out, hl, h => by
    rw [fRk] at h
    rw [clCs, fR_cl c G H out hl fun s hs => h s (fRk_sub l _ _ s hs), fRk_cl l G H _ hl h]; rfl
theorem fRb_cl : ∀ (l : List Bind) (G H : Str → Bool) (out : List Str), Le G H → (∀ s ∈ fRb l G out, H s = true) → clBs l H = true
  | [], _, _, _, _, _ => by rw [clBs]
  | .mk _ _ c :: l, G, H, out, hl, h => by
    rw [fRb] at h
    rw [clBs, fR_cl c G H out hl fun s hs => h s (fRb_sub l _ _ s hs), fRb_cl l G H _ hl h]; rfl
theorem fRa_cl : ∀ (l : List Alt) (G H : Str → Bool) (out : List Str), Le G H → (∀ s ∈ fRa l G out, H s = true) → clAs l H = true
  | [], _, _, _, _, _ => by rw [clAs]
  | .mk _ _ _ v c :: l, G, H, out, hl, h => by
    rw [fRa] at h
    rw [clAs, fR_cl c (ext G v) (ext H v) out (hl.ext v) (fun s hs => by unfold ext; rw [h s (fRa_sub l _ _ s hs)]; rfl), fRa_cl l G H _ hl h]; rfl
end
/-- A lambda for each of some names, but those that there are. -/
def closeR (N : List Str) : List Str → Core → Core
  | [], c => c
  | s :: l, c => closeR N l (if s ∈ N then c else lamC s c)
theorem closeR_app (N : List Str) (s : Str) : ∀ (l : List Str) (c : Core), closeR N (l ++ [s]) c = if s ∈ N then closeR N l c else lamC s (closeR N l c)
  | [], _ => rfl
  | x :: l, c => by rw [List.cons_append, closeR, closeR_app N s l]; rfl
theorem cl_lam (s : Str) (c : Core) (H : Str → Bool) : clR (lamC s c) H = clR c (ext H [s]) := by
  unfold lamC
  rw [clR, if_neg (by decide), clBs, clAs, clCs, clCs]
  rw [show gvs 5 s [] = [s] from rfl]
  simp
theorem close_cl (N : List Str) : ∀ (l : List Str) (c : Core), clR c (ext (fun s => decide (s ∈ N)) l) = true → clR (closeR N l c) (fun s => decide (s ∈ N)) = true
  | [], c, h => by rw [ext_nil] at h; exact h
  | s :: l, c, h => by
    rw [closeR]
    refine close_cl N l _ ?_
    split
    · rename_i hs
      refine clR_mono c (fun x hx => ?_) h
      simp only [ext, Bool.or_eq_true, decide_eq_true_eq, List.mem_cons] at hx ⊢
      rcases hx with hx | rfl | hx
      · exact .inl hx
      · exact .inl hs
      · exact .inr hx
    · rw [cl_lam, ext_ext]
      refine clR_mono c (fun x hx => ?_) h
      simp only [ext, Bool.or_eq_true, decide_eq_true_eq, List.mem_cons, List.mem_append, List.not_mem_nil, or_false] at hx ⊢
      rcases hx with hx | rfl | hx
      · exact .inl hx
      · exact .inr (.inr rfl)
      · exact .inr (.inl hx)
theorem g_lam {s : Str} {c : Core} (hs : s ∈ nmL) (h : gR c = true) : gR (lamC s c) = true := by
  have : nmB s = true := decide_eq_true hs
  unfold lamC
  rw [gR, gCs, gCs, gBs, gAs, h, if_pos rfl, this]; rfl
theorem close_g (N : List Str) : ∀ (l : List Str) (c : Core), (∀ s ∈ l, s ∈ nmL) → gR c = true → gR (closeR N l c) = true ∧ csize (closeR N l c) ≤ csize c + 4 * l.length ∧ lamsN (closeR N l c) ≤ lamsN c + l.length
  | [], c, _, h => ⟨h, by rw [closeR]; simp, by rw [closeR]; simp⟩
  | s :: l, c, hl, h => by
    have hs := hl s List.mem_cons_self
    have h3 := nm_len s hs
    rw [closeR, List.length_cons]
    by_cases hn : s ∈ N
    · rw [if_pos hn]
      obtain ⟨i1, i2, i3⟩ := close_g N l c (fun x hx => hl x (List.mem_cons_of_mem _ hx)) h
      exact ⟨i1, by omega, by omega⟩
    · rw [if_neg hn]
      obtain ⟨i1, i2, i3⟩ := close_g N l (lamC s c) (fun x hx => hl x (List.mem_cons_of_mem _ hx)) (g_lam hs h)
      have e1 : csize (lamC s c) = 1 + s.length + csize c := by unfold lamC; rw [csize, csizes, csizes, bsizes, asizes]; simp
      have e2 : lamsN (lamC s c) = 1 + lamsN c := by unfold lamC; rw [lamsN, lamsCs, lamsCs, lamsBs, lamsAs]; simp
      exact ⟨i1, by omega, by omega⟩
def lnames : List Str := [[120], [98], [122, 64, 49], [103]]
def lbase (l : List (List Int)) (k : Nat) : List Bind := (List.range k).map fun i => .mk (lnames[i]?.getD []) zTy (eraseR (madeR (l[i]?.getD [])))
def closeB (N : List Str) (b : Bind) : Bind := .mk b.name b.ty (closeR N (fR b.body (fun _ => false) []) b.body)
/-- The binds of the law. -/
def lbinds (l : List (List Int)) : List Bind := (lbase l (min l.length 4)).map (closeB (lnames.take (min l.length 4)))
theorem lbase_names (l : List (List Int)) : ∀ k, k ≤ 4 → (lbase l k).map Bind.name = lnames.take k := by
  intro k hk
  unfold lbase
  rw [List.map_map]
  have : k = 0 ∨ k = 1 ∨ k = 2 ∨ k = 3 ∨ k = 4 := by omega
  rcases this with rfl | rfl | rfl | rfl | rfl <;> rfl
theorem lbinds_names (l : List (List Int)) : (lbinds l).map Bind.name = lnames.take (min l.length 4) := by
  unfold lbinds
  rw [List.map_map, ← lbase_names l _ (by omega)]
  rfl
/-- What the law's binds are. -/
structure BG (N : List Str) (b : Bind) : Prop where
  g : gR b.body = true
  sz : csize b.body ≤ 3020
  lams : lamsN b.body ≤ 34
  cl : clR b.body (fun s => decide (s ∈ N)) = true
  nm : b.name.length ≤ 3
  ne : b.name ≠ []
theorem lbinds_g (l : List (List Int)) : ∀ b ∈ lbinds l, BG (lnames.take (min l.length 4)) b := by
  intro b hb
  have hbn : b.name ∈ lnames := by
    have : b.name ∈ (lbinds l).map Bind.name := List.mem_map.2 ⟨b, hb, rfl⟩
    rw [lbinds_names] at this
    exact List.mem_of_mem_take this
  obtain ⟨x, hx, rfl⟩ := List.mem_map.1 hb
  obtain ⟨i, hi, rfl⟩ := List.mem_map.1 hx
  obtain ⟨m1, m2, m3, m4⟩ := made_g (l[i]?.getD [])
  have hf := g_free _ (fun _ => false) [] m1 (by simp)
  have hfl : (fR (eraseR (madeR (l[i]?.getD []))) (fun _ => false) []).length ≤ 5 := nodup_len nmL _ (fR_once _ _ _ List.nodup_nil) hf
  obtain ⟨c1, c2, c3⟩ := close_g (lnames.take (min l.length 4)) _ _ hf m1
  refine ⟨c1, ?_, ?_, ?_, (by decide : ∀ s ∈ lnames, s.length ≤ 3) _ hbn, (by decide : ∀ s ∈ lnames, s ≠ []) _ hbn⟩
  · exact Nat.le_trans c2 (by omega)
  · exact Nat.le_trans c3 (by omega)
  · refine close_cl _ _ _ (fR_cl _ (fun _ => false) _ [] (fun s h => by cases h) fun s hs => ?_)
    simp only [ext, Bool.or_eq_true, decide_eq_true_eq]
    exact .inr hs
theorem BG.lok {N : List Str} {b : Bind} (h : BG N b) : LOk (fun s => decide (s ∈ N)) b := ⟨g_ok _ h.g, by have := h.sz; omega, h.cl, h.ne⟩
theorem BG.pok {N : List Str} {b : Bind} (h : BG N b) : POk b := by
  obtain ⟨w1, w2, w3⟩ := g_wf _ h.g
  obtain ⟨c1, c2, c3⟩ := nm_chain _ b.body (Nat.le_refl _) w1 w3
  have h1 := h.sz
  have h2 := h.lams
  have h3 := h.nm
  exact ⟨⟨w1, by omega, by omega⟩, .inr ⟨c2, fun s hs => c1 s (of_decide_eq_true hs)⟩, by omega, by omega⟩
end Go.Proofs.YtojcjjjpniimiaaDoor

/- HOW MUCH is lifted. -/
namespace Go.Proofs.YtojcjjjpniimiaaDoor
open Go Go.AM
set_option maxRecDepth 20000

/-- How great the bodies are, all together. -/
def msum : List Sup → Nat
  | [] => 0
  | x :: l => csize x.body + msum l
theorem msum_app : ∀ a b : List Sup, msum (a ++ b) = msum a + msum b
  | [], b => by rw [List.nil_append, msum, Nat.zero_add]
  | x :: a, b => by rw [List.cons_append, msum, msum, msum_app a b, Nat.add_assoc]
theorem msum_set (c : Core) : ∀ (l : List Sup) (k : Nat), msum (setBody l k c) ≤ msum l + csize c
  | [], k => by rw [setBody]; exact Nat.le_add_right _ _
  | x :: l, 0 => by rw [setBody, msum, msum]; dsimp only; omega
  | x :: l, k + 1 => by rw [setBody, msum, msum]; have := msum_set c l k; omega
theorem msum_mem : ∀ {l : List Sup} {x : Sup}, x ∈ l → csize x.body ≤ msum l
  | y :: l, x, h => by
    rw [msum]
    rcases List.mem_cons.1 h with rfl | h
    · omega
    · have := msum_mem h; omega
def Sh40 (l : List Str) : Prop := ∀ s ∈ l, s.length ≤ 40
theorem paramsTo_sh : ∀ (l : List Str) (i : Nat), (∀ s ∈ l, s ∈ nmL) → Sh40 (paramsTo i l)
  | [], _, _ => by rw [paramsTo]; intro s hs; simp at hs
  | s :: l, i, h => by
    have ih := paramsTo_sh l (i + 1) fun x hx => h x (List.mem_cons_of_mem _ hx)
    have h1 := nm_len s (h s List.mem_cons_self)
    have h2 := dec_len i
    rw [paramsTo]
    intro x hx
    rcases List.mem_cons.1 hx with rfl | hx
    · split
      · simp only [List.length_append, List.length_cons, List.length_nil]; omega
      · omega
    · exact ih x hx
def P100 (l : List Sup) : Prop := ∀ x ∈ l, x.params.length ≤ 100 ∧ Sh40 x.params
theorem P100.app {a b : List Sup} (ha : P100 a) (hb : P100 b) : P100 (a ++ b) := fun x hx => (List.mem_append.1 hx).elim (ha x) (hb x)
theorem P100.set (c : Core) : ∀ {l : List Sup} (k : Nat), P100 l → P100 (setBody l k c)
  | [], k, h => by rw [setBody]; exact h
  | x :: l, 0, h => by
    rw [setBody]
    intro y hy
    rcases List.mem_cons.1 hy with rfl | hy
    · exact h x List.mem_cons_self
    · exact h y (List.mem_cons_of_mem _ hy)
  | x :: l, k + 1, h => by
    rw [setBody]
    intro y hy
    rcases List.mem_cons.1 hy with rfl | hy
    · exact h _ List.mem_cons_self
    · exact P100.set c (l := l) k (fun z hz => h z (List.mem_cons_of_mem _ hz)) y hy
theorem appVars_size : ∀ (l : List Str) (c : Core), (∀ s ∈ l, s ∈ nmL) → csize (appVars c l) ≤ csize c + 5 * l.length
  | [], c, _ => by rw [appVars]; exact Nat.le_add_right _ _
  | s :: l, c, h => by
    have h1 := appVars_size l (appC c (varC s)) fun x hx => h x (List.mem_cons_of_mem _ hx)
    have h2 := nm_len s (h s List.mem_cons_self)
    have h3 : csize (appC c (varC s)) = csize c + s.length + 2 := by
      unfold appC varC
      rw [csize, csizes, csizes, csizes, bsizes, asizes, csize, csizes, bsizes, asizes]
      simp
      omega
    rw [appVars, List.length_cons]
    omega
theorem chainNs_nm {ks : List Core} (hw : wfCs ks = true) (hn : nmCs ks = true) : (∀ s ∈ chainNs ks, s ∈ nmL) ∧ (chainNs ks).length ≤ lamsCs ks := by
  cases ks with
  | nil => rw [chainNs]; exact ⟨by simp, by simp⟩
  | cons k ks =>
    rw [wfCs, Bool.and_eq_true] at hw
    rw [nmCs, Bool.and_eq_true] at hn
    obtain ⟨h1, _, h3⟩ := nm_chain _ k (Nat.le_refl _) hw.1 hn.1
    rw [chainNs, lamsCs]
    exact ⟨h1, by omega⟩
def Sml (of : Str) : Prop := of.length ≤ 10
def AIn (A : Str → Bool) : Prop := ∀ s, A s = true → s ∈ nmL
theorem AIn.ext {A : Str → Bool} (h : AIn A) {l : List Str} (hl : ∀ s ∈ l, s ∈ nmL) : AIn (ext A l) := fun s hs => by
  simp only [YtojcjjjpniimiaaDoor.ext, Bool.or_eq_true, decide_eq_true_eq] at hs
  exact hs.elim (h s) (hl s)
mutual
theorem part_sz {of : Str} (ho : Sml of) : ∀ (c : Core) (ch : Bool) (A : Str → Bool) (made : List Sup), wfR c = true → nmR c = true → lamsN c ≤ 90 → AIn A → P100 made →
    csize (partR of ch c A made).1 + msum (partR of ch c A made).2 ≤ csize c + msum made + 100 * lamsN c ∧ P100 (partR of ch c A made).2
  | .mk f n s t ks bs al, ch, A, made, hw, hn, hl, hA, hp => by
    have hw0 := hw
    have hn0 := hn
    simp only [wfR, Bool.and_eq_true] at hw
    simp only [nmR, Bool.and_eq_true] at hn
    rw [lamsN] at hl ⊢
    rw [partR]
    by_cases h5 : f = 5
    · rw [if_pos h5] at hl hw hn ⊢
      rw [if_pos h5]
      have hne : ks ≠ [] := fun e => by subst e; simp at hw
      cases ch with
      | true =>
        rw [if_pos rfl]
        obtain ⟨k1, k2⟩ := partK_sz ho ks A made hne hw.2.1 hn.2.1 (by omega) hA hp
        rw [csize]
        exact ⟨by omega, k2⟩
      | false =>
        rw [if_neg Bool.false_ne_true]
        dsimp only
        have hfi := freeR_in A (.mk f n s t ks bs al) (fun _ => false) [] (fun s hs => by simp at hs)
        have hfo := freeR_once A (.mk f n s t ks bs al) (fun _ => false) [] List.nodup_nil
        have hfn : ∀ x ∈ freeR A (.mk f n s t ks bs al) (fun _ => false) [], x ∈ nmL := fun x hx => hA x (hfi x hx)
        have hfl := nodup_len nmL _ hfo hfn
        have hnl : nmL.length = 5 := rfl
        obtain ⟨c1, c2⟩ := chainNs_nm hw.2.1 hn.2.1
        generalize freeR A (.mk f n s t ks bs al) (fun _ => false) [] = free at hfn hfl ⊢
        have han : ∀ x ∈ free ++ (s :: chainNs ks), x ∈ nmL := fun x hx => by
          rcases List.mem_append.1 hx with hx | hx
          · exact hfn x hx
          · rcases List.mem_cons.1 hx with rfl | hx
            · exact of_decide_eq_true hn.1
            · exact c1 x hx
        have hal : (free ++ (s :: chainNs ks)).length ≤ 100 := by rw [List.length_append, List.length_cons]; omega
        generalize free ++ (s :: chainNs ks) = all at han hal ⊢
        have hpl : (paramsR all).length = all.length := paramsTo_len all 0
        obtain ⟨k1, k2⟩ := partK_sz ho ks (fun x => decide (x ∈ all)) (made ++ [⟨fname of made.length, paramsR all, zCore⟩]) hne hw.2.1 hn.2.1 (by omega) (fun x hx => han x (of_decide_eq_true hx)) (hp.app fun x hx => by rw [List.mem_singleton.1 hx]; exact ⟨by show (paramsR all).length ≤ 100; omega, paramsTo_sh all 0 han⟩)
        rw [msum_app] at k1
        have e1 : msum [⟨fname of made.length, paramsR all, zCore⟩] = 1 := by simp [msum, zCore, csize, csizes, bsizes, asizes]
        rw [e1] at k1
        generalize partK of ks (fun x => decide (x ∈ all)) (made ++ [⟨fname of made.length, paramsR all, zCore⟩]) = r at k1 k2 ⊢
        have hs := msum_set r.1 r.2 made.length
        have ha := appVars_size free (varC (fname of made.length)) hfn
        have hd := dec_len (made.length + 1)
        have hv : csize (varC (fname of made.length)) ≤ 33 := by
          unfold varC fname
          unfold Sml at ho
          simp only [csize, csizes, bsizes, asizes, List.length_append]
          simp
          omega
        refine ⟨?_, P100.set r.1 made.length k2⟩
        rw [csize]
        omega
    · rw [if_neg h5] at hl ⊢
      rw [if_neg h5]
      have hg := nm_gvs hn0
      have hA' := hA.ext hg
      obtain ⟨b1, b2⟩ := partBs_sz ho bs (ext A (gvs f s bs)) made hw.2.2.1 hn.2.2.1 (by omega) hA' hp
      obtain ⟨k1, k2⟩ := partCs_sz ho ks (ext A (gvs f s bs)) (partBs of bs (ext A (gvs f s bs)) made).2 hw.2.1 hn.2.1 (by omega) hA' b2
      obtain ⟨a1, a2⟩ := partAs_sz ho al (ext A (gvs f s bs)) (partCs of ks (ext A (gvs f s bs)) (partBs of bs (ext A (gvs f s bs)) made).2).2 hw.2.2.2 hn.2.2.2 (by omega) hA' k2
      refine ⟨?_, a2⟩
      dsimp only
      rw [csize, csize]
      omega
theorem partK_sz {of : Str} (ho : Sml of) : ∀ (l : List Core) (A : Str → Bool) (made : List Sup), l ≠ [] → wfCs l = true → nmCs l = true → lamsCs l ≤ 90 → AIn A → P100 made →
    csize (partK of l A made).1 + msum (partK of l A made).2 ≤ csizes l + msum made + 100 * lamsCs l ∧ P100 (partK of l A made).2
  | [], _, _, h, _, _, _, _, _ => absurd rfl h
  | c :: l, A, made, _, hw, hn, hl, hA, hp => by
    rw [wfCs, Bool.and_eq_true] at hw
    rw [nmCs, Bool.and_eq_true] at hn
    rw [lamsCs] at hl ⊢
    rw [partK, csizes]
    obtain ⟨h1, h2⟩ := part_sz ho c true A made hw.1 hn.1 (by omega) hA hp
    exact ⟨by omega, h2⟩
theorem partCs_sz {of : Str} (ho : Sml of) : ∀ (l : List Core) (A : Str → Bool) (made : List Sup), wfCs l = true → nmCs l = true → lamsCs l ≤ 90 → AIn A → P100 made →
    csizes (partCs of l A made).1 + msum (partCs of l A made).2 ≤ csizes l + msum made + 100 * lamsCs l ∧ P100 (partCs of l A made).2
  | [], _, _, _, _, _, _, hp => by rw [partCs]; exact ⟨by dsimp only; rw [lamsCs]; omega, hp⟩
  | c :: l, A, made, hw, hn, hl, hA, hp => by
    rw [wfCs, Bool.and_eq_true] at hw
    rw [nmCs, Bool.and_eq_true] at hn
    rw [lamsCs] at hl ⊢
    rw [partCs]
    obtain ⟨h1, h2⟩ := part_sz ho c false A made hw.1 hn.1 (by omega) hA hp
    obtain ⟨h3, h4⟩ := partCs_sz ho l A (partR of false c A made).2 hw.2 hn.2 (by omega) hA h2
    refine ⟨?_, h4⟩
    dsimp only
    rw [csizes, csizes]
    omega
theorem partBs_sz {of : Str} (ho : Sml of) : ∀ (l : List Bind) (A : Str → Bool) (made : List Sup), wfBs l = true → nmBs l = true → lamsBs l ≤ 90 → AIn A → P100 made →
    bsizes (partBs of l A made).1 + msum (partBs of l A made).2 ≤ bsizes l + msum made + 100 * lamsBs l ∧ P100 (partBs of l A made).2
  | [], _, _, _, _, _, _, hp => by rw [partBs]; exact ⟨by dsimp only; rw [lamsBs]; omega, hp⟩
  | .mk s t c :: l, A, made, hw, hn, hl, hA, hp => by
    simp only [wfBs, Bool.and_eq_true] at hw
    simp only [nmBs, Bool.and_eq_true] at hn
    rw [lamsBs] at hl ⊢
    rw [partBs]
    obtain ⟨h1, h2⟩ := part_sz ho c false A made hw.1.2 hn.1.2 (by omega) hA hp
    obtain ⟨h3, h4⟩ := partBs_sz ho l A (partR of false c A made).2 hw.2 hn.2 (by omega) hA h2
    refine ⟨?_, h4⟩
    dsimp only
    rw [bsizes, bsizes, bsize, bsize]
    omega
theorem partAs_sz {of : Str} (ho : Sml of) : ∀ (l : List Alt) (A : Str → Bool) (made : List Sup), wfAs l = true → nmAs l = true → lamsAs l ≤ 90 → AIn A → P100 made →
    asizes (partAs of l A made).1 + msum (partAs of l A made).2 ≤ asizes l + msum made + 100 * lamsAs l ∧ P100 (partAs of l A made).2
  | [], _, _, _, _, _, _, hp => by rw [partAs]; exact ⟨by dsimp only; rw [lamsAs]; omega, hp⟩
  | .mk f n s v c :: l, A, made, hw, hn, hl, hA, hp => by
    rw [wfAs, Bool.and_eq_true] at hw
    simp only [nmAs, Bool.and_eq_true] at hn
    rw [lamsAs] at hl ⊢
    rw [partAs]
    obtain ⟨h1, h2⟩ := part_sz ho c false (ext A v) made hw.1 hn.1.2 (by omega) (hA.ext fun x hx => of_decide_eq_true (List.all_eq_true.1 hn.1.1 x hx)) hp
    obtain ⟨h3, h4⟩ := partAs_sz ho l A (partR of false c (ext A v) made).2 hw.2 hn.2 (by omega) hA h2
    refine ⟨?_, h4⟩
    dsimp only
    rw [asizes, asizes, asize, asize]
    omega
end
/-- What is lifted of the law's binds is little. -/
theorem liftB_sz {N : List Str} {b : Bind} (h : BG N b) : ∀ x ∈ liftB b, csize x.body ≤ 10000 ∧ x.params.length ≤ 100 ∧ Sh40 x.params := by
  obtain ⟨w1, w2, w3⟩ := g_wf _ h.g
  have hp := h.pok
  obtain ⟨c1, c2, c3⟩ := nm_chain _ b.body (Nat.le_refl _) w1 w3
  obtain ⟨x1, x2, x3, x4, x5, x6⟩ := wf_chain _ b.body (Nat.le_refl _) w1
  have hs := h.sz
  have hl := h.lams
  obtain ⟨k1, k2⟩ := part_sz (of := b.name) (by have := h.nm; unfold Sml; omega) (chainB b.body) false (fun x => decide (x ∈ chainN b.body)) [] x2 c2 (by omega) (fun x hx => c1 x (of_decide_eq_true hx)) (fun x hx => by simp at hx)
  rw [liftB_eq w1]
  generalize partR b.name false (chainB b.body) (fun x => decide (x ∈ chainN b.body)) [] = r at k1 k2 ⊢
  rw [msum] at k1
  intro x hx
  rcases List.mem_cons.1 hx with rfl | hx
  · have hpl : (paramsR (chainN b.body)).length = (chainN b.body).length := paramsTo_len _ 0
    have := hp.cn
    exact ⟨by show csize r.1 ≤ _; omega, by show (paramsR (chainN b.body)).length ≤ _; omega, paramsTo_sh _ 0 c1⟩
  · have := msum_mem hx
    exact ⟨by omega, k2 x hx⟩
theorem liftB_few {N : List Str} {b : Bind} (h : BG N b) : (liftB b).length ≤ 35 := by
  obtain ⟨w1, w2, w3⟩ := g_wf _ h.g
  obtain ⟨c1, c2, c3⟩ := nm_chain _ b.body (Nat.le_refl _) w1 w3
  have hl := h.lams
  rw [liftB_eq w1, List.length_cons]
  have := part_few b.name (chainB b.body) false (fun x => decide (x ∈ chainN b.body)) []
  simp only [List.length_nil] at this
  omega
theorem liftR_small {N : List Str} {l : List Bind} (h : ∀ b ∈ l, BG N b) : (∀ x ∈ liftR l, csize x.body ≤ 10000 ∧ x.params.length ≤ 100) ∧ (liftR l).length ≤ 35 * l.length := by
  refine ⟨fun x hx => ?_, ?_⟩
  · obtain ⟨b, hb, hx'⟩ := List.mem_flatMap.1 hx
    obtain ⟨h1, h2, _⟩ := liftB_sz (h b hb) x hx'
    exact ⟨h1, h2⟩
  · induction l with
    | nil => simp [liftR]
    | cons b l ih =>
      have h1 := liftB_few (h b List.mem_cons_self)
      have h2 := ih fun x hx => h x (List.mem_cons_of_mem _ hx)
      unfold liftR at h2 ⊢
      rw [List.flatMap_cons, List.length_append, List.length_cons]
      omega
theorem liftR_short {N : List Str} {l : List Bind} (h : ∀ b ∈ l, BG N b) : ∀ x ∈ liftR l, Sh40 x.params := fun x hx => by
  obtain ⟨b, hb, hx'⟩ := List.mem_flatMap.1 hx
  exact (liftB_sz (h b hb) x hx').2.2
end Go.Proofs.YtojcjjjpniimiaaDoor
