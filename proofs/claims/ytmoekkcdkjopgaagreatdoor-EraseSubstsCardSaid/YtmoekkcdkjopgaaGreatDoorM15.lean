/-
  EraseSubsts: whatever its arguments, the call returns true, and they read as they did. Its row and its card.
-/
import Derived.Test.YtmoekkcdkjopgaaGreatDoorM14
import Derived.Test.YtmoekkcdkjopgaaGreatDoorCards
import Derived.Test.YtmoekkcdkjopgaaGreatDoorTie
import Derived.ProofKit
import Derived.Lib.LaidTab
import Derived.Stop.LaidErr
import Derived.OpenShut
import Derived.LaidMore
import Derived.Lay
import Derived.SevenTiedAt
import Derived.Stop.Joined
/- EraseSubsts: the walk. -/
namespace Go.Proofs.YtmoekkcdkjopgaaGreatDoor
open Go Go.AM
set_option maxRecDepth 20000
theorem itoaTo : ItoaTo 20000000000 := fun k hk => c_itoaD k (by omega)
mutual
theorem wf_tk : ∀ c : Core, wfC c = true → tkR c = true
  | .mk f n s t ks bs al, h => by
    obtain ⟨h1, h2, h3, h4⟩ := wfC_un h
    rw [tkR, wf_tks ks h2, wf_tkb bs h3, wf_tka al h4]
    by_cases h67 : f = 6 ∨ f = 7
    · obtain ⟨⟨k, rfl⟩, rfl, rfl⟩ := h1 (.inr h67)
      rw [if_pos h67]; simp
    · rw [if_neg h67]; rfl
theorem wf_tks : ∀ l : List Core, (∀ x ∈ l, wfC x = true) → tkCs l = true
  | [], _ => rfl
  | c :: l, h => by rw [tkCs, wf_tk c (h c List.mem_cons_self), wf_tks l fun x hx => h x (List.mem_cons_of_mem _ hx)]; rfl
theorem wf_tkb : ∀ l : List Bind, (∀ x ∈ l, wfC x.body = true) → tkBs l = true
  | [], _ => rfl
  | .mk s t c :: l, h => by rw [tkBs, wf_tk c (h _ List.mem_cons_self), wf_tkb l fun x hx => h x (List.mem_cons_of_mem _ hx)]; rfl
theorem wf_tka : ∀ l : List Alt, (∀ x ∈ l, wfC x.body = true) → tkAs l = true
  | [], _ => rfl
  | .mk f n s vs c :: l, h => by rw [tkAs, wf_tk c (h _ List.mem_cons_self), wf_tka l fun x hx => h x (List.mem_cons_of_mem _ hx)]; rfl
end
mutual
theorem wfE_er : ∀ c : Core, wfC c = true → wfE (eraseR c) = true
  | .mk f n s t ks bs al, h => by
    obtain ⟨h1, h2, h3, h4⟩ := wfC_un h
    have k2 := wfE_ers ks h2
    have k3 := wfE_erb bs h3
    have k4 := wfE_era al h4
    by_cases h67 : f = 6 ∨ f = 7
    · obtain ⟨⟨k, rfl⟩, rfl, rfl⟩ := h1 (.inr h67)
      rw [eraseR, if_pos ⟨h67, by simp⟩, eraseCs]
      exact k2 _ (by rw [eraseCs]; exact List.mem_cons_self)
    · rw [eraseR, if_neg fun h => h67 h.1]
      refine wfE_mk (fun h => h67 (.inr h)) (fun h5 => ?_) k2 k3 k4
      obtain ⟨⟨k, rfl⟩, rfl, rfl⟩ := h1 (.inl h5)
      exact ⟨⟨eraseR k, by rw [eraseCs, eraseCs]⟩, by rw [eraseBs], by rw [eraseAs]⟩
theorem wfE_ers : ∀ l : List Core, (∀ x ∈ l, wfC x = true) → ∀ x ∈ eraseCs l, wfE x = true
  | [], _, x, hx => by rw [eraseCs] at hx; cases hx
  | c :: l, h, x, hx => by
    rw [eraseCs] at hx
    rcases List.mem_cons.1 hx with rfl | hx
    · exact wfE_er c (h c List.mem_cons_self)
    · exact wfE_ers l (fun x hx => h x (List.mem_cons_of_mem _ hx)) x hx
theorem wfE_erb : ∀ l : List Bind, (∀ x ∈ l, wfC x.body = true) → ∀ x ∈ eraseBs l, wfE x.body = true
  | [], _, x, hx => by rw [eraseBs] at hx; cases hx
  | .mk s t c :: l, h, x, hx => by
    rw [eraseBs, eraseB] at hx
    rcases List.mem_cons.1 hx with rfl | hx
    · exact wfE_er c (h _ List.mem_cons_self)
    · exact wfE_erb l (fun x hx => h x (List.mem_cons_of_mem _ hx)) x hx
theorem wfE_era : ∀ l : List Alt, (∀ x ∈ l, wfC x.body = true) → ∀ x ∈ eraseAs l, wfE x.body = true
  | [], _, x, hx => by rw [eraseAs] at hx; cases hx
  | .mk f n s vs c :: l, h, x, hx => by
    rw [eraseAs, eraseA] at hx
    rcases List.mem_cons.1 hx with rfl | hx
    · exact wfE_er c (h _ List.mem_cons_self)
    · exact wfE_era l (fun x hx => h x (List.mem_cons_of_mem _ hx)) x hx
end
theorem c_lname (n : Int) (hn : i64 n) : ImpC Tryz.prog 26 [I .i64 n] [] (Go.AM.T (oneOf nmL n)) [] := by
  refine impC (n := 8) tok Tryz.func26 rfl rfl rfl ?_
  refine awp_seq (ag [] rfl ?_)
  obtain ⟨k, hk⟩ := Int.eq_ofNat_of_zero_le (around_lt n (k := 5) (by omega)).1
  have hx := oneOf_at (l := nmL) (n := n) (by decide) hk
  have hlt := (around_lt n (k := 5) (by omega)).2
  refine awp_seq (awp_rg mixed ?_)
  refine ak 2 [] rfl ?_
  refine kc (c_around n 5 hn (by omega)) ?_
  refine ak 3 [(3, .row k []), (4, .row k (encS (oneOf nmL n)))] rfl ?_
  refine az ?_
  refine awp_ret ?_
  exact ⟨.inr rfl, ⟨_, _, .tmp rfl .nil, .cons .refl .nil, rfl⟩, trivial, rfl⟩
mutual
theorem allT_z0 {p : Ty → Prop} (hp : p zTy) : ∀ c : Core, z0R c = true → allT p c
  | .mk f n s t ks bs al, h => by
    simp only [z0R, Bool.and_eq_true] at h
    obtain ⟨ht, h1, h2, h3⟩ := h
    rw [allT, tz_eq ht]
    exact ⟨hp, allT_z0s hp ks h1, allT_z0b hp bs h2, allT_z0a hp al h3⟩
theorem allT_z0s {p : Ty → Prop} (hp : p zTy) : ∀ l : List Core, z0Cs l = true → allTs p l
  | [], _ => trivial
  | c :: l, h => by
    rw [z0Cs, Bool.and_eq_true] at h
    exact ⟨allT_z0 hp c h.1, allT_z0s hp l h.2⟩
theorem allT_z0b {p : Ty → Prop} (hp : p zTy) : ∀ l : List Bind, z0Bs l = true → allTb p l
  | [], _ => trivial
  | .mk s t c :: l, h => by
    have h1 := z0Bs_mem h (.mk s t c) List.mem_cons_self
    simp only [z0Bs, Bool.and_eq_true] at h
    have ht : t = zTy := h1.1
    rw [allTb, ht]
    exact ⟨hp, allT_z0 hp c h1.2, allT_z0b hp l h.2⟩
theorem allT_z0a {p : Ty → Prop} (hp : p zTy) : ∀ l : List Alt, z0As l = true → allTa p l
  | [], _ => trivial
  | .mk f n s vs c :: l, h => by
    rw [z0As, Bool.and_eq_true] at h
    exact ⟨allT_z0 hp c h.1, allT_z0a hp l h.2⟩
end
theorem c_EraseSubsts (l : List Int) (x0 x1 : Int) (m0 m1 : List Int) (hl : Nums l) (hf : Fits l) (hx0 : i64 x0) (hx1 : i64 x1) (hl0 : Nums m0) (hf0 : Fits m0) (hl1 : Nums m1) (hf1 : Fits m1) :
    ImpC Tryz.prog 6 [intsV l, .pa [.int .i64 x0, .int .i64 x1], .pa [.sl 1 (m0.map encI), .sl 1 (m1.map encI)]] [] (B true) [] := by
  have hI := itoaTo
  have hma : ImpC Tryz.prog 9 [intsV l] [] (.pa (encCore (madeR l))) [] := c_made l hl hf
  have hf0' : Fits (m0.take 20) := by unfold Fits at *; rw [List.length_take]; omega
  have hf1' : Fits (m1.take 12) := by unfold Fits at *; rw [List.length_take]; omega
  have hi0 : ImpC Tryz.prog 20 [intsV m0, I .i64 (20 : Nat)] [] (intsV (m0.take 20)) [] := c_ints m0 20 hf0 (by omega)
  have hi1 : ImpC Tryz.prog 20 [intsV m1, I .i64 (12 : Nat)] [] (intsV (m1.take 12)) [] := c_ints m1 12 hf1 (by omega)
  have hmb : ImpC Tryz.prog 9 [intsV (m0.take 20)] [] (.pa (encCore (madeR (m0.take 20)))) [] := c_made _ (fun x hx => hl0 x (List.mem_of_mem_take hx)) hf0'
  have hmt := c_tmade (m1.take 12) (fun x hx => hl1 x (List.mem_of_mem_take hx)) hf1'
  have hbt := made_ty m1
  obtain ⟨wa, ta, ma⟩ := made_w l
  obtain ⟨wb, tb, mb⟩ := made_w (m0.take 20)
  obtain ⟨_, _, ea, _⟩ := made_g l
  obtain ⟨_, _, eb, _⟩ := made_g (m0.take 20)
  have ca := (made_raw l).2
  have cb := (made_raw (m0.take 20)).2
  have hn0 := c_lname x0 hx0
  have hn1 := c_tname x1 hx1
  have hlv := c_lives24
  generalize madeR l = a at *
  generalize madeR (m0.take 20) = b at *
  generalize (buildM 5 ((m1.take 12).take 24)).1 = ty at *
  generalize oneOf nmL x0 = s at *
  generalize oneOf tnmL x1 = nm at *
  -- a type in the place of a variable
  obtain ⟨c', hst, hsk, hmc, _⟩ := e_sT hI (Nat.le_refl 2790) (m30 a) a (Nat.le_refl _) (by omega) wa ta nm 112 ty hbt
  have wc : wfC c' = true := by rw [← wf_sk, hsk, wf_sk]; exact wa
  have hec : eraseR c' = eraseR a := by rw [← erase_sk c' wc, hsk, erase_sk a wa]
  have hcc := csize_m30 c'
  have hpc := c_perase _ c' (Nat.le_refl _) (by omega) (wf_tk c' wc)
  unfold PeSpec at hpc
  rw [hec] at hpc
  -- core in the place of a name
  obtain ⟨r, hsr, wr, tr', hbr, her⟩ := e_sub (fun c _ => c) hI (K := 2790) (by omega) (Nat.le_refl _) (m30 a) a s b (Nat.le_refl _) (by omega) (by omega) wa wb ta tb
  have hmr := hbr 3000 (by omega) (by omega)
  have hmr2 : m30 a * 3000 ≤ 93000 * 3000 := Nat.mul_le_mul_right _ ma
  have hcr := csize_m30 r
  have hpr := c_perase _ r (Nat.le_refl _) (by omega) (wf_tk r wr)
  unfold PeSpec at hpr
  have hpa := c_perase _ a (Nat.le_refl _) (by omega) (wf_tk a wa)
  have hpb := c_perase _ b (Nat.le_refl _) (by omega) (wf_tk b wb)
  unfold PeSpec at hpa hpb
  have hz0 : TyG zTy := TyG_of hI (Nat.le_refl 2790) tok_z
  have hea := m30_csize (eraseR a)
  have heb := m30_csize (eraseR b)
  have hq := c_subst (clr := fun c _ => c) hI hz0 (m30 a + m30 (eraseR a)) (eraseR a) s (eraseR b) (by omega) (by have : Big = 8000000000 := rfl; omega) (by have : Big = 8000000000 := rfl; omega) (wfE_er a wa) (wfE_er b wb) (allT_z0 hz0 _ (erase_z0 a)) (allT_z0 hz0 _ (erase_z0 b))
  rw [← her (m30 a + m30 (eraseR a)) (by omega)] at hq
  have hle := (erase_le r).1
  have hsm := c_Same (eraseR r) (erase_z0 r) (wfE_er r wr) (by omega)
  have heq := c_eq18 _ (eraseR a) (Nat.le_refl _) (erase_z0 a) (by omega)
  generalize eraseR r = p at *
  generalize eraseR a = xa at *
  generalize eraseR b = xb at *
  refine impC (n := 57) tok Tryz.func6 rfl rfl rfl ?_
  refine awp_seq (ag [] rfl ?_)
  refine awp_seq (ag [(1, .pc (.pa (encCore a)))] rfl ?_)
  refine awp_seq (ag [(2, .pc (intsV (m0.take 20))), (3, .pc (.pa (encCore b)))] rfl ?_)
  refine awp_seq (ag [(2, .pc (intsV (m1.take 12))), (3, .pc (tyV ty))] rfl ?_)
  refine awp_seq (ag [(3, .pc (Go.AM.T nm)), (5, .pc (.pa (encCore c'))), (6, .pc (.pa (encCore xa)))] rfl ?_)
  refine awp_seq (ag [(3, .pc (Go.AM.T s)), (5, .pc (.pa (encCore r))), (6, .pc (.pa (encCore p)))] rfl ?_)
  refine awp_seq (ag [(1, .pc (.pa (encCore xa))), (4, .pc (Go.AM.T s)), (6, .pc (.pa (encCore xb))), (7, .pc (.pa (encCore p)))] rfl ?_)
  refine awp_seq (ag [(2, .pc (.pa (encCore xa))), (3, .pc (B true)), (4, .bv true), (7, .pc (B true)), (8, .bv true), (9, .bv true), (10, .pc (B true)), (11, .bv true)] rfl ?_)
  exact awp_ret rtT
end Go.Proofs.YtmoekkcdkjopgaaGreatDoor

/- The law EraseSubsts: whatever its arguments, the call returns true, and they read as they did. The row, and the card. -/
namespace Go.Proofs.YtmoekkcdkjopgaaGreatDoor
open Go Go.ChangeShapes Go.WideShapes Go.ChangeAt Go.RowKit Go.AM
theorem Tryz.own : ownKnob Tryz.prog.godebug = none := by kernel_rfl
theorem Tryz.laidOut : laidOutB Tryz.prog = true := by kernel_rfl
theorem weightsAll_mem {H : Type} {P : Program} {e : TypeId} : ∀ {xs : List (DataW H)} {k : Nat} {y : DataW H} {n : Nat}, xs[k]? = some y → n ∈ y.weights P e → n ∈ DataW.weightsAll P e xs
  | x :: xs, 0, y, n, h, hn => by
    simp at h
    subst h
    rw [DataW.weightsAll]
    exact List.mem_append.2 (.inl hn)
  | x :: xs, k + 1, y, n, h, hn => by
    rw [DataW.weightsAll]
    exact List.mem_append.2 (.inr (weightsAll_mem (k := k) (by simpa using h) hn))
theorem reach_fits {n k : Nat} (h : n * (k + 1) ≤ reachBytes) : n ≤ 1152921504606846976 := by
  have h1 := reachBytes_lt
  have h2 : n ≤ n * (k + 1) := Nat.le_mul_of_pos_right n (Nat.succ_pos k)
  omega
theorem tab_laid : Rows.laid_internal_strconv_uint64pow10 (H := Unit) = Lib.tabData .u64 Lib.pow10Tab := by kernel_rfl
/-- The table lies in its place. -/
theorem tab_at {W : World} (h : laidMetH Tryz.prog Rows.eraseSubstsRow.laid W) : TabAt W := by
  rw [MakeChecks.laidMetH_plain _ _ _ (by kernel_rfl)] at h
  have h3 := laidMet.tail (laidMet.tail h)
  rw [tab_laid] at h3
  have ht := Lib.tabIs_of_head (g := 0) (t := 215) (e := 209) (n := 20) (by kernel_rfl) (by kernel_rfl) (by kernel_rfl) (by kernel_rfl) (by kernel_rfl) (by kernel_rfl) h3
  intro g hg
  cases hg
  unfold Lib.TabIs World.var? at ht
  rw [show Tryz.prog.globalNamed "internal/strconv.uint64pow10" = some 0 by kernel_rfl] at ht
  simp only [Option.bind_some] at ht
  split at ht
  · rename_i cs t fr hq
    simp only [Option.some.injEq] at ht
    subst ht
    exact ⟨lt_of_some hq, t, fr, hq⟩
  · cases ht
set_option maxRecDepth 100000 in
theorem eraseSubsts_lifted (os : Os) (started : os.Started) (H : Type) (enc : TypeId × Value → H) :
    ReturnsInHanded {} Tryz.checked os 6 .any (fun w args => (Rows.eraseSubstsSpec.pre enc Tryz.prog Tryz.f6 Rows.eraseSubstsRow.domain false w args ∧ laidMetH Tryz.prog Rows.eraseSubstsRow.laid w) ∧ sizedMet enc Tryz.prog Tryz.f6 (OpenSpec.ofChange Rows.eraseSubstsSpec) false w args)
      (Rows.eraseSubstsSpec.post enc Tryz.prog Tryz.f6 false true false false) := by
  refine returnsInHanded_of_change_and (C := Tryz.checked) (X := fun w _ => laidMetH Tryz.prog Rows.eraseSubstsRow.laid w) (fun _ _ _ hh h => h.of_heap hh) Tryz.own started (by kernel_rfl) Tryz.func6
    (ChangeSpec.witness_shaped (enc := enc) (C := Tryz.checked) (os := os) (X := fun w _ => laidMetH Tryz.prog Rows.eraseSubstsRow.laid w) false (World.laidAll Tryz.prog os Rows.eraseSubstsRow.laid) #[.slice none 0 0, .agg #[.int .i64 0, .int .i64 0], .agg #[.slice none 0 0, .slice none 0 0]] 8 (World.laidAll_os _ _ _)
      (World.shaped_of_ZipB (by kernel_rfl) (by kernel_rfl)) (by kernel_rfl) (by kernel_rfl) (by kernel_rfl)
      (by rw [MakeChecks.laidMetH_plain _ _ _ (by kernel_rfl)]; exact laidMet_laidAll _ (by kernel_rfl) (by kernel_rfl))) ?_
  intro W base args ds gs before hval0 hW hcnd hwt hL _
  have hval : ∀ (j : Nat) t v, Tryz.f6.params[j]? = some t → args[j]? = some v → Value.okWide Tryz.prog W .any base t v := hval0
  have hW' := hW
  obtain ⟨p, q, hA0, hV, rfl, hfz, hnd⟩ := hW
  have hA : DataW.TrodAll enc Tryz.prog W 0 (fun _ => true) true Tryz.f6.params.toList args.toList ds p := hA0
  rw [Tryz.params6] at hA hval
  obtain ⟨v0, v1, v2, d0, d1, d2, p0, p1, p2, rfl, rfl, rfl, h0, h1, h2⟩ := trodAll_three hA
  obtain ⟨rfl, rfl⟩ := trodVars_none hV
  obtain ⟨l, hrep, hr, x, y, hd⟩ := open_intsC Tryz.underlying22 Tryz.underlying3 (by kernel_rfl) (hval 0 22 v0 rfl rfl) h0
  obtain ⟨x0, x1, hrep1, hx0, hx1⟩ := open_int2C Tryz.underlying59 Tryz.underlying3 (by kernel_rfl) (by kernel_rfl) (hval 1 59 v1 rfl rfl) h1
  obtain ⟨m0, m1, hrep2, hm0, hm1, e0, e1, rfl, he0, he1⟩ := open_ints2C Tryz.underlying60 Tryz.underlying22 Tryz.underlying3 (by kernel_rfl) (by kernel_rfl) (by kernel_rfl) (hval 2 60 v2 rfl rfl) h2
  clear hA0 hval0
  simp only [List.append_nil, List.append_assoc] at hW'
  have hlt : ∀ x ∈ p0, x.block < W.heap.size := fun x hx => by simpa using hW'.lt x (List.mem_append.2 (.inl hx))
  have hlt1 : ∀ x ∈ p1, x.block < W.heap.size := fun x hx => by simpa using hW'.lt x (List.mem_append.2 (.inr (List.mem_append.2 (.inl hx))))
  have hlt2 : ∀ x ∈ p2, x.block < W.heap.size := fun x hx => by simpa using hW'.lt x (List.mem_append.2 (.inr (List.mem_append.2 (.inr hx))))
  have hwt' : (DataW.weightsEach Tryz.prog (Tryz.f6.params.toList ++ Rows.eraseSubstsSpec.plain.varTypes Tryz.prog) ([d0, d1, .agg [e0, e1]] ++ [])).all (· ≤ reachBytes) = true := hwt
  have hl : Fits l := by
    unfold Fits
    rcases hd with ⟨_, hd⟩ | ⟨rfl, hd⟩
    · rw [hd]; simp
    · have := sized_slice hwt' (j := 0) (t := 22) (e := 3) rfl rfl Tryz.underlying22
      rw [show Tryz.prog.bytesOf 3 = 8 by kernel_rfl] at this
      have hb := reachBytes_lt
      omega
  have hw2 : ∀ n ∈ (DataW.agg [e0, e1] : DataW H).weights Tryz.prog 60, n ≤ reachBytes := fun n hn => by
    have h1 := List.all_eq_true.1 hwt' n (DataW.weights_mem_each (j := 2) (t := 60) (d := .agg [e0, e1]) rfl rfl n hn)
    exact of_decide_eq_true h1
  have hfit : ∀ (k : Nat) (z : DataW H) (m : List Int), [e0, e1][k]? = some z → (∃ u w, (z = .nil ∧ m = []) ∨ (z = .slice u w ∧ u.length = m.length)) → Fits m := fun k z m hk ⟨u, w, hz⟩ => by
    unfold Fits
    rcases hz with ⟨_, rfl⟩ | ⟨rfl, hz⟩
    · simp
    · have h1 := hw2 ((u.length + w.length) * Tryz.prog.bytesOf 3) (by
        rw [DataW.weights, Tryz.underlying60]
        exact weightsAll_mem hk (by rw [DataW.weights, Tryz.underlying22]; exact List.mem_cons_self))
      rw [show Tryz.prog.bytesOf 3 = 7 + 1 by kernel_rfl] at h1
      have := reach_fits h1
      omega
  refine (imp_calls (c_EraseSubsts l x0 x1 m0 m1 hr hl hx0 hx1 hm0 (hfit 0 e0 m0 rfl he0) hm1 (hfit 1 e1 m1 rfl he1)) W (vals := [v0, v1, v2]) ⟨_, _, rfl, hrep, ⟨_, _, rfl, hrep1, ⟨_, _, rfl, hrep2, rfl⟩⟩⟩ (ht := tab_at hL)).mono fun e W' ⟨v, S, μ, he, bel, hv⟩ => ?_
  subst he
  rw [bool_of hv]
  have hp0 := Below.trod Tryz.laidOut (by kernel_rfl) (of_decide_eq_true (by kernel_rfl)) h0 bel hlt
  have hp1 := Below.trod Tryz.laidOut (by kernel_rfl) (of_decide_eq_true (by kernel_rfl)) h1 bel hlt1
  have hp2 := Below.trod Tryz.laidOut (by kernel_rfl) (of_decide_eq_true (by kernel_rfl)) h2 bel hlt2
  exact ⟨_, rfl, ⟨_, _, _, [], _, [], hW', trodAll_mk1 (shut_bool Tryz.underlying4 true), trodAll_mk3 hp0 hp1 hp2, rfl, bel.frame _, fun h => by cases h⟩⟩
theorem eraseSubsts_holds : Rows.EraseSubstsSaid :=
  OpenClaim.holds_of_wide 6 Tryz.f6 rfl rfl rfl rfl rfl rfl rfl ⟨rfl, rfl, rfl, rfl, rfl⟩ rfl rfl rfl rfl rfl (by kernel_rfl) Tryz.func6 (by kernel_rfl)
    (of_decide_eq_true (by kernel_rfl)) (by unfold Func.isWrapper; first | (rw [if_pos (by decide +kernel)]; kernel_rfl) | (rw [if_neg (by decide +kernel)]; exact ⟨rfl, rfl⟩))
    (fun os started H enc _ => eraseSubsts_lifted os started H enc)
theorem eraseSubsts_card_holds : Rows.EraseSubstsCardSaid :=
  Claim7.holds_tied_plain_at .later [] [.data, .data, .data] true (true, "56759d3ea28ae732895687f94e58afa360807d84aa9b63d7f2471d17859befac") false eraseSubsts_holds (fun _ h => by cases h) (by kernel_rfl) (fun _ h => by cases h) eraseSubsts_row_tie rfl ⟨rfl, rfl⟩ (by kernel_rfl) rfl
    (fun f fn hf hfn => by
      obtain rfl : f = 6 := Option.some.inj ((show Tryz.prog.funcNamed "fugue/fuguelaw24.EraseSubsts" = some 6 by kernel_rfl).symm.trans hf) |>.symm
      obtain rfl : fn = Tryz.f6 := (Option.some.inj (Tryz.func6.symm.trans hfn)).symm
      exact ⟨by kernel_rfl, fun j t ht => by
        rw [Tryz.params6] at ht
        have hm : t ∈ [22, 59, 60] := by simpa using Array.mem_of_getElem? ht
        have hall : ([22, 59, 60].all fun u => !Tryz.prog.wantsStandIn u) = true := by kernel_rfl
        exact (show Tryz.prog.wantsStandIn t = false by simpa using List.all_eq_true.1 hall t hm)⟩)
    (by kernel_rfl)
end Go.Proofs.YtmoekkcdkjopgaaGreatDoor
