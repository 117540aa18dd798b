/-
  slices.Backward: the function, and the one that it hands back, over whatever objects the rounds turn.
-/
import Derived.Test.YthfeeaifddppoaaCl16
import Derived.Test.YthfeeaifddppoaaAm21
namespace Go.Proofs.Ythfeeaifddppoaa
open Go Go.AM
set_option maxRecDepth 20000
set_option maxHeartbeats 1000000

theorem b33 : bodied Try.prog 33 := ⟨Try.f33, Try.func33, by decide, rfl⟩
theorem b34 : bodied Try.prog 34 := ⟨Try.f34, Try.func34, by decide, rfl⟩
theorem b49 : bodied Try.prog 49 := ⟨Try.f49, Try.func49, by decide, rfl⟩
theorem b50 : bodied Try.prog 50 := ⟨Try.f50, Try.func50, by decide, rfl⟩
theorem c33 (rows : List (List C)) : ImpC Try.prog 33 [.one (.c (.sl 6 rows))] [] (.one (.clo 49 [.vp 771 0])) [(771, .var 24 [.c (.sl 6 rows)])] := by
  refine impC (n := 4) tok Try.func33 rfl rfl rfl ?_
  refine awp_seq ?_
  refine awp_rg mixed ?_
  refine k_ (g_ rfl rfl (r_box 771 rfl rfl (lt_ rfl) rfl rfl rfl)) ?_
  refine k_ (g_ rfl rfl (r_assign rfl rfl (lt_ rfl) rfl)) ?_
  refine z_ rfl (by kernel_rfl) ?_
  refine awp_seq ?_
  refine awp_rg mixed ?_
  refine k_ (g_ rfl rfl (r_makeFunc rfl rfl (lt_ rfl) rfl)) ?_
  refine k_ (g_ rfl rfl (r_assign rfl rfl (lt_ rfl) rfl)) ?_
  refine z_ rfl (by kernel_rfl) ?_
  refine awp_ret ?_
  exact ⟨.inr rfl, ⟨_, _, .tmp rfl .nil, .cons .refl .nil, rfl⟩, ⟨⟨_, rfl, .var rfl⟩, trivial⟩, rfl⟩
theorem c49 (rows : List (List C)) (hl : rows.length ≤ 1000000) (idl ids : Nat) (ks : List Nat) (H : Nat → List (Nat × AObj)) (hw : ∀ k, Wf ks (H k)) (hv : ∀ k, Go.AM.look (H k) ids = some (.var 24 [.c (.sl 6 rows)])) (hks : subset [idl, ids] ks = true)
    (hes : ∀ x ∈ rows, x.length = 6) (hr : ∀ k x, rows[k]? = some x → RndC Try.prog idl [I .i64 (k : Nat), .pa x] (H (k + 1)) true (H k)) : ImpC Try.prog 49 [.one (.yl idl), .one (.vp ids 0)] (H rows.length) (.tup []) (H 0) := by
  have hkk : keys (H rows.length) = ks := (hw _).keys
  refine impC (n := 19) tok Try.func49 rfl rfl rfl ?_
  refine awp_seq ?_
  refine awp_rg mixed ?_
  refine k_ (g_ rfl rfl (r_load tok rfl rfl (lt_ rfl) t24 rfl (hv _) rfl rfl)) ?_
  refine k_ (g_ rfl rfl (by first | exact r_len_sl tok rfl rfl (lt_ rfl) t24 rfl rfl | exact r_len_hs tok rfl rfl (lt_ rfl) t24 rfl rfl rfl (by first | rfl | simp) | exact r_len_nl tok rfl rfl (lt_ rfl) t24 rfl rfl | exact r_len_str tok rfl rfl (lt_ rfl) t24 rfl rfl)) ?_
  refine k_ (g_ rfl rfl (by exact r_subI rfl rfl (lt_ rfl) rfl rfl (by first | omega | (simp only [List.length_map]; omega)))) ?_
  refine k_ (g_ rfl rfl (r_assign rfl rfl (lt_ rfl) rfl)) ?_
  refine z_ rfl (by kernel_rfl) ?_
  refine awp_block ?_   -- block 0
  refine awp_loop (fun k : Nat => mk [(0, .one (.yl idl)), (1, .one (.vp ids 0)), (3, I .i64 ((k : Int) - 1))] (H k)) (fun k => k ≤ rows.length) (fun k => k) rows.length (Nat.le_refl _) (Sub.heap (hw _) ⟨rfl, rfl, rfl, trivial⟩ (fun _ _ h => h) (by simpa [refsE, V.refs, R.refs] using hks) (by rw [hkk]; exact subset_refl _) rfl) ?_
  intro k hk
  rw [hkk]
  refine awp_seq ?_
  refine awp_seq ?_
  refine awp_rg mixed ?_
  refine k_ (g_ rfl rfl (r_move rfl rfl (lt_ rfl) rfl)) ?_
  refine k_ (g_ rfl rfl (r_geq rfl rfl (lt_ rfl) rfl rfl)) ?_
  refine z_ rfl (by kernel_rfl) ?_
  refine awp_cond rfl (fun hb => ?_) (fun hb => ?_)
  · have hk1 : 0 ≤ (k : Int) - 1 := by simpa using hb
    obtain ⟨m, rfl⟩ : ∃ m, k = m + 1 := ⟨k - 1, by omega⟩
    rw [show ((m + 1 : Nat) : Int) - 1 = (m : Nat) by omega]
    have hm : m < rows.length := hk
    obtain ⟨x, hx⟩ : ∃ x, rows[m]? = some x := ⟨rows[m], by simp [hm]⟩
    have hxl := hes x (List.mem_of_getElem? hx)
    obtain ⟨x0, x1, x2, x3, x4, x5, rfl⟩ : ∃ x0 x1 x2 x3 x4 x5, x = [x0, x1, x2, x3, x4, x5] := by
      match x, hxl with
      | [x0, x1, x2, x3, x4, x5], _ => exact ⟨x0, x1, x2, x3, x4, x5, rfl⟩
    refine awp_skip ?_
    refine awp_seq ?_
    refine awp_block ?_   -- block 1
    refine awp_seq ?_
    refine awp_rg mixed ?_
    refine k_ (g_ rfl rfl (r_move rfl rfl (lt_ rfl) rfl)) ?_
    refine k_ (g_ rfl rfl (r_move rfl rfl (lt_ rfl) rfl)) ?_
    refine k_ (g_ rfl rfl (r_load tok rfl rfl (lt_ rfl) t24 rfl (hv _) rfl rfl)) ?_
    refine k_ (g_ rfl rfl (r_move rfl rfl (lt_ rfl) rfl)) ?_
    refine k_ (g_ rfl rfl (by first | exact r_index tok rfl rfl (lt_ rfl) t24 rfl t66 rfl rfl rfl rfl (by first | assumption | rfl) | exact r_index_hs tok rfl rfl (lt_ rfl) t24 rfl t66 rfl rfl rfl (by first | rfl | simp) rfl rfl (by first | decide | omega | (simp; done) | (simp; omega)))) ?_
    refine k_ (g_ rfl rfl (by first | exact r_load tok rfl rfl (lt_ rfl) t66 rfl rfl rfl rfl | exact r_load_pt tok rfl rfl (lt_ rfl) t66 rfl (le_ rfl) rfl | exact r_load_ep tok rfl rfl (lt_ rfl) t66 rfl rfl (by first | rfl | simp) (by first | assumption | rfl) (le_ rfl) rfl)) ?_
    refine k_ (g_ rfl rfl (by exact r_yield (H (m + 1)) (H m) rfl rfl (lt_ rfl) rfl (hr m _ hx) (.cons rfl .refl (.cons rfl .refl .nil)) (hw _).all ((hw _).hout (hw _)) ((hw _).callOk (by have := hks; simp [subset, V.refs, V.refsL, R.refs] at this ⊢; exact this.1)))) ?_
    refine k_ (g_ rfl rfl (r_not rfl rfl (lt_ rfl) rfl)) ?_
    refine z_ rfl (by kernel_rfl) ?_
    refine awp_cond rfl (fun hb => by cases hb) (fun hb => ?_)
    refine awp_skip ?_
    refine awp_rg mixed ?_
    refine k_ (g_ rfl rfl (r_move rfl rfl (lt_ rfl) rfl)) ?_
    refine k_ (g_ rfl rfl (by exact r_subI rfl rfl (lt_ rfl) rfl rfl (by first | omega | (simp only [List.length_map]; omega)))) ?_
    refine k_ (g_ rfl rfl (r_assign rfl rfl (lt_ rfl) rfl)) ?_
    refine z_ rfl (by kernel_rfl) ?_
    exact ⟨m, by omega, by dsimp only; omega, Sub.heap (hw _) ⟨rfl, rfl, rfl, trivial⟩ (fun id o h => by
      show updL (Go.AM.look (H (m + 1))) (outs (H m)) id = some o
      rw [updL_outs, h]) (by simpa [refsE, V.refs, R.refs] using hks) (subset_refl _) rfl⟩
  · refine awp_exit ?_   -- 0
    obtain rfl : k = 0 := by
      have : ¬ 0 ≤ (k : Int) - 1 := by simpa using hb
      omega
    exact ⟨.inl rfl, Fin.heap (hw _) (hw _) (fun _ _ h => h) .nil .nil rfl⟩
theorem c34 (rows : List (List C)) : ImpC Try.prog 34 [.one (.c (.sl 9 rows))] [] (.one (.clo 50 [.vp 772 0])) [(772, .var 64 [.c (.sl 9 rows)])] := by
  refine impC (n := 4) tok Try.func34 rfl rfl rfl ?_
  refine awp_seq ?_
  refine awp_rg mixed ?_
  refine k_ (g_ rfl rfl (r_box 772 rfl rfl (lt_ rfl) rfl rfl rfl)) ?_
  refine k_ (g_ rfl rfl (r_assign rfl rfl (lt_ rfl) rfl)) ?_
  refine z_ rfl (by kernel_rfl) ?_
  refine awp_seq ?_
  refine awp_rg mixed ?_
  refine k_ (g_ rfl rfl (r_makeFunc rfl rfl (lt_ rfl) rfl)) ?_
  refine k_ (g_ rfl rfl (r_assign rfl rfl (lt_ rfl) rfl)) ?_
  refine z_ rfl (by kernel_rfl) ?_
  refine awp_ret ?_
  exact ⟨.inr rfl, ⟨_, _, .tmp rfl .nil, .cons .refl .nil, rfl⟩, ⟨⟨_, rfl, .var rfl⟩, trivial⟩, rfl⟩
theorem c50 (rows : List (List C)) (hl : rows.length ≤ 1000000) (idl ids : Nat) (ks : List Nat) (H : Nat → List (Nat × AObj)) (hw : ∀ k, Wf ks (H k)) (hv : ∀ k, Go.AM.look (H k) ids = some (.var 64 [.c (.sl 9 rows)])) (hks : subset [idl, ids] ks = true)
    (hes : ∀ x ∈ rows, x.length = 9) (hr : ∀ k x, rows[k]? = some x → RndC Try.prog idl [I .i64 (k : Nat), .pa x] (H (k + 1)) true (H k)) : ImpC Try.prog 50 [.one (.yl idl), .one (.vp ids 0)] (H rows.length) (.tup []) (H 0) := by
  have hkk : keys (H rows.length) = ks := (hw _).keys
  refine impC (n := 19) tok Try.func50 rfl rfl rfl ?_
  refine awp_seq ?_
  refine awp_rg mixed ?_
  refine k_ (g_ rfl rfl (r_load tok rfl rfl (lt_ rfl) t64 rfl (hv _) rfl rfl)) ?_
  refine k_ (g_ rfl rfl (by first | exact r_len_sl tok rfl rfl (lt_ rfl) t64 rfl rfl | exact r_len_hs tok rfl rfl (lt_ rfl) t64 rfl rfl rfl (by first | rfl | simp) | exact r_len_nl tok rfl rfl (lt_ rfl) t64 rfl rfl | exact r_len_str tok rfl rfl (lt_ rfl) t64 rfl rfl)) ?_
  refine k_ (g_ rfl rfl (by exact r_subI rfl rfl (lt_ rfl) rfl rfl (by first | omega | (simp only [List.length_map]; omega)))) ?_
  refine k_ (g_ rfl rfl (r_assign rfl rfl (lt_ rfl) rfl)) ?_
  refine z_ rfl (by kernel_rfl) ?_
  refine awp_block ?_   -- block 0
  refine awp_loop (fun k : Nat => mk [(0, .one (.yl idl)), (1, .one (.vp ids 0)), (3, I .i64 ((k : Int) - 1))] (H k)) (fun k => k ≤ rows.length) (fun k => k) rows.length (Nat.le_refl _) (Sub.heap (hw _) ⟨rfl, rfl, rfl, trivial⟩ (fun _ _ h => h) (by simpa [refsE, V.refs, R.refs] using hks) (by rw [hkk]; exact subset_refl _) rfl) ?_
  intro k hk
  rw [hkk]
  refine awp_seq ?_
  refine awp_seq ?_
  refine awp_rg mixed ?_
  refine k_ (g_ rfl rfl (r_move rfl rfl (lt_ rfl) rfl)) ?_
  refine k_ (g_ rfl rfl (r_geq rfl rfl (lt_ rfl) rfl rfl)) ?_
  refine z_ rfl (by kernel_rfl) ?_
  refine awp_cond rfl (fun hb => ?_) (fun hb => ?_)
  · have hk1 : 0 ≤ (k : Int) - 1 := by simpa using hb
    obtain ⟨m, rfl⟩ : ∃ m, k = m + 1 := ⟨k - 1, by omega⟩
    rw [show ((m + 1 : Nat) : Int) - 1 = (m : Nat) by omega]
    have hm : m < rows.length := hk
    obtain ⟨x, hx⟩ : ∃ x, rows[m]? = some x := ⟨rows[m], by simp [hm]⟩
    have hxl := hes x (List.mem_of_getElem? hx)
    obtain ⟨x0, x1, x2, x3, x4, x5, x6, x7, x8, rfl⟩ : ∃ x0 x1 x2 x3 x4 x5 x6 x7 x8, x = [x0, x1, x2, x3, x4, x5, x6, x7, x8] := by
      match x, hxl with
      | [x0, x1, x2, x3, x4, x5, x6, x7, x8], _ => exact ⟨x0, x1, x2, x3, x4, x5, x6, x7, x8, rfl⟩
    refine awp_skip ?_
    refine awp_seq ?_
    refine awp_block ?_   -- block 1
    refine awp_seq ?_
    refine awp_rg mixed ?_
    refine k_ (g_ rfl rfl (r_move rfl rfl (lt_ rfl) rfl)) ?_
    refine k_ (g_ rfl rfl (r_move rfl rfl (lt_ rfl) rfl)) ?_
    refine k_ (g_ rfl rfl (r_load tok rfl rfl (lt_ rfl) t64 rfl (hv _) rfl rfl)) ?_
    refine k_ (g_ rfl rfl (r_move rfl rfl (lt_ rfl) rfl)) ?_
    refine k_ (g_ rfl rfl (by first | exact r_index tok rfl rfl (lt_ rfl) t64 rfl t81 rfl rfl rfl rfl (by first | assumption | rfl) | exact r_index_hs tok rfl rfl (lt_ rfl) t64 rfl t81 rfl rfl rfl (by first | rfl | simp) rfl rfl (by first | decide | omega | (simp; done) | (simp; omega)))) ?_
    refine k_ (g_ rfl rfl (by first | exact r_load tok rfl rfl (lt_ rfl) t81 rfl rfl rfl rfl | exact r_load_pt tok rfl rfl (lt_ rfl) t81 rfl (le_ rfl) rfl | exact r_load_ep tok rfl rfl (lt_ rfl) t81 rfl rfl (by first | rfl | simp) (by first | assumption | rfl) (le_ rfl) rfl)) ?_
    refine k_ (g_ rfl rfl (by exact r_yield (H (m + 1)) (H m) rfl rfl (lt_ rfl) rfl (hr m _ hx) (.cons rfl .refl (.cons rfl .refl .nil)) (hw _).all ((hw _).hout (hw _)) ((hw _).callOk (by have := hks; simp [subset, V.refs, V.refsL, R.refs] at this ⊢; exact this.1)))) ?_
    refine k_ (g_ rfl rfl (r_not rfl rfl (lt_ rfl) rfl)) ?_
    refine z_ rfl (by kernel_rfl) ?_
    refine awp_cond rfl (fun hb => by cases hb) (fun hb => ?_)
    refine awp_skip ?_
    refine awp_rg mixed ?_
    refine k_ (g_ rfl rfl (r_move rfl rfl (lt_ rfl) rfl)) ?_
    refine k_ (g_ rfl rfl (by exact r_subI rfl rfl (lt_ rfl) rfl rfl (by first | omega | (simp only [List.length_map]; omega)))) ?_
    refine k_ (g_ rfl rfl (r_assign rfl rfl (lt_ rfl) rfl)) ?_
    refine z_ rfl (by kernel_rfl) ?_
    exact ⟨m, by omega, by dsimp only; omega, Sub.heap (hw _) ⟨rfl, rfl, rfl, trivial⟩ (fun id o h => by
      show updL (Go.AM.look (H (m + 1))) (outs (H m)) id = some o
      rw [updL_outs, h]) (by simpa [refsE, V.refs, R.refs] using hks) (subset_refl _) rfl⟩
  · refine awp_exit ?_   -- 0
    obtain rfl : k = 0 := by
      have : ¬ 0 ≤ (k : Int) - 1 := by simpa using hb
      omega
    exact ⟨.inl rfl, Fin.heap (hw _) (hw _) (fun _ _ h => h) .nil .nil rfl⟩
end Go.Proofs.Ythfeeaifddppoaa
