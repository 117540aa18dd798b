/-
  ClassesTurned.
-/
import Derived.Test.YthfeeaifddppoaaCl23
namespace Go.Proofs.Ythfeeaifddppoaa
open Go Go.AM
set_option maxRecDepth 20000
set_option maxHeartbeats 1000000

theorem envPath_turned {p : Prog} (h : Names p) (f t : Str) : (envPath (turned p) f t).isSome = (envPath p f t).isSome := by
  rw [envPath_isSome, envPath_isSome, above_turned h]
theorem nm_of (a : Int) : ∃ k : Nat, k < 5 ∧ ImpC Try.prog 14 [I .i64 a, I .i64 5] [] (I .i64 (k : Nat)) [] := by
  obtain ⟨k, hk, hkl⟩ := modn_nat a 5 (by omega)
  have := c14 a 5 (by omega) (by omega)
  rw [hk] at this
  exact ⟨k, by omega, this⟩
theorem cn_of (a : Int) : ∃ k : Nat, k < 3 ∧ ImpC Try.prog 14 [I .i64 a, I .i64 3] [] (I .i64 (k : Nat)) [] := by
  obtain ⟨k, hk, hkl⟩ := modn_nat a 3 (by omega)
  have := c14 a 3 (by omega) (by omega)
  rw [hk] at this
  exact ⟨k, by omega, this⟩

theorem c4 (l : List Int) (a b c : Int) (hr : ∀ x ∈ l, In64 x) (hl : Fits l) : ImpC Try.prog 4 [.one (.c (.sl 1 (l.map encI))), I .i64 a, I .i64 b, I .i64 c] [] (B true) [] := by
  have h8 := c8 l hr hl
  have hp := made_PS l
  have hn := made_names l
  generalize made l = p at h8 hp hn
  have hq := turned_PS hp
  have h9 := c9 p hp
  have h10 := c10 p hp
  have h10' := c10 (turned p) hq
  refine impC (n := 157) tok Try.func4 rfl rfl rfl ?_
  by_cases hno : (newAt p).no ≠ 0
  · have hno' : (newAt (turned p)).no ≠ 0 := fun h => hno ((fine_iff p).2 ((fine_turned hn).1 ((fine_iff _).1 h)))
    rw [newR_nil hno] at h10
    rw [newR_nil hno'] at h10'
    have s1 : (!decide ((newAt p).no = 0)) = true := by simpa using hno
    have s2 : (!decide ((newAt (turned p)).no = 0)) = true := by simpa using hno'
    refine awp_seq ?_
    refine awp_rg mixed ?_
    refine k_ (g_ rfl rfl (r_assign rfl rfl (lt_ rfl) rfl)) ?_
    refine z_ rfl (by kernel_rfl) ?_
    refine awp_seq ?_
    refine awp_rg mixed ?_
    refine k_ (g_ rfl rfl (r_move rfl rfl (lt_ rfl) rfl)) ?_
    refine k_ (g_ rfl rfl (by exact r_call [] [] b8 rfl rfl (lt_ rfl) h8 (.cons rfl (by first | exact .refl | exact .one (.hs rfl (by first | rfl | simp) (by first | rfl | (simp; done) | (simp [Go.AM.take_map]; done) | exact Go.AM.take_map.symm) .nil) | exact .one (.c .nl .nil) | exact .one (.c .sn .nil)) (.nil)) (by repeat (first | exact trivial | refine ⟨rfl, ?_⟩)) (by repeat (first | exact trivial | refine ⟨.inr rfl, ?_⟩ | refine ⟨.inl (by decide), ?_⟩)) rfl)) ?_
    refine k_ (g_ rfl rfl (r_alloc 9 tok rfl rfl (lt_ rfl) t28 rfl)) ?_
    refine k_ (g_ rfl rfl (by first | exact r_store tok rfl rfl t28 rfl rfl rfl rfl rfl rfl | exact r_store_ep tok rfl rfl t28 rfl rfl rfl rfl rfl (by first | rfl | simp) (by first | assumption | rfl) rfl (le_ rfl))) ?_
    refine z_ rfl (by kernel_rfl) ?_
    refine awp_seq ?_
    refine awp_rg mixed ?_
    refine k_ (g_ rfl rfl (by first | exact r_load tok rfl rfl (lt_ rfl) t28 rfl rfl rfl rfl | exact r_load_pt tok rfl rfl (lt_ rfl) t28 rfl (le_ rfl) rfl | exact r_load_ep tok rfl rfl (lt_ rfl) t28 rfl rfl (by first | rfl | simp) (by first | assumption | rfl) (le_ rfl) rfl)) ?_
    refine k_ (g_ rfl rfl (by exact r_call [] [] b10 rfl rfl (lt_ rfl) h10 (.cons rfl (by first | exact .refl | exact .agg (by first | exact .of_pure | ((first | refine .hs rfl (by first | rfl | simp) (by first | rfl | (simp; done) | (simp [Go.AM.take_map]; done) | exact Go.AM.take_map.symm) ?_ | refine .c .refl ?_ | refine .c (Cle.nl (es := 5)) ?_); (first | refine .hs rfl (by first | rfl | simp) (by first | rfl | (simp; done) | (simp [Go.AM.take_map]; done) | exact Go.AM.take_map.symm) ?_ | refine .c .refl ?_ | refine .c (Cle.nl (es := 6)) ?_); (first | refine .hs rfl (by first | rfl | simp) (by first | rfl | (simp; done) | (simp [Go.AM.take_map]; done) | exact Go.AM.take_map.symm) ?_ | refine .c .refl ?_ | refine .c (Cle.nl (es := 6)) ?_); (first | refine .hs rfl (by first | rfl | simp) (by first | rfl | (simp; done) | (simp [Go.AM.take_map]; done) | exact Go.AM.take_map.symm) ?_ | refine .c .refl ?_ | refine .c (Cle.nl (es := 33)) ?_); exact .nil)) | exact .pa (by first | exact .of_pure | ((first | refine .hs rfl (by first | rfl | simp) (by first | rfl | (simp; done) | (simp [Go.AM.take_map]; done) | exact Go.AM.take_map.symm) ?_ | refine .c .refl ?_ | refine .c (Cle.nl (es := 5)) ?_); (first | refine .hs rfl (by first | rfl | simp) (by first | rfl | (simp; done) | (simp [Go.AM.take_map]; done) | exact Go.AM.take_map.symm) ?_ | refine .c .refl ?_ | refine .c (Cle.nl (es := 6)) ?_); (first | refine .hs rfl (by first | rfl | simp) (by first | rfl | (simp; done) | (simp [Go.AM.take_map]; done) | exact Go.AM.take_map.symm) ?_ | refine .c .refl ?_ | refine .c (Cle.nl (es := 6)) ?_); (first | refine .hs rfl (by first | rfl | simp) (by first | rfl | (simp; done) | (simp [Go.AM.take_map]; done) | exact Go.AM.take_map.symm) ?_ | refine .c .refl ?_ | refine .c (Cle.nl (es := 33)) ?_); exact .nil))) (.nil)) (by repeat (first | exact trivial | refine ⟨rfl, ?_⟩)) (by repeat (first | exact trivial | refine ⟨.inr rfl, ?_⟩ | refine ⟨.inl (by decide), ?_⟩)) rfl)) ?_
    refine k_ (g_ rfl rfl (r_move rfl rfl (lt_ rfl) rfl)) ?_
    refine k_ (g_ rfl rfl (r_extract rfl rfl (lt_ rfl) rfl rfl)) ?_
    refine k_ (g_ rfl rfl (r_extract rfl rfl (lt_ rfl) rfl rfl)) ?_
    refine k_ (g_ rfl rfl (r_alloc 11 tok rfl rfl (lt_ rfl) t34 rfl)) ?_
    refine k_ (g_ rfl rfl (r_assign rfl rfl (lt_ rfl) rfl)) ?_
    refine k_ (g_ rfl rfl (by first | exact r_store tok rfl rfl t34 rfl rfl rfl rfl rfl rfl | exact r_store_ep tok rfl rfl t34 rfl rfl rfl rfl rfl (by first | rfl | simp) (by first | assumption | rfl) rfl (le_ rfl))) ?_
    refine z_ rfl (by kernel_rfl) ?_
    refine awp_seq ?_
    refine awp_rg mixed ?_
    refine k_ (g_ rfl rfl (by first | exact r_load tok rfl rfl (lt_ rfl) t28 rfl rfl rfl rfl | exact r_load_pt tok rfl rfl (lt_ rfl) t28 rfl (le_ rfl) rfl | exact r_load_ep tok rfl rfl (lt_ rfl) t28 rfl rfl (by first | rfl | simp) (by first | assumption | rfl) (le_ rfl) rfl)) ?_
    refine k_ (g_ rfl rfl (by exact r_call [] [] b9 rfl rfl (lt_ rfl) h9 (.cons rfl (by first | exact .refl | exact .agg (by first | exact .of_pure | ((first | refine .hs rfl (by first | rfl | simp) (by first | rfl | (simp; done) | (simp [Go.AM.take_map]; done) | exact Go.AM.take_map.symm) ?_ | refine .c .refl ?_ | refine .c (Cle.nl (es := 5)) ?_); (first | refine .hs rfl (by first | rfl | simp) (by first | rfl | (simp; done) | (simp [Go.AM.take_map]; done) | exact Go.AM.take_map.symm) ?_ | refine .c .refl ?_ | refine .c (Cle.nl (es := 6)) ?_); (first | refine .hs rfl (by first | rfl | simp) (by first | rfl | (simp; done) | (simp [Go.AM.take_map]; done) | exact Go.AM.take_map.symm) ?_ | refine .c .refl ?_ | refine .c (Cle.nl (es := 6)) ?_); (first | refine .hs rfl (by first | rfl | simp) (by first | rfl | (simp; done) | (simp [Go.AM.take_map]; done) | exact Go.AM.take_map.symm) ?_ | refine .c .refl ?_ | refine .c (Cle.nl (es := 33)) ?_); exact .nil)) | exact .pa (by first | exact .of_pure | ((first | refine .hs rfl (by first | rfl | simp) (by first | rfl | (simp; done) | (simp [Go.AM.take_map]; done) | exact Go.AM.take_map.symm) ?_ | refine .c .refl ?_ | refine .c (Cle.nl (es := 5)) ?_); (first | refine .hs rfl (by first | rfl | simp) (by first | rfl | (simp; done) | (simp [Go.AM.take_map]; done) | exact Go.AM.take_map.symm) ?_ | refine .c .refl ?_ | refine .c (Cle.nl (es := 6)) ?_); (first | refine .hs rfl (by first | rfl | simp) (by first | rfl | (simp; done) | (simp [Go.AM.take_map]; done) | exact Go.AM.take_map.symm) ?_ | refine .c .refl ?_ | refine .c (Cle.nl (es := 6)) ?_); (first | refine .hs rfl (by first | rfl | simp) (by first | rfl | (simp; done) | (simp [Go.AM.take_map]; done) | exact Go.AM.take_map.symm) ?_ | refine .c .refl ?_ | refine .c (Cle.nl (es := 33)) ?_); exact .nil))) (.nil)) (by repeat (first | exact trivial | refine ⟨rfl, ?_⟩)) (by repeat (first | exact trivial | refine ⟨.inr rfl, ?_⟩ | refine ⟨.inl (by decide), ?_⟩)) rfl)) ?_
    refine k_ (g_ rfl rfl (by exact r_call [] [] b10 rfl rfl (lt_ rfl) h10' (.cons rfl (by first | exact .refl | exact .agg (by first | exact .of_pure | ((first | refine .hs rfl (by first | rfl | simp) (by first | rfl | (simp; done) | (simp [Go.AM.take_map]; done) | exact Go.AM.take_map.symm) ?_ | refine .c .refl ?_ | refine .c (Cle.nl (es := 5)) ?_); (first | refine .hs rfl (by first | rfl | simp) (by first | rfl | (simp; done) | (simp [Go.AM.take_map]; done) | exact Go.AM.take_map.symm) ?_ | refine .c .refl ?_ | refine .c (Cle.nl (es := 6)) ?_); (first | refine .hs rfl (by first | rfl | simp) (by first | rfl | (simp; done) | (simp [Go.AM.take_map]; done) | exact Go.AM.take_map.symm) ?_ | refine .c .refl ?_ | refine .c (Cle.nl (es := 6)) ?_); (first | refine .hs rfl (by first | rfl | simp) (by first | rfl | (simp; done) | (simp [Go.AM.take_map]; done) | exact Go.AM.take_map.symm) ?_ | refine .c .refl ?_ | refine .c (Cle.nl (es := 33)) ?_); exact .nil)) | exact .pa (by first | exact .of_pure | ((first | refine .hs rfl (by first | rfl | simp) (by first | rfl | (simp; done) | (simp [Go.AM.take_map]; done) | exact Go.AM.take_map.symm) ?_ | refine .c .refl ?_ | refine .c (Cle.nl (es := 5)) ?_); (first | refine .hs rfl (by first | rfl | simp) (by first | rfl | (simp; done) | (simp [Go.AM.take_map]; done) | exact Go.AM.take_map.symm) ?_ | refine .c .refl ?_ | refine .c (Cle.nl (es := 6)) ?_); (first | refine .hs rfl (by first | rfl | simp) (by first | rfl | (simp; done) | (simp [Go.AM.take_map]; done) | exact Go.AM.take_map.symm) ?_ | refine .c .refl ?_ | refine .c (Cle.nl (es := 6)) ?_); (first | refine .hs rfl (by first | rfl | simp) (by first | rfl | (simp; done) | (simp [Go.AM.take_map]; done) | exact Go.AM.take_map.symm) ?_ | refine .c .refl ?_ | refine .c (Cle.nl (es := 33)) ?_); exact .nil))) (.nil)) (by repeat (first | exact trivial | refine ⟨rfl, ?_⟩)) (by repeat (first | exact trivial | refine ⟨.inr rfl, ?_⟩ | refine ⟨.inl (by decide), ?_⟩)) rfl)) ?_
    refine k_ (g_ rfl rfl (r_move rfl rfl (lt_ rfl) rfl)) ?_
    refine k_ (g_ rfl rfl (r_extract rfl rfl (lt_ rfl) rfl rfl)) ?_
    refine k_ (g_ rfl rfl (r_extract rfl rfl (lt_ rfl) rfl rfl)) ?_
    refine k_ (g_ rfl rfl (r_alloc 13 tok rfl rfl (lt_ rfl) t34 rfl)) ?_
    refine k_ (g_ rfl rfl (r_assign rfl rfl (lt_ rfl) rfl)) ?_
    refine k_ (g_ rfl rfl (by first | exact r_store tok rfl rfl t34 rfl rfl rfl rfl rfl rfl | exact r_store_ep tok rfl rfl t34 rfl rfl rfl rfl rfl (by first | rfl | simp) (by first | assumption | rfl) rfl (le_ rfl))) ?_
    refine z_ rfl (by kernel_rfl) ?_
    refine awp_seq ?_
    refine awp_seq ?_
    refine awp_rg mixed ?_
    refine k_ (g_ rfl rfl (r_move rfl rfl (lt_ rfl) rfl)) ?_
    refine k_ (g_ rfl rfl (by exact r_peql tok rfl rfl (lt_ rfl) t31 rfl rfl (by first | rfl | assumption) rfl)) ?_
    refine k_ (g_ rfl rfl (r_move rfl rfl (lt_ rfl) rfl)) ?_
    refine k_ (by first | exact GStep.no rfl rfl rfl (lt_ rfl) rfl rfl (by first | assumption | rfl | (simp; done) | (simp only [Bool.not]; assumption) | (simp; omega)) rfl | exact GStep.un rfl rfl rfl (lt_ rfl) rfl rfl) ?_
    refine k_ (by first | exact GStep.no rfl rfl rfl (lt_ rfl) rfl rfl (by first | assumption | rfl | (simp; done) | (simp only [Bool.not]; assumption) | (simp; omega)) rfl | exact GStep.un rfl rfl rfl (lt_ rfl) rfl rfl) ?_
    refine k_ (g_ rfl rfl (by exact r_pick_t rfl rfl (lt_ rfl) rfl (by first | assumption | rfl | (simp; done)) rfl)) ?_
    refine z_ rfl (by kernel_rfl) ?_
    refine awp_cond rfl (fun hb => ?_) (fun hb => by cases hb)
    refine awp_seq ?_
    refine awp_rg mixed ?_
    refine k_ (g_ rfl rfl (r_move rfl rfl (lt_ rfl) rfl)) ?_
    refine k_ (g_ rfl rfl (by exact r_peql tok rfl rfl (lt_ rfl) t31 rfl rfl (by first | rfl | assumption) rfl)) ?_
    refine k_ (g_ rfl rfl (r_move rfl rfl (lt_ rfl) rfl)) ?_
    refine k_ (g_ rfl rfl (by exact r_peql tok rfl rfl (lt_ rfl) t31 rfl rfl (by first | rfl | assumption) rfl)) ?_
    refine k_ (g_ rfl rfl (r_beql tok rfl rfl (lt_ rfl) t4 rfl rfl rfl)) ?_
    refine k_ (g_ rfl rfl (r_move rfl rfl (lt_ rfl) rfl)) ?_
    refine k_ (GStep.yes rfl rfl rfl rfl (by first | assumption | rfl | (simp; done) | (simp only [Bool.not]; assumption) | (simp; omega)) (by first | exact r_field_vp tok rfl rfl (lt_ rfl) t34 rfl rfl t32 (nz_ rfl) rfl | exact r_field_pt tok rfl rfl (lt_ rfl) t34 rfl rfl t32 (nz_ rfl) rfl | exact r_field_ep tok rfl rfl (lt_ rfl) t34 rfl rfl t32 (nz_ rfl) rfl rfl (by first | rfl | simp))) ?_
    refine k_ (GStep.yes rfl rfl rfl rfl (by first | assumption | rfl | (simp; done) | (simp only [Bool.not]; assumption) | (simp; omega)) (by first | exact r_load tok rfl rfl (lt_ rfl) t32 rfl rfl rfl rfl | exact r_load_pt tok rfl rfl (lt_ rfl) t32 rfl (le_ rfl) rfl | exact r_load_ep tok rfl rfl (lt_ rfl) t32 rfl rfl (by first | rfl | simp) (by first | assumption | rfl) (le_ rfl) rfl)) ?_
    refine k_ (GStep.yes rfl rfl rfl rfl (by first | assumption | rfl | (simp; done) | (simp only [Bool.not]; assumption) | (simp; omega)) (by exact r_neq rfl rfl (lt_ rfl) rfl rfl)) ?_
    refine k_ (g_ rfl rfl (by exact r_pick_t rfl rfl (lt_ rfl) rfl (by first | assumption | rfl | (simp; done)) rfl)) ?_
    refine k_ (g_ rfl rfl (r_move rfl rfl (lt_ rfl) rfl)) ?_
    refine k_ (GStep.yes rfl rfl rfl rfl (by first | assumption | rfl | (simp; done) | (simp only [Bool.not]; assumption) | (simp; omega)) (by first | exact r_field_vp tok rfl rfl (lt_ rfl) t34 rfl rfl t32 (nz_ rfl) rfl | exact r_field_pt tok rfl rfl (lt_ rfl) t34 rfl rfl t32 (nz_ rfl) rfl | exact r_field_ep tok rfl rfl (lt_ rfl) t34 rfl rfl t32 (nz_ rfl) rfl rfl (by first | rfl | simp))) ?_
    refine k_ (GStep.yes rfl rfl rfl rfl (by first | assumption | rfl | (simp; done) | (simp only [Bool.not]; assumption) | (simp; omega)) (by first | exact r_load tok rfl rfl (lt_ rfl) t32 rfl rfl rfl rfl | exact r_load_pt tok rfl rfl (lt_ rfl) t32 rfl (le_ rfl) rfl | exact r_load_ep tok rfl rfl (lt_ rfl) t32 rfl rfl (by first | rfl | simp) (by first | assumption | rfl) (le_ rfl) rfl)) ?_
    refine k_ (GStep.yes rfl rfl rfl rfl (by first | assumption | rfl | (simp; done) | (simp only [Bool.not]; assumption) | (simp; omega)) (by exact r_neq rfl rfl (lt_ rfl) rfl rfl)) ?_
    refine k_ (g_ rfl rfl (by exact r_pick_t rfl rfl (lt_ rfl) rfl (by first | assumption | rfl | (simp; done)) rfl)) ?_
    refine k_ (g_ rfl rfl (r_move rfl rfl (lt_ rfl) rfl)) ?_
    refine k_ (GStep.yes rfl rfl rfl rfl (by first | assumption | rfl | (simp; done) | (simp only [Bool.not]; assumption) | (simp; omega)) (by exact r_call [] [] b12 rfl rfl (lt_ rfl) c12 (.nil) (by repeat (first | exact trivial | refine ⟨rfl, ?_⟩)) (by repeat (first | exact trivial | refine ⟨.inr rfl, ?_⟩ | refine ⟨.inl (by decide), ?_⟩)) rfl)) ?_
    refine k_ (g_ rfl rfl (by exact r_pick_t rfl rfl (lt_ rfl) rfl (by first | assumption | rfl | (simp; done)) rfl)) ?_
    refine k_ (g_ rfl rfl (r_assign rfl rfl (lt_ rfl) rfl)) ?_
    refine z_ rfl (by kernel_rfl) ?_
    refine awp_ret ?_
    exact ⟨.inr rfl, ⟨_, _, .tmp rfl .nil, .cons .refl .nil, rfl⟩, trivial, rfl⟩
  · have h0 : (newAt p).no = 0 := by simpa using hno
    have hf := (fine_iff p).1 h0
    have hf' := (fine_turned hn).2 hf
    rw [newR_env h0] at h10
    rw [newR_env ((fine_iff _).2 hf')] at h10'
    have he := envOf_ok p
    have he' := envOf_ok (turned p)
    obtain ⟨k1, hk1, h14a⟩ := nm_of a
    obtain ⟨k2, hk2, h14b⟩ := nm_of b
    obtain ⟨k3, hk3, h14c⟩ := cn_of c
    have g1 := nm_get hk1
    have g2 := nm_get hk2
    have g3 := cn_get hk3
    have h15 := c15 p (envOf p) (nm k1) (nm k2) he hp
    have h15' := c15 (turned p) (envOf (turned p)) (nm k1) (nm k2) he' hq
    rw [envPath_turned hn] at h15'
    have h16 := c16 p (envOf p) (nm k1) (cn k3) he hp
    have h16' := c16 (turned p) (envOf (turned p)) (nm k1) (cn k3) he' hq
    have h18 := c18 p (envOf p) (nm k1) he hp
    have h18' := c18 (turned p) (envOf (turned p)) (nm k1) he' hq
    rw [above_turned hn] at h18'
    have h19 := c19 p (envOf p) he hp
    have h19' := c19 (turned p) (envOf (turned p)) he' hq
    have hlen : (turned p).insts.length = p.insts.length := by simp [turned]
    rw [hlen] at h19'
    refine awp_seq ?_
    refine awp_rg mixed ?_
    refine k_ (g_ rfl rfl (r_assign rfl rfl (lt_ rfl) rfl)) ?_
    refine z_ rfl (by kernel_rfl) ?_
    refine awp_seq ?_
    refine awp_rg mixed ?_
    refine k_ (g_ rfl rfl (r_move rfl rfl (lt_ rfl) rfl)) ?_
    refine k_ (g_ rfl rfl (by exact r_call [] [] b8 rfl rfl (lt_ rfl) h8 (.cons rfl (by first | exact .refl | exact .one (.hs rfl (by first | rfl | simp) (by first | rfl | (simp; done) | (simp [Go.AM.take_map]; done) | exact Go.AM.take_map.symm) .nil) | exact .one (.c .nl .nil) | exact .one (.c .sn .nil)) (.nil)) (by repeat (first | exact trivial | refine ⟨rfl, ?_⟩)) (by repeat (first | exact trivial | refine ⟨.inr rfl, ?_⟩ | refine ⟨.inl (by decide), ?_⟩)) rfl)) ?_
    refine k_ (g_ rfl rfl (r_alloc 9 tok rfl rfl (lt_ rfl) t28 rfl)) ?_
    refine k_ (g_ rfl rfl (by first | exact r_store tok rfl rfl t28 rfl rfl rfl rfl rfl rfl | exact r_store_ep tok rfl rfl t28 rfl rfl rfl rfl rfl (by first | rfl | simp) (by first | assumption | rfl) rfl (le_ rfl))) ?_
    refine z_ rfl (by kernel_rfl) ?_
    refine awp_seq ?_
    refine awp_rg mixed ?_
    refine k_ (g_ rfl rfl (by first | exact r_load tok rfl rfl (lt_ rfl) t28 rfl rfl rfl rfl | exact r_load_pt tok rfl rfl (lt_ rfl) t28 rfl (le_ rfl) rfl | exact r_load_ep tok rfl rfl (lt_ rfl) t28 rfl rfl (by first | rfl | simp) (by first | assumption | rfl) (le_ rfl) rfl)) ?_
    refine k_ (g_ rfl rfl (by exact r_call [] [] b10 rfl rfl (lt_ rfl) h10 (.cons rfl (by first | exact .refl | exact .agg (by first | exact .of_pure | ((first | refine .hs rfl (by first | rfl | simp) (by first | rfl | (simp; done) | (simp [Go.AM.take_map]; done) | exact Go.AM.take_map.symm) ?_ | refine .c .refl ?_ | refine .c (Cle.nl (es := 5)) ?_); (first | refine .hs rfl (by first | rfl | simp) (by first | rfl | (simp; done) | (simp [Go.AM.take_map]; done) | exact Go.AM.take_map.symm) ?_ | refine .c .refl ?_ | refine .c (Cle.nl (es := 6)) ?_); (first | refine .hs rfl (by first | rfl | simp) (by first | rfl | (simp; done) | (simp [Go.AM.take_map]; done) | exact Go.AM.take_map.symm) ?_ | refine .c .refl ?_ | refine .c (Cle.nl (es := 6)) ?_); (first | refine .hs rfl (by first | rfl | simp) (by first | rfl | (simp; done) | (simp [Go.AM.take_map]; done) | exact Go.AM.take_map.symm) ?_ | refine .c .refl ?_ | refine .c (Cle.nl (es := 33)) ?_); exact .nil)) | exact .pa (by first | exact .of_pure | ((first | refine .hs rfl (by first | rfl | simp) (by first | rfl | (simp; done) | (simp [Go.AM.take_map]; done) | exact Go.AM.take_map.symm) ?_ | refine .c .refl ?_ | refine .c (Cle.nl (es := 5)) ?_); (first | refine .hs rfl (by first | rfl | simp) (by first | rfl | (simp; done) | (simp [Go.AM.take_map]; done) | exact Go.AM.take_map.symm) ?_ | refine .c .refl ?_ | refine .c (Cle.nl (es := 6)) ?_); (first | refine .hs rfl (by first | rfl | simp) (by first | rfl | (simp; done) | (simp [Go.AM.take_map]; done) | exact Go.AM.take_map.symm) ?_ | refine .c .refl ?_ | refine .c (Cle.nl (es := 6)) ?_); (first | refine .hs rfl (by first | rfl | simp) (by first | rfl | (simp; done) | (simp [Go.AM.take_map]; done) | exact Go.AM.take_map.symm) ?_ | refine .c .refl ?_ | refine .c (Cle.nl (es := 33)) ?_); exact .nil))) (.nil)) (by repeat (first | exact trivial | refine ⟨rfl, ?_⟩)) (by repeat (first | exact trivial | refine ⟨.inr rfl, ?_⟩ | refine ⟨.inl (by decide), ?_⟩)) rfl)) ?_
    refine k_ (g_ rfl rfl (r_move rfl rfl (lt_ rfl) rfl)) ?_
    refine k_ (g_ rfl rfl (r_extract rfl rfl (lt_ rfl) rfl rfl)) ?_
    refine k_ (g_ rfl rfl (r_extract rfl rfl (lt_ rfl) rfl rfl)) ?_
    refine k_ (g_ rfl rfl (r_alloc 11 tok rfl rfl (lt_ rfl) t34 rfl)) ?_
    refine k_ (g_ rfl rfl (r_assign rfl rfl (lt_ rfl) rfl)) ?_
    refine k_ (g_ rfl rfl (by first | exact r_store tok rfl rfl t34 rfl rfl rfl rfl rfl rfl | exact r_store_ep tok rfl rfl t34 rfl rfl rfl rfl rfl (by first | rfl | simp) (by first | assumption | rfl) rfl (le_ rfl))) ?_
    refine z_ rfl (by kernel_rfl) ?_
    refine awp_seq ?_
    refine awp_rg mixed ?_
    refine k_ (g_ rfl rfl (by first | exact r_load tok rfl rfl (lt_ rfl) t28 rfl rfl rfl rfl | exact r_load_pt tok rfl rfl (lt_ rfl) t28 rfl (le_ rfl) rfl | exact r_load_ep tok rfl rfl (lt_ rfl) t28 rfl rfl (by first | rfl | simp) (by first | assumption | rfl) (le_ rfl) rfl)) ?_
    refine k_ (g_ rfl rfl (by exact r_call [] [] b9 rfl rfl (lt_ rfl) h9 (.cons rfl (by first | exact .refl | exact .agg (by first | exact .of_pure | ((first | refine .hs rfl (by first | rfl | simp) (by first | rfl | (simp; done) | (simp [Go.AM.take_map]; done) | exact Go.AM.take_map.symm) ?_ | refine .c .refl ?_ | refine .c (Cle.nl (es := 5)) ?_); (first | refine .hs rfl (by first | rfl | simp) (by first | rfl | (simp; done) | (simp [Go.AM.take_map]; done) | exact Go.AM.take_map.symm) ?_ | refine .c .refl ?_ | refine .c (Cle.nl (es := 6)) ?_); (first | refine .hs rfl (by first | rfl | simp) (by first | rfl | (simp; done) | (simp [Go.AM.take_map]; done) | exact Go.AM.take_map.symm) ?_ | refine .c .refl ?_ | refine .c (Cle.nl (es := 6)) ?_); (first | refine .hs rfl (by first | rfl | simp) (by first | rfl | (simp; done) | (simp [Go.AM.take_map]; done) | exact Go.AM.take_map.symm) ?_ | refine .c .refl ?_ | refine .c (Cle.nl (es := 33)) ?_); exact .nil)) | exact .pa (by first | exact .of_pure | ((first | refine .hs rfl (by first | rfl | simp) (by first | rfl | (simp; done) | (simp [Go.AM.take_map]; done) | exact Go.AM.take_map.symm) ?_ | refine .c .refl ?_ | refine .c (Cle.nl (es := 5)) ?_); (first | refine .hs rfl (by first | rfl | simp) (by first | rfl | (simp; done) | (simp [Go.AM.take_map]; done) | exact Go.AM.take_map.symm) ?_ | refine .c .refl ?_ | refine .c (Cle.nl (es := 6)) ?_); (first | refine .hs rfl (by first | rfl | simp) (by first | rfl | (simp; done) | (simp [Go.AM.take_map]; done) | exact Go.AM.take_map.symm) ?_ | refine .c .refl ?_ | refine .c (Cle.nl (es := 6)) ?_); (first | refine .hs rfl (by first | rfl | simp) (by first | rfl | (simp; done) | (simp [Go.AM.take_map]; done) | exact Go.AM.take_map.symm) ?_ | refine .c .refl ?_ | refine .c (Cle.nl (es := 33)) ?_); exact .nil))) (.nil)) (by repeat (first | exact trivial | refine ⟨rfl, ?_⟩)) (by repeat (first | exact trivial | refine ⟨.inr rfl, ?_⟩ | refine ⟨.inl (by decide), ?_⟩)) rfl)) ?_
    refine k_ (g_ rfl rfl (by exact r_call [] [] b10 rfl rfl (lt_ rfl) h10' (.cons rfl (by first | exact .refl | exact .agg (by first | exact .of_pure | ((first | refine .hs rfl (by first | rfl | simp) (by first | rfl | (simp; done) | (simp [Go.AM.take_map]; done) | exact Go.AM.take_map.symm) ?_ | refine .c .refl ?_ | refine .c (Cle.nl (es := 5)) ?_); (first | refine .hs rfl (by first | rfl | simp) (by first | rfl | (simp; done) | (simp [Go.AM.take_map]; done) | exact Go.AM.take_map.symm) ?_ | refine .c .refl ?_ | refine .c (Cle.nl (es := 6)) ?_); (first | refine .hs rfl (by first | rfl | simp) (by first | rfl | (simp; done) | (simp [Go.AM.take_map]; done) | exact Go.AM.take_map.symm) ?_ | refine .c .refl ?_ | refine .c (Cle.nl (es := 6)) ?_); (first | refine .hs rfl (by first | rfl | simp) (by first | rfl | (simp; done) | (simp [Go.AM.take_map]; done) | exact Go.AM.take_map.symm) ?_ | refine .c .refl ?_ | refine .c (Cle.nl (es := 33)) ?_); exact .nil)) | exact .pa (by first | exact .of_pure | ((first | refine .hs rfl (by first | rfl | simp) (by first | rfl | (simp; done) | (simp [Go.AM.take_map]; done) | exact Go.AM.take_map.symm) ?_ | refine .c .refl ?_ | refine .c (Cle.nl (es := 5)) ?_); (first | refine .hs rfl (by first | rfl | simp) (by first | rfl | (simp; done) | (simp [Go.AM.take_map]; done) | exact Go.AM.take_map.symm) ?_ | refine .c .refl ?_ | refine .c (Cle.nl (es := 6)) ?_); (first | refine .hs rfl (by first | rfl | simp) (by first | rfl | (simp; done) | (simp [Go.AM.take_map]; done) | exact Go.AM.take_map.symm) ?_ | refine .c .refl ?_ | refine .c (Cle.nl (es := 6)) ?_); (first | refine .hs rfl (by first | rfl | simp) (by first | rfl | (simp; done) | (simp [Go.AM.take_map]; done) | exact Go.AM.take_map.symm) ?_ | refine .c .refl ?_ | refine .c (Cle.nl (es := 33)) ?_); exact .nil))) (.nil)) (by repeat (first | exact trivial | refine ⟨rfl, ?_⟩)) (by repeat (first | exact trivial | refine ⟨.inr rfl, ?_⟩ | refine ⟨.inl (by decide), ?_⟩)) rfl)) ?_
    refine k_ (g_ rfl rfl (r_move rfl rfl (lt_ rfl) rfl)) ?_
    refine k_ (g_ rfl rfl (r_extract rfl rfl (lt_ rfl) rfl rfl)) ?_
    refine k_ (g_ rfl rfl (r_extract rfl rfl (lt_ rfl) rfl rfl)) ?_
    refine k_ (g_ rfl rfl (r_alloc 13 tok rfl rfl (lt_ rfl) t34 rfl)) ?_
    refine k_ (g_ rfl rfl (r_assign rfl rfl (lt_ rfl) rfl)) ?_
    refine k_ (g_ rfl rfl (by first | exact r_store tok rfl rfl t34 rfl rfl rfl rfl rfl rfl | exact r_store_ep tok rfl rfl t34 rfl rfl rfl rfl rfl (by first | rfl | simp) (by first | assumption | rfl) rfl (le_ rfl))) ?_
    refine z_ rfl (by kernel_rfl) ?_
    refine awp_seq ?_
    refine awp_seq ?_
    refine awp_rg mixed ?_
    refine k_ (g_ rfl rfl (r_move rfl rfl (lt_ rfl) rfl)) ?_
    refine k_ (g_ rfl rfl (by exact r_peql tok rfl rfl (lt_ rfl) t31 rfl rfl (by first | rfl | assumption) rfl)) ?_
    refine k_ (g_ rfl rfl (r_move rfl rfl (lt_ rfl) rfl)) ?_
    refine k_ (GStep.yes rfl rfl rfl rfl (by first | assumption | rfl | (simp; done) | (simp only [Bool.not]; assumption) | (simp; omega)) (by exact r_move rfl rfl (lt_ rfl) rfl)) ?_
    refine k_ (GStep.yes rfl rfl rfl rfl (by first | assumption | rfl | (simp; done) | (simp only [Bool.not]; assumption) | (simp; omega)) (by exact r_peql tok rfl rfl (lt_ rfl) t31 rfl rfl (by first | rfl | assumption) rfl)) ?_
    refine k_ (g_ rfl rfl (by exact r_pick_f rfl rfl (lt_ rfl) rfl (by first | assumption | rfl | (simp; done)) rfl)) ?_
    refine z_ rfl (by kernel_rfl) ?_
    refine awp_cond rfl (fun hb => by cases hb) (fun hb => ?_)
    refine awp_skip ?_
    refine awp_seq ?_
    refine awp_rg mixed ?_
    refine k_ (g_ rfl rfl (by exact r_call [] [] b13 rfl rfl (lt_ rfl) c13 (.nil) (by repeat (first | exact trivial | refine ⟨rfl, ?_⟩)) (by repeat (first | exact trivial | refine ⟨.inr rfl, ?_⟩ | refine ⟨.inl (by decide), ?_⟩)) rfl)) ?_
    refine k_ (g_ rfl rfl (r_move rfl rfl (lt_ rfl) rfl)) ?_
    refine k_ (g_ rfl rfl (r_extract rfl rfl (lt_ rfl) rfl rfl)) ?_
    refine k_ (g_ rfl rfl (r_extract rfl rfl (lt_ rfl) rfl rfl)) ?_
    refine k_ (g_ rfl rfl (r_assign rfl rfl (lt_ rfl) rfl)) ?_
    refine k_ (g_ rfl rfl (r_assign rfl rfl (lt_ rfl) rfl)) ?_
    refine z_ rfl (by kernel_rfl) ?_
    refine awp_seq ?_
    refine awp_rg mixed ?_
    refine k_ (g_ rfl rfl (r_move rfl rfl (lt_ rfl) rfl)) ?_
    refine k_ (g_ rfl rfl (r_move rfl rfl (lt_ rfl) rfl)) ?_
    refine k_ (g_ rfl rfl (by exact r_call [] [] b14 rfl rfl (lt_ rfl) h14a (.cons rfl .refl (.cons rfl .refl (.nil))) (by repeat (first | exact trivial | refine ⟨rfl, ?_⟩)) (by repeat (first | exact trivial | refine ⟨.inr rfl, ?_⟩ | refine ⟨.inl (by decide), ?_⟩)) rfl)) ?_
    refine k_ (g_ rfl rfl (by first | exact r_index tok rfl rfl (lt_ rfl) t40 rfl t9 rfl rfl rfl rfl (by first | assumption | rfl) | exact r_index_hs tok rfl rfl (lt_ rfl) t40 rfl t9 rfl rfl rfl (by first | rfl | simp) rfl rfl (by first | decide | omega | (simp; done) | (simp; omega)))) ?_
    refine k_ (g_ rfl rfl (by first | exact r_load tok rfl rfl (lt_ rfl) t9 rfl rfl rfl rfl | exact r_load_pt tok rfl rfl (lt_ rfl) t9 rfl (le_ rfl) rfl | exact r_load_ep tok rfl rfl (lt_ rfl) t9 rfl rfl (by first | rfl | simp) (by first | assumption | rfl) (le_ rfl) rfl)) ?_
    refine k_ (g_ rfl rfl (r_assign rfl rfl (lt_ rfl) rfl)) ?_
    refine z_ rfl (by kernel_rfl) ?_
    refine awp_seq ?_
    refine awp_rg mixed ?_
    refine k_ (g_ rfl rfl (r_move rfl rfl (lt_ rfl) rfl)) ?_
    refine k_ (g_ rfl rfl (r_move rfl rfl (lt_ rfl) rfl)) ?_
    refine k_ (g_ rfl rfl (by exact r_call [] [] b14 rfl rfl (lt_ rfl) h14b (.cons rfl .refl (.cons rfl .refl (.nil))) (by repeat (first | exact trivial | refine ⟨rfl, ?_⟩)) (by repeat (first | exact trivial | refine ⟨.inr rfl, ?_⟩ | refine ⟨.inl (by decide), ?_⟩)) rfl)) ?_
    refine k_ (g_ rfl rfl (by first | exact r_index tok rfl rfl (lt_ rfl) t40 rfl t9 rfl rfl rfl rfl (by first | assumption | rfl) | exact r_index_hs tok rfl rfl (lt_ rfl) t40 rfl t9 rfl rfl rfl (by first | rfl | simp) rfl rfl (by first | decide | omega | (simp; done) | (simp; omega)))) ?_
    refine k_ (g_ rfl rfl (by first | exact r_load tok rfl rfl (lt_ rfl) t9 rfl rfl rfl rfl | exact r_load_pt tok rfl rfl (lt_ rfl) t9 rfl (le_ rfl) rfl | exact r_load_ep tok rfl rfl (lt_ rfl) t9 rfl rfl (by first | rfl | simp) (by first | assumption | rfl) (le_ rfl) rfl)) ?_
    refine k_ (g_ rfl rfl (r_assign rfl rfl (lt_ rfl) rfl)) ?_
    refine z_ rfl (by kernel_rfl) ?_
    refine awp_seq ?_
    refine awp_rg mixed ?_
    refine k_ (g_ rfl rfl (r_move rfl rfl (lt_ rfl) rfl)) ?_
    refine k_ (g_ rfl rfl (r_move rfl rfl (lt_ rfl) rfl)) ?_
    refine k_ (g_ rfl rfl (by exact r_call [] [] b14 rfl rfl (lt_ rfl) h14c (.cons rfl .refl (.cons rfl .refl (.nil))) (by repeat (first | exact trivial | refine ⟨rfl, ?_⟩)) (by repeat (first | exact trivial | refine ⟨.inr rfl, ?_⟩ | refine ⟨.inl (by decide), ?_⟩)) rfl)) ?_
    refine k_ (g_ rfl rfl (by first | exact r_index tok rfl rfl (lt_ rfl) t40 rfl t9 rfl rfl rfl rfl (by first | assumption | rfl) | exact r_index_hs tok rfl rfl (lt_ rfl) t40 rfl t9 rfl rfl rfl (by first | rfl | simp) rfl rfl (by first | decide | omega | (simp; done) | (simp; omega)))) ?_
    refine k_ (g_ rfl rfl (by first | exact r_load tok rfl rfl (lt_ rfl) t9 rfl rfl rfl rfl | exact r_load_pt tok rfl rfl (lt_ rfl) t9 rfl (le_ rfl) rfl | exact r_load_ep tok rfl rfl (lt_ rfl) t9 rfl rfl (by first | rfl | simp) (by first | assumption | rfl) (le_ rfl) rfl)) ?_
    refine k_ (g_ rfl rfl (r_assign rfl rfl (lt_ rfl) rfl)) ?_
    refine z_ rfl (by kernel_rfl) ?_
    refine awp_seq ?_
    refine awp_rg mixed ?_
    refine k_ (g_ rfl rfl (r_move rfl rfl (lt_ rfl) rfl)) ?_
    refine k_ (g_ rfl rfl (r_move rfl rfl (lt_ rfl) rfl)) ?_
    refine k_ (g_ rfl rfl (r_move rfl rfl (lt_ rfl) rfl)) ?_
    refine k_ (g_ rfl rfl (by exact r_call [] [] b15 rfl rfl (lt_ rfl) h15 (.cons rfl .refl (.cons rfl .refl (.cons rfl .refl (.nil)))) (by repeat (first | exact trivial | refine ⟨rfl, ?_⟩)) (by repeat (first | exact trivial | refine ⟨.inr rfl, ?_⟩ | refine ⟨.inl (by decide), ?_⟩)) rfl)) ?_
    refine k_ (g_ rfl rfl (r_move rfl rfl (lt_ rfl) rfl)) ?_
    refine k_ (g_ rfl rfl (r_extract rfl rfl (lt_ rfl) rfl rfl)) ?_
    refine k_ (g_ rfl rfl (r_extract rfl rfl (lt_ rfl) rfl rfl)) ?_
    refine k_ (g_ rfl rfl (r_assign rfl rfl (lt_ rfl) rfl)) ?_
    refine k_ (g_ rfl rfl (r_assign rfl rfl (lt_ rfl) rfl)) ?_
    refine z_ rfl (by kernel_rfl) ?_
    refine awp_seq ?_
    refine awp_rg mixed ?_
    refine k_ (g_ rfl rfl (r_move rfl rfl (lt_ rfl) rfl)) ?_
    refine k_ (g_ rfl rfl (r_move rfl rfl (lt_ rfl) rfl)) ?_
    refine k_ (g_ rfl rfl (r_move rfl rfl (lt_ rfl) rfl)) ?_
    refine k_ (g_ rfl rfl (by exact r_call [] [] b15 rfl rfl (lt_ rfl) h15' (.cons rfl .refl (.cons rfl .refl (.cons rfl .refl (.nil)))) (by repeat (first | exact trivial | refine ⟨rfl, ?_⟩)) (by repeat (first | exact trivial | refine ⟨.inr rfl, ?_⟩ | refine ⟨.inl (by decide), ?_⟩)) rfl)) ?_
    refine k_ (g_ rfl rfl (r_move rfl rfl (lt_ rfl) rfl)) ?_
    refine k_ (g_ rfl rfl (r_extract rfl rfl (lt_ rfl) rfl rfl)) ?_
    refine k_ (g_ rfl rfl (r_extract rfl rfl (lt_ rfl) rfl rfl)) ?_
    refine k_ (g_ rfl rfl (r_assign rfl rfl (lt_ rfl) rfl)) ?_
    refine k_ (g_ rfl rfl (r_assign rfl rfl (lt_ rfl) rfl)) ?_
    refine z_ rfl (by kernel_rfl) ?_
    have hS := instS_turned p (nm k1) (cn k3)
    cases hi : inst p (nm k1) (cn k3) with
    | none =>
      cases hi' : inst (turned p) (nm k1) (cn k3) with
      | some m => rw [hi, hi'] at hS; cases hS
      | none =>
        rw [hi] at h16
        rw [hi'] at h16'
        refine awp_seq ?_
        refine awp_rg mixed ?_
        refine k_ (g_ rfl rfl (r_move rfl rfl (lt_ rfl) rfl)) ?_
        refine k_ (g_ rfl rfl (r_move rfl rfl (lt_ rfl) rfl)) ?_
        refine k_ (g_ rfl rfl (r_move rfl rfl (lt_ rfl) rfl)) ?_
        refine k_ (g_ rfl rfl (by exact r_call [] [] b16 rfl rfl (lt_ rfl) h16 (.cons rfl .refl (.cons rfl .refl (.cons rfl .refl (.nil)))) (by repeat (first | exact trivial | refine ⟨rfl, ?_⟩)) (by repeat (first | exact trivial | refine ⟨.inr rfl, ?_⟩ | refine ⟨.inl (by decide), ?_⟩)) rfl)) ?_
        refine k_ (g_ rfl rfl (r_move rfl rfl (lt_ rfl) rfl)) ?_
        refine k_ (g_ rfl rfl (r_extract rfl rfl (lt_ rfl) rfl rfl)) ?_
        refine k_ (g_ rfl rfl (r_extract rfl rfl (lt_ rfl) rfl rfl)) ?_
        refine k_ (g_ rfl rfl (r_assign rfl rfl (lt_ rfl) rfl)) ?_
        refine k_ (g_ rfl rfl (r_assign rfl rfl (lt_ rfl) rfl)) ?_
        refine z_ rfl (by kernel_rfl) ?_
        refine awp_seq ?_
        refine awp_rg mixed ?_
        refine k_ (g_ rfl rfl (r_move rfl rfl (lt_ rfl) rfl)) ?_
        refine k_ (g_ rfl rfl (r_move rfl rfl (lt_ rfl) rfl)) ?_
        refine k_ (g_ rfl rfl (r_move rfl rfl (lt_ rfl) rfl)) ?_
        refine k_ (g_ rfl rfl (by exact r_call [] [] b16 rfl rfl (lt_ rfl) h16' (.cons rfl .refl (.cons rfl .refl (.cons rfl .refl (.nil)))) (by repeat (first | exact trivial | refine ⟨rfl, ?_⟩)) (by repeat (first | exact trivial | refine ⟨.inr rfl, ?_⟩ | refine ⟨.inl (by decide), ?_⟩)) rfl)) ?_
        refine k_ (g_ rfl rfl (r_move rfl rfl (lt_ rfl) rfl)) ?_
        refine k_ (g_ rfl rfl (r_extract rfl rfl (lt_ rfl) rfl rfl)) ?_
        refine k_ (g_ rfl rfl (r_extract rfl rfl (lt_ rfl) rfl rfl)) ?_
        refine k_ (g_ rfl rfl (r_assign rfl rfl (lt_ rfl) rfl)) ?_
        refine k_ (g_ rfl rfl (r_assign rfl rfl (lt_ rfl) rfl)) ?_
        refine z_ rfl (by kernel_rfl) ?_
        refine awp_seq ?_
        refine awp_rg mixed ?_
        refine k_ (g_ rfl rfl (r_move rfl rfl (lt_ rfl) rfl)) ?_
        refine k_ (g_ rfl rfl (r_not rfl rfl (lt_ rfl) rfl)) ?_
        refine k_ (g_ rfl rfl (r_move rfl rfl (lt_ rfl) rfl)) ?_
        refine k_ (by first | exact GStep.no rfl rfl rfl (lt_ rfl) rfl rfl (by first | assumption | rfl | (simp; done) | (simp only [Bool.not]; assumption) | (simp; omega)) rfl | exact GStep.un rfl rfl rfl (lt_ rfl) rfl rfl) ?_
        refine k_ (by first | exact GStep.no rfl rfl rfl (lt_ rfl) rfl rfl (by first | assumption | rfl | (simp; done) | (simp only [Bool.not]; assumption) | (simp; omega)) rfl | exact GStep.un rfl rfl rfl (lt_ rfl) rfl rfl) ?_
        refine k_ (by first | exact GStep.no rfl rfl rfl (lt_ rfl) rfl rfl (by first | assumption | rfl | (simp; done) | (simp only [Bool.not]; assumption) | (simp; omega)) rfl | exact GStep.un rfl rfl rfl (lt_ rfl) rfl rfl) ?_
        refine k_ (by first | exact GStep.no rfl rfl rfl (lt_ rfl) rfl rfl (by first | assumption | rfl | (simp; done) | (simp only [Bool.not]; assumption) | (simp; omega)) rfl | exact GStep.un rfl rfl rfl (lt_ rfl) rfl rfl) ?_
        refine k_ (by first | exact GStep.no rfl rfl rfl (lt_ rfl) rfl rfl (by first | assumption | rfl | (simp; done) | (simp only [Bool.not]; assumption) | (simp; omega)) rfl | exact GStep.un rfl rfl rfl (lt_ rfl) rfl rfl) ?_
        refine k_ (by first | exact GStep.no rfl rfl rfl (lt_ rfl) rfl rfl (by first | assumption | rfl | (simp; done) | (simp only [Bool.not]; assumption) | (simp; omega)) rfl | exact GStep.un rfl rfl rfl (lt_ rfl) rfl rfl) ?_
        refine k_ (by first | exact GStep.no rfl rfl rfl (lt_ rfl) rfl rfl (by first | assumption | rfl | (simp; done) | (simp only [Bool.not]; assumption) | (simp; omega)) rfl | exact GStep.un rfl rfl rfl (lt_ rfl) rfl rfl) ?_
        refine k_ (by first | exact GStep.no rfl rfl rfl (lt_ rfl) rfl rfl (by first | assumption | rfl | (simp; done) | (simp only [Bool.not]; assumption) | (simp; omega)) rfl | exact GStep.un rfl rfl rfl (lt_ rfl) rfl rfl) ?_
        refine k_ (by first | exact GStep.no rfl rfl rfl (lt_ rfl) rfl rfl (by first | assumption | rfl | (simp; done) | (simp only [Bool.not]; assumption) | (simp; omega)) rfl | exact GStep.un rfl rfl rfl (lt_ rfl) rfl rfl) ?_
        refine k_ (g_ rfl rfl (by exact r_pick_t rfl rfl (lt_ rfl) rfl (by first | assumption | rfl | (simp; done)) rfl)) ?_
        refine k_ (g_ rfl rfl (r_assign rfl rfl (lt_ rfl) rfl)) ?_
        refine z_ rfl (by kernel_rfl) ?_
        refine awp_seq ?_
        refine awp_rg mixed ?_
        refine k_ (g_ rfl rfl (r_move rfl rfl (lt_ rfl) rfl)) ?_
        refine k_ (g_ rfl rfl (r_move rfl rfl (lt_ rfl) rfl)) ?_
        refine k_ (g_ rfl rfl (r_beql tok rfl rfl (lt_ rfl) t4 rfl rfl rfl)) ?_
        refine k_ (g_ rfl rfl (r_move rfl rfl (lt_ rfl) rfl)) ?_
        refine k_ (GStep.yes rfl rfl rfl rfl (by first | assumption | rfl | (simp; done) | (simp only [Bool.not]; assumption) | (simp; omega)) (by exact r_move rfl rfl (lt_ rfl) rfl)) ?_
        refine k_ (GStep.yes rfl rfl rfl rfl (by first | assumption | rfl | (simp; done) | (simp only [Bool.not]; assumption) | (simp; omega)) (by exact r_move rfl rfl (lt_ rfl) rfl)) ?_
        refine k_ (GStep.yes rfl rfl rfl rfl (by first | assumption | rfl | (simp; done) | (simp only [Bool.not]; assumption) | (simp; omega)) (by exact r_beql tok rfl rfl (lt_ rfl) t4 rfl rfl rfl)) ?_
        refine k_ (g_ rfl rfl (by exact r_pick_t rfl rfl (lt_ rfl) rfl (by first | assumption | rfl | (simp; done)) rfl)) ?_
        refine k_ (g_ rfl rfl (r_move rfl rfl (lt_ rfl) rfl)) ?_
        refine k_ (GStep.yes rfl rfl rfl rfl (by first | assumption | rfl | (simp; done) | (simp only [Bool.not]; assumption) | (simp; omega)) (by exact r_move rfl rfl (lt_ rfl) rfl)) ?_
        refine k_ (g_ rfl rfl (by exact r_pick_t rfl rfl (lt_ rfl) rfl (by first | assumption | rfl | (simp; done)) rfl)) ?_
        refine k_ (g_ rfl rfl (r_move rfl rfl (lt_ rfl) rfl)) ?_
        refine k_ (GStep.yes rfl rfl rfl rfl (by first | assumption | rfl | (simp; done) | (simp only [Bool.not]; assumption) | (simp; omega)) (by exact r_move rfl rfl (lt_ rfl) rfl)) ?_
        refine k_ (GStep.yes rfl rfl rfl rfl (by first | assumption | rfl | (simp; done) | (simp only [Bool.not]; assumption) | (simp; omega)) (by exact r_move rfl rfl (lt_ rfl) rfl)) ?_
        refine k_ (GStep.yes rfl rfl rfl rfl (by first | assumption | rfl | (simp; done) | (simp only [Bool.not]; assumption) | (simp; omega)) (by exact r_call [] [] b18 rfl rfl (lt_ rfl) h18 (.cons rfl .refl (.cons rfl .refl (.nil))) (by repeat (first | exact trivial | refine ⟨rfl, ?_⟩)) (by repeat (first | exact trivial | refine ⟨.inr rfl, ?_⟩ | refine ⟨.inl (by decide), ?_⟩)) rfl)) ?_
        refine k_ (GStep.yes rfl rfl rfl rfl (by first | assumption | rfl | (simp; done) | (simp only [Bool.not]; assumption) | (simp; omega)) (by first | exact r_len_sl tok rfl rfl (lt_ rfl) t40 rfl rfl | exact r_len_hs tok rfl rfl (lt_ rfl) t40 rfl rfl rfl (by first | rfl | simp) | exact r_len_nl tok rfl rfl (lt_ rfl) t40 rfl rfl | exact r_len_str tok rfl rfl (lt_ rfl) t40 rfl rfl)) ?_
        refine k_ (GStep.yes rfl rfl rfl rfl (by first | assumption | rfl | (simp; done) | (simp only [Bool.not]; assumption) | (simp; omega)) (by exact r_move rfl rfl (lt_ rfl) rfl)) ?_
        refine k_ (GStep.yes rfl rfl rfl rfl (by first | assumption | rfl | (simp; done) | (simp only [Bool.not]; assumption) | (simp; omega)) (by exact r_move rfl rfl (lt_ rfl) rfl)) ?_
        refine k_ (GStep.yes rfl rfl rfl rfl (by first | assumption | rfl | (simp; done) | (simp only [Bool.not]; assumption) | (simp; omega)) (by exact r_call [] [] b18 rfl rfl (lt_ rfl) h18' (.cons rfl .refl (.cons rfl .refl (.nil))) (by repeat (first | exact trivial | refine ⟨rfl, ?_⟩)) (by repeat (first | exact trivial | refine ⟨.inr rfl, ?_⟩ | refine ⟨.inl (by decide), ?_⟩)) rfl)) ?_
        refine k_ (GStep.yes rfl rfl rfl rfl (by first | assumption | rfl | (simp; done) | (simp only [Bool.not]; assumption) | (simp; omega)) (by first | exact r_len_sl tok rfl rfl (lt_ rfl) t40 rfl rfl | exact r_len_hs tok rfl rfl (lt_ rfl) t40 rfl rfl rfl (by first | rfl | simp) | exact r_len_nl tok rfl rfl (lt_ rfl) t40 rfl rfl | exact r_len_str tok rfl rfl (lt_ rfl) t40 rfl rfl)) ?_
        refine k_ (GStep.yes rfl rfl rfl rfl (by first | assumption | rfl | (simp; done) | (simp only [Bool.not]; assumption) | (simp; omega)) (by exact r_eql rfl rfl (lt_ rfl) rfl rfl)) ?_
        refine k_ (g_ rfl rfl (by exact r_pick_t rfl rfl (lt_ rfl) rfl (by first | assumption | rfl | (simp; done)) rfl)) ?_
        refine k_ (g_ rfl rfl (r_move rfl rfl (lt_ rfl) rfl)) ?_
        refine k_ (GStep.yes rfl rfl rfl rfl (by first | assumption | rfl | (simp; done) | (simp only [Bool.not]; assumption) | (simp; omega)) (by exact r_move rfl rfl (lt_ rfl) rfl)) ?_
        refine k_ (GStep.yes rfl rfl rfl rfl (by first | assumption | rfl | (simp; done) | (simp only [Bool.not]; assumption) | (simp; omega)) (by exact r_call [] [] b19 rfl rfl (lt_ rfl) h19 (.cons rfl .refl (.nil)) (by repeat (first | exact trivial | refine ⟨rfl, ?_⟩)) (by repeat (first | exact trivial | refine ⟨.inr rfl, ?_⟩ | refine ⟨.inl (by decide), ?_⟩)) rfl)) ?_
        refine k_ (GStep.yes rfl rfl rfl rfl (by first | assumption | rfl | (simp; done) | (simp only [Bool.not]; assumption) | (simp; omega)) (by exact r_move rfl rfl (lt_ rfl) rfl)) ?_
        refine k_ (GStep.yes rfl rfl rfl rfl (by first | assumption | rfl | (simp; done) | (simp only [Bool.not]; assumption) | (simp; omega)) (by exact r_call [] [] b19 rfl rfl (lt_ rfl) h19' (.cons rfl .refl (.nil)) (by repeat (first | exact trivial | refine ⟨rfl, ?_⟩)) (by repeat (first | exact trivial | refine ⟨.inr rfl, ?_⟩ | refine ⟨.inl (by decide), ?_⟩)) rfl)) ?_
        refine k_ (GStep.yes rfl rfl rfl rfl (by first | assumption | rfl | (simp; done) | (simp only [Bool.not]; assumption) | (simp; omega)) (by exact r_eql rfl rfl (lt_ rfl) rfl rfl)) ?_
        refine k_ (g_ rfl rfl (by exact r_pick_t rfl rfl (lt_ rfl) rfl (by first | assumption | rfl | (simp; done)) rfl)) ?_
        refine k_ (g_ rfl rfl (r_move rfl rfl (lt_ rfl) rfl)) ?_
        refine k_ (GStep.yes rfl rfl rfl rfl (by first | assumption | rfl | (simp; done) | (simp only [Bool.not]; assumption) | (simp; omega)) (by exact r_call [] [] b12 rfl rfl (lt_ rfl) c12 (.nil) (by repeat (first | exact trivial | refine ⟨rfl, ?_⟩)) (by repeat (first | exact trivial | refine ⟨.inr rfl, ?_⟩ | refine ⟨.inl (by decide), ?_⟩)) rfl)) ?_
        refine k_ (g_ rfl rfl (by exact r_pick_t rfl rfl (lt_ rfl) rfl (by first | assumption | rfl | (simp; done)) rfl)) ?_
        refine k_ (g_ rfl rfl (r_assign rfl rfl (lt_ rfl) rfl)) ?_
        refine z_ rfl (by kernel_rfl) ?_
        refine awp_ret ?_
        exact ⟨.inr rfl, ⟨_, _, .tmp rfl .nil, .cons .refl .nil, rfl⟩, trivial, rfl⟩
    | some k =>
      cases hi' : inst (turned p) (nm k1) (cn k3) with
      | none => rw [hi, hi'] at hS; cases hS
      | some m =>
        rw [hi] at h16
        rw [hi'] at h16'
        have hat := inst_at hf.keys (nm k1) (cn k3) k m hi hi'
        have h17 := c17 p (envOf p) k he hp
        have h17' := c17 (turned p) (envOf (turned p)) m he' hq
        rw [← hat] at h17'
        refine awp_seq ?_
        refine awp_rg mixed ?_
        refine k_ (g_ rfl rfl (r_move rfl rfl (lt_ rfl) rfl)) ?_
        refine k_ (g_ rfl rfl (r_move rfl rfl (lt_ rfl) rfl)) ?_
        refine k_ (g_ rfl rfl (r_move rfl rfl (lt_ rfl) rfl)) ?_
        refine k_ (g_ rfl rfl (by exact r_call [] [] b16 rfl rfl (lt_ rfl) h16 (.cons rfl .refl (.cons rfl .refl (.cons rfl .refl (.nil)))) (by repeat (first | exact trivial | refine ⟨rfl, ?_⟩)) (by repeat (first | exact trivial | refine ⟨.inr rfl, ?_⟩ | refine ⟨.inl (by decide), ?_⟩)) rfl)) ?_
        refine k_ (g_ rfl rfl (r_move rfl rfl (lt_ rfl) rfl)) ?_
        refine k_ (g_ rfl rfl (r_extract rfl rfl (lt_ rfl) rfl rfl)) ?_
        refine k_ (g_ rfl rfl (r_extract rfl rfl (lt_ rfl) rfl rfl)) ?_
        refine k_ (g_ rfl rfl (r_assign rfl rfl (lt_ rfl) rfl)) ?_
        refine k_ (g_ rfl rfl (r_assign rfl rfl (lt_ rfl) rfl)) ?_
        refine z_ rfl (by kernel_rfl) ?_
        refine awp_seq ?_
        refine awp_rg mixed ?_
        refine k_ (g_ rfl rfl (r_move rfl rfl (lt_ rfl) rfl)) ?_
        refine k_ (g_ rfl rfl (r_move rfl rfl (lt_ rfl) rfl)) ?_
        refine k_ (g_ rfl rfl (r_move rfl rfl (lt_ rfl) rfl)) ?_
        refine k_ (g_ rfl rfl (by exact r_call [] [] b16 rfl rfl (lt_ rfl) h16' (.cons rfl .refl (.cons rfl .refl (.cons rfl .refl (.nil)))) (by repeat (first | exact trivial | refine ⟨rfl, ?_⟩)) (by repeat (first | exact trivial | refine ⟨.inr rfl, ?_⟩ | refine ⟨.inl (by decide), ?_⟩)) rfl)) ?_
        refine k_ (g_ rfl rfl (r_move rfl rfl (lt_ rfl) rfl)) ?_
        refine k_ (g_ rfl rfl (r_extract rfl rfl (lt_ rfl) rfl rfl)) ?_
        refine k_ (g_ rfl rfl (r_extract rfl rfl (lt_ rfl) rfl rfl)) ?_
        refine k_ (g_ rfl rfl (r_assign rfl rfl (lt_ rfl) rfl)) ?_
        refine k_ (g_ rfl rfl (r_assign rfl rfl (lt_ rfl) rfl)) ?_
        refine z_ rfl (by kernel_rfl) ?_
        refine awp_seq ?_
        refine awp_rg mixed ?_
        refine k_ (g_ rfl rfl (r_move rfl rfl (lt_ rfl) rfl)) ?_
        refine k_ (g_ rfl rfl (r_not rfl rfl (lt_ rfl) rfl)) ?_
        refine k_ (g_ rfl rfl (r_move rfl rfl (lt_ rfl) rfl)) ?_
        refine k_ (GStep.yes rfl rfl rfl rfl (by first | assumption | rfl | (simp; done) | (simp only [Bool.not]; assumption) | (simp; omega)) (by exact r_move rfl rfl (lt_ rfl) rfl)) ?_
        refine k_ (GStep.yes rfl rfl rfl rfl (by first | assumption | rfl | (simp; done) | (simp only [Bool.not]; assumption) | (simp; omega)) (by exact r_move rfl rfl (lt_ rfl) rfl)) ?_
        refine k_ (GStep.yes rfl rfl rfl rfl (by first | assumption | rfl | (simp; done) | (simp only [Bool.not]; assumption) | (simp; omega)) (by exact r_call [] [] b17 rfl rfl (lt_ rfl) h17 (.cons rfl .refl (.cons rfl .refl (.nil))) (by repeat (first | exact trivial | refine ⟨rfl, ?_⟩)) (by repeat (first | exact trivial | refine ⟨.inr rfl, ?_⟩ | refine ⟨.inl (by decide), ?_⟩)) rfl)) ?_
        refine k_ (GStep.yes rfl rfl rfl rfl (by first | assumption | rfl | (simp; done) | (simp only [Bool.not]; assumption) | (simp; omega)) (by exact r_field tok rfl rfl (lt_ rfl) t50 rfl rfl t3 rfl rfl rfl rfl rfl)) ?_
        refine k_ (GStep.yes rfl rfl rfl rfl (by first | assumption | rfl | (simp; done) | (simp only [Bool.not]; assumption) | (simp; omega)) (by exact r_move rfl rfl (lt_ rfl) rfl)) ?_
        refine k_ (GStep.yes rfl rfl rfl rfl (by first | assumption | rfl | (simp; done) | (simp only [Bool.not]; assumption) | (simp; omega)) (by exact r_move rfl rfl (lt_ rfl) rfl)) ?_
        refine k_ (GStep.yes rfl rfl rfl rfl (by first | assumption | rfl | (simp; done) | (simp only [Bool.not]; assumption) | (simp; omega)) (by exact r_call [] [] b17 rfl rfl (lt_ rfl) h17' (.cons rfl .refl (.cons rfl .refl (.nil))) (by repeat (first | exact trivial | refine ⟨rfl, ?_⟩)) (by repeat (first | exact trivial | refine ⟨.inr rfl, ?_⟩ | refine ⟨.inl (by decide), ?_⟩)) rfl)) ?_
        refine k_ (GStep.yes rfl rfl rfl rfl (by first | assumption | rfl | (simp; done) | (simp only [Bool.not]; assumption) | (simp; omega)) (by exact r_field tok rfl rfl (lt_ rfl) t50 rfl rfl t3 rfl rfl rfl rfl rfl)) ?_
        refine k_ (GStep.yes rfl rfl rfl rfl (by first | assumption | rfl | (simp; done) | (simp only [Bool.not]; assumption) | (simp; omega)) (by exact r_eql rfl rfl (lt_ rfl) rfl rfl)) ?_
        refine k_ (g_ rfl rfl (by exact r_pick_f rfl rfl (lt_ rfl) rfl (by first | assumption | rfl | (simp; done)) rfl)) ?_
        refine k_ (g_ rfl rfl (r_assign rfl rfl (lt_ rfl) rfl)) ?_
        refine z_ rfl (by kernel_rfl) ?_
        refine awp_seq ?_
        refine awp_rg mixed ?_
        refine k_ (g_ rfl rfl (r_move rfl rfl (lt_ rfl) rfl)) ?_
        refine k_ (g_ rfl rfl (r_move rfl rfl (lt_ rfl) rfl)) ?_
        refine k_ (g_ rfl rfl (r_beql tok rfl rfl (lt_ rfl) t4 rfl rfl rfl)) ?_
        refine k_ (g_ rfl rfl (r_move rfl rfl (lt_ rfl) rfl)) ?_
        refine k_ (GStep.yes rfl rfl rfl rfl (by first | assumption | rfl | (simp; done) | (simp only [Bool.not]; assumption) | (simp; omega)) (by exact r_move rfl rfl (lt_ rfl) rfl)) ?_
        refine k_ (GStep.yes rfl rfl rfl rfl (by first | assumption | rfl | (simp; done) | (simp only [Bool.not]; assumption) | (simp; omega)) (by exact r_move rfl rfl (lt_ rfl) rfl)) ?_
        refine k_ (GStep.yes rfl rfl rfl rfl (by first | assumption | rfl | (simp; done) | (simp only [Bool.not]; assumption) | (simp; omega)) (by exact r_beql tok rfl rfl (lt_ rfl) t4 rfl rfl rfl)) ?_
        refine k_ (g_ rfl rfl (by exact r_pick_t rfl rfl (lt_ rfl) rfl (by first | assumption | rfl | (simp; done)) rfl)) ?_
        refine k_ (g_ rfl rfl (r_move rfl rfl (lt_ rfl) rfl)) ?_
        refine k_ (GStep.yes rfl rfl rfl rfl (by first | assumption | rfl | (simp; done) | (simp only [Bool.not]; assumption) | (simp; omega)) (by exact r_move rfl rfl (lt_ rfl) rfl)) ?_
        refine k_ (g_ rfl rfl (by exact r_pick_t rfl rfl (lt_ rfl) rfl (by first | assumption | rfl | (simp; done)) rfl)) ?_
        refine k_ (g_ rfl rfl (r_move rfl rfl (lt_ rfl) rfl)) ?_
        refine k_ (GStep.yes rfl rfl rfl rfl (by first | assumption | rfl | (simp; done) | (simp only [Bool.not]; assumption) | (simp; omega)) (by exact r_move rfl rfl (lt_ rfl) rfl)) ?_
        refine k_ (GStep.yes rfl rfl rfl rfl (by first | assumption | rfl | (simp; done) | (simp only [Bool.not]; assumption) | (simp; omega)) (by exact r_move rfl rfl (lt_ rfl) rfl)) ?_
        refine k_ (GStep.yes rfl rfl rfl rfl (by first | assumption | rfl | (simp; done) | (simp only [Bool.not]; assumption) | (simp; omega)) (by exact r_call [] [] b18 rfl rfl (lt_ rfl) h18 (.cons rfl .refl (.cons rfl .refl (.nil))) (by repeat (first | exact trivial | refine ⟨rfl, ?_⟩)) (by repeat (first | exact trivial | refine ⟨.inr rfl, ?_⟩ | refine ⟨.inl (by decide), ?_⟩)) rfl)) ?_
        refine k_ (GStep.yes rfl rfl rfl rfl (by first | assumption | rfl | (simp; done) | (simp only [Bool.not]; assumption) | (simp; omega)) (by first | exact r_len_sl tok rfl rfl (lt_ rfl) t40 rfl rfl | exact r_len_hs tok rfl rfl (lt_ rfl) t40 rfl rfl rfl (by first | rfl | simp) | exact r_len_nl tok rfl rfl (lt_ rfl) t40 rfl rfl | exact r_len_str tok rfl rfl (lt_ rfl) t40 rfl rfl)) ?_
        refine k_ (GStep.yes rfl rfl rfl rfl (by first | assumption | rfl | (simp; done) | (simp only [Bool.not]; assumption) | (simp; omega)) (by exact r_move rfl rfl (lt_ rfl) rfl)) ?_
        refine k_ (GStep.yes rfl rfl rfl rfl (by first | assumption | rfl | (simp; done) | (simp only [Bool.not]; assumption) | (simp; omega)) (by exact r_move rfl rfl (lt_ rfl) rfl)) ?_
        refine k_ (GStep.yes rfl rfl rfl rfl (by first | assumption | rfl | (simp; done) | (simp only [Bool.not]; assumption) | (simp; omega)) (by exact r_call [] [] b18 rfl rfl (lt_ rfl) h18' (.cons rfl .refl (.cons rfl .refl (.nil))) (by repeat (first | exact trivial | refine ⟨rfl, ?_⟩)) (by repeat (first | exact trivial | refine ⟨.inr rfl, ?_⟩ | refine ⟨.inl (by decide), ?_⟩)) rfl)) ?_
        refine k_ (GStep.yes rfl rfl rfl rfl (by first | assumption | rfl | (simp; done) | (simp only [Bool.not]; assumption) | (simp; omega)) (by first | exact r_len_sl tok rfl rfl (lt_ rfl) t40 rfl rfl | exact r_len_hs tok rfl rfl (lt_ rfl) t40 rfl rfl rfl (by first | rfl | simp) | exact r_len_nl tok rfl rfl (lt_ rfl) t40 rfl rfl | exact r_len_str tok rfl rfl (lt_ rfl) t40 rfl rfl)) ?_
        refine k_ (GStep.yes rfl rfl rfl rfl (by first | assumption | rfl | (simp; done) | (simp only [Bool.not]; assumption) | (simp; omega)) (by exact r_eql rfl rfl (lt_ rfl) rfl rfl)) ?_
        refine k_ (g_ rfl rfl (by exact r_pick_t rfl rfl (lt_ rfl) rfl (by first | assumption | rfl | (simp; done)) rfl)) ?_
        refine k_ (g_ rfl rfl (r_move rfl rfl (lt_ rfl) rfl)) ?_
        refine k_ (GStep.yes rfl rfl rfl rfl (by first | assumption | rfl | (simp; done) | (simp only [Bool.not]; assumption) | (simp; omega)) (by exact r_move rfl rfl (lt_ rfl) rfl)) ?_
        refine k_ (GStep.yes rfl rfl rfl rfl (by first | assumption | rfl | (simp; done) | (simp only [Bool.not]; assumption) | (simp; omega)) (by exact r_call [] [] b19 rfl rfl (lt_ rfl) h19 (.cons rfl .refl (.nil)) (by repeat (first | exact trivial | refine ⟨rfl, ?_⟩)) (by repeat (first | exact trivial | refine ⟨.inr rfl, ?_⟩ | refine ⟨.inl (by decide), ?_⟩)) rfl)) ?_
        refine k_ (GStep.yes rfl rfl rfl rfl (by first | assumption | rfl | (simp; done) | (simp only [Bool.not]; assumption) | (simp; omega)) (by exact r_move rfl rfl (lt_ rfl) rfl)) ?_
        refine k_ (GStep.yes rfl rfl rfl rfl (by first | assumption | rfl | (simp; done) | (simp only [Bool.not]; assumption) | (simp; omega)) (by exact r_call [] [] b19 rfl rfl (lt_ rfl) h19' (.cons rfl .refl (.nil)) (by repeat (first | exact trivial | refine ⟨rfl, ?_⟩)) (by repeat (first | exact trivial | refine ⟨.inr rfl, ?_⟩ | refine ⟨.inl (by decide), ?_⟩)) rfl)) ?_
        refine k_ (GStep.yes rfl rfl rfl rfl (by first | assumption | rfl | (simp; done) | (simp only [Bool.not]; assumption) | (simp; omega)) (by exact r_eql rfl rfl (lt_ rfl) rfl rfl)) ?_
        refine k_ (g_ rfl rfl (by exact r_pick_t rfl rfl (lt_ rfl) rfl (by first | assumption | rfl | (simp; done)) rfl)) ?_
        refine k_ (g_ rfl rfl (r_move rfl rfl (lt_ rfl) rfl)) ?_
        refine k_ (GStep.yes rfl rfl rfl rfl (by first | assumption | rfl | (simp; done) | (simp only [Bool.not]; assumption) | (simp; omega)) (by exact r_call [] [] b12 rfl rfl (lt_ rfl) c12 (.nil) (by repeat (first | exact trivial | refine ⟨rfl, ?_⟩)) (by repeat (first | exact trivial | refine ⟨.inr rfl, ?_⟩ | refine ⟨.inl (by decide), ?_⟩)) rfl)) ?_
        refine k_ (g_ rfl rfl (by exact r_pick_t rfl rfl (lt_ rfl) rfl (by first | assumption | rfl | (simp; done)) rfl)) ?_
        refine k_ (g_ rfl rfl (r_assign rfl rfl (lt_ rfl) rfl)) ?_
        refine z_ rfl (by kernel_rfl) ?_
        refine awp_ret ?_
        exact ⟨.inr rfl, ⟨_, _, .tmp rfl .nil, .cons .refl .nil, rfl⟩, trivial, rfl⟩
end Go.Proofs.Ythfeeaifddppoaa
