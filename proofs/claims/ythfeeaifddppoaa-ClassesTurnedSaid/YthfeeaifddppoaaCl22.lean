/-
  ClassesRefuses.
-/
import Derived.Test.YthfeeaifddppoaaCl21
import Derived.Test.YthfeeaifddppoaaPl3
namespace Go.Proofs.Ythfeeaifddppoaa
open Go Go.AM
set_option maxRecDepth 20000
set_option maxHeartbeats 1000000

theorem b3 : bodied Try.prog 3 := ⟨Try.f3, Try.func3, by decide, rfl⟩
theorem b4 : bodied Try.prog 4 := ⟨Try.f4, Try.func4, by decide, rfl⟩
theorem b5 : bodied Try.prog 5 := ⟨Try.f5, Try.func5, by decide, rfl⟩
theorem b6 : bodied Try.prog 6 := ⟨Try.f6, Try.func6, by decide, rfl⟩
theorem b7 : bodied Try.prog 7 := ⟨Try.f7, Try.func7, by decide, rfl⟩
theorem eq34 : EqOk Try.prog 34 := by unfold EqOk; kernel_rfl

theorem newAt_zero {p : Prog} (h : (newAt p).no = 0) : newAt p = ⟨0, 0⟩ := by
  obtain ⟨a1, _⟩ := r1_no p p.classes [] (by simp)
  obtain ⟨b1, _⟩ := r2_no p (refl1 p) a1 p.insts.length
  obtain ⟨d1, _⟩ := r3_no p p.insts (r2 p (refl1 p) p.insts.length) b1
  have := ((least_no (refl p) ⟨0, 0⟩ d1).1 h).2
  unfold newAt
  rw [this]; rfl
theorem newR_any (p : Prog) : ∃ x, newR p = .tup [.one (.c x), .pa (encAt (newAt p))] ∧ ptrNil (.one (.c x)) = some (decide ((newAt p).no ≠ 0)) := by
  unfold newR
  by_cases h : (newAt p).no ≠ 0
  · rw [if_pos h]
    exact ⟨.np, rfl, by simp [ptrNil, h]⟩
  · rw [if_neg h]
    have h0 : (newAt p).no = 0 := by simpa using h
    rw [newAt_zero h0]
    exact ⟨_, rfl, by simp [ptrNil]⟩

theorem c3 (l : List Int) (hr : ∀ x ∈ l, In64 x) (hl : Fits l) : ImpC Try.prog 3 [.one (.c (.sl 1 (l.map encI)))] [] (B true) [] := by
  have h8 := c8 l hr hl
  have hp := made_PS l
  generalize made l = p at h8 hp
  have hq := turned_PS hp
  have h9 := c9 p hp
  have h10 := c10 p hp
  have h10' := c10 (turned p) hq
  have h11 := c11 p hp
  have h11' := c11 (turned p) hq
  rw [← newAt_eq] at h11 h11'
  obtain ⟨x, hx, hxn⟩ := newR_any p
  obtain ⟨y, hy, hyn⟩ := newR_any (turned p)
  rw [hx] at h10
  rw [hy] at h10'
  have s1 : ceqL (encAt (newAt p)) (encAt (newAt p)) = true := by simp [ceqL, ceq, encAt]
  have s2 : ceqL (encAt (newAt (turned p))) (encAt (newAt (turned p))) = true := by simp [ceqL, ceq, encAt]
  have s3 : (decide ((newAt p).no ≠ 0) == !decide ((newAt p).no = 0)) = true := by simp
  have s4 : (decide ((newAt (turned p)).no ≠ 0) == !decide ((newAt (turned p)).no = 0)) = true := by simp
  refine impC (n := 56) tok Try.func3 rfl rfl rfl ?_
  refine awp_seq ?_
  refine awp_rg mixed ?_
  refine k_ (g_ rfl rfl (r_assign rfl rfl (lt_ rfl) rfl)) ?_
  refine z_ rfl (by kernel_rfl) ?_
  refine awp_seq ?_
  refine awp_rg mixed ?_
  refine k_ (g_ rfl rfl (r_move rfl rfl (lt_ rfl) rfl)) ?_
  refine k_ (g_ rfl rfl (by exact r_call [] [] b8 rfl rfl (lt_ rfl) h8 (.cons rfl (by first | exact .refl | exact .one (.hs rfl (by first | rfl | simp) (by first | rfl | (simp; done) | (simp [Go.AM.take_map]; done) | exact Go.AM.take_map.symm) .nil) | exact .one (.c .nl .nil) | exact .one (.c .sn .nil)) (.nil)) (by repeat (first | exact trivial | refine ⟨rfl, ?_⟩)) (by repeat (first | exact trivial | refine ⟨.inr rfl, ?_⟩ | refine ⟨.inl (by decide), ?_⟩)) rfl)) ?_
  refine k_ (g_ rfl rfl (r_alloc 3 tok rfl rfl (lt_ rfl) t28 rfl)) ?_
  refine k_ (g_ rfl rfl (by first | exact r_store tok rfl rfl t28 rfl rfl rfl rfl rfl rfl | exact r_store_ep tok rfl rfl t28 rfl rfl rfl rfl rfl (by first | rfl | simp) (by first | assumption | rfl) rfl (le_ rfl))) ?_
  refine z_ rfl (by kernel_rfl) ?_
  refine awp_seq ?_
  refine awp_rg mixed ?_
  refine k_ (g_ rfl rfl (by first | exact r_load tok rfl rfl (lt_ rfl) t28 rfl rfl rfl rfl | exact r_load_pt tok rfl rfl (lt_ rfl) t28 rfl (le_ rfl) rfl | exact r_load_ep tok rfl rfl (lt_ rfl) t28 rfl rfl (by first | rfl | simp) (by first | assumption | rfl) (le_ rfl) rfl)) ?_
  refine k_ (g_ rfl rfl (by exact r_call [] [] b9 rfl rfl (lt_ rfl) h9 (.cons rfl (by first | exact .refl | exact .agg (by first | exact .of_pure | ((first | refine .hs rfl (by first | rfl | simp) (by first | rfl | (simp; done) | (simp [Go.AM.take_map]; done) | exact Go.AM.take_map.symm) ?_ | refine .c .refl ?_ | refine .c (Cle.nl (es := 5)) ?_); (first | refine .hs rfl (by first | rfl | simp) (by first | rfl | (simp; done) | (simp [Go.AM.take_map]; done) | exact Go.AM.take_map.symm) ?_ | refine .c .refl ?_ | refine .c (Cle.nl (es := 6)) ?_); (first | refine .hs rfl (by first | rfl | simp) (by first | rfl | (simp; done) | (simp [Go.AM.take_map]; done) | exact Go.AM.take_map.symm) ?_ | refine .c .refl ?_ | refine .c (Cle.nl (es := 6)) ?_); (first | refine .hs rfl (by first | rfl | simp) (by first | rfl | (simp; done) | (simp [Go.AM.take_map]; done) | exact Go.AM.take_map.symm) ?_ | refine .c .refl ?_ | refine .c (Cle.nl (es := 33)) ?_); exact .nil)) | exact .pa (by first | exact .of_pure | ((first | refine .hs rfl (by first | rfl | simp) (by first | rfl | (simp; done) | (simp [Go.AM.take_map]; done) | exact Go.AM.take_map.symm) ?_ | refine .c .refl ?_ | refine .c (Cle.nl (es := 5)) ?_); (first | refine .hs rfl (by first | rfl | simp) (by first | rfl | (simp; done) | (simp [Go.AM.take_map]; done) | exact Go.AM.take_map.symm) ?_ | refine .c .refl ?_ | refine .c (Cle.nl (es := 6)) ?_); (first | refine .hs rfl (by first | rfl | simp) (by first | rfl | (simp; done) | (simp [Go.AM.take_map]; done) | exact Go.AM.take_map.symm) ?_ | refine .c .refl ?_ | refine .c (Cle.nl (es := 6)) ?_); (first | refine .hs rfl (by first | rfl | simp) (by first | rfl | (simp; done) | (simp [Go.AM.take_map]; done) | exact Go.AM.take_map.symm) ?_ | refine .c .refl ?_ | refine .c (Cle.nl (es := 33)) ?_); exact .nil))) (.nil)) (by repeat (first | exact trivial | refine ⟨rfl, ?_⟩)) (by repeat (first | exact trivial | refine ⟨.inr rfl, ?_⟩ | refine ⟨.inl (by decide), ?_⟩)) rfl)) ?_
  refine k_ (g_ rfl rfl (r_alloc 4 tok rfl rfl (lt_ rfl) t28 rfl)) ?_
  refine k_ (g_ rfl rfl (by first | exact r_store tok rfl rfl t28 rfl rfl rfl rfl rfl rfl | exact r_store_ep tok rfl rfl t28 rfl rfl rfl rfl rfl (by first | rfl | simp) (by first | assumption | rfl) rfl (le_ rfl))) ?_
  refine z_ rfl (by kernel_rfl) ?_
  refine awp_seq ?_
  refine awp_rg mixed ?_
  refine k_ (g_ rfl rfl (by first | exact r_load tok rfl rfl (lt_ rfl) t28 rfl rfl rfl rfl | exact r_load_pt tok rfl rfl (lt_ rfl) t28 rfl (le_ rfl) rfl | exact r_load_ep tok rfl rfl (lt_ rfl) t28 rfl rfl (by first | rfl | simp) (by first | assumption | rfl) (le_ rfl) rfl)) ?_
  refine k_ (g_ rfl rfl (by exact r_call [] [] b10 rfl rfl (lt_ rfl) h10 (.cons rfl (by first | exact .refl | exact .agg (by first | exact .of_pure | ((first | refine .hs rfl (by first | rfl | simp) (by first | rfl | (simp; done) | (simp [Go.AM.take_map]; done) | exact Go.AM.take_map.symm) ?_ | refine .c .refl ?_ | refine .c (Cle.nl (es := 5)) ?_); (first | refine .hs rfl (by first | rfl | simp) (by first | rfl | (simp; done) | (simp [Go.AM.take_map]; done) | exact Go.AM.take_map.symm) ?_ | refine .c .refl ?_ | refine .c (Cle.nl (es := 6)) ?_); (first | refine .hs rfl (by first | rfl | simp) (by first | rfl | (simp; done) | (simp [Go.AM.take_map]; done) | exact Go.AM.take_map.symm) ?_ | refine .c .refl ?_ | refine .c (Cle.nl (es := 6)) ?_); (first | refine .hs rfl (by first | rfl | simp) (by first | rfl | (simp; done) | (simp [Go.AM.take_map]; done) | exact Go.AM.take_map.symm) ?_ | refine .c .refl ?_ | refine .c (Cle.nl (es := 33)) ?_); exact .nil)) | exact .pa (by first | exact .of_pure | ((first | refine .hs rfl (by first | rfl | simp) (by first | rfl | (simp; done) | (simp [Go.AM.take_map]; done) | exact Go.AM.take_map.symm) ?_ | refine .c .refl ?_ | refine .c (Cle.nl (es := 5)) ?_); (first | refine .hs rfl (by first | rfl | simp) (by first | rfl | (simp; done) | (simp [Go.AM.take_map]; done) | exact Go.AM.take_map.symm) ?_ | refine .c .refl ?_ | refine .c (Cle.nl (es := 6)) ?_); (first | refine .hs rfl (by first | rfl | simp) (by first | rfl | (simp; done) | (simp [Go.AM.take_map]; done) | exact Go.AM.take_map.symm) ?_ | refine .c .refl ?_ | refine .c (Cle.nl (es := 6)) ?_); (first | refine .hs rfl (by first | rfl | simp) (by first | rfl | (simp; done) | (simp [Go.AM.take_map]; done) | exact Go.AM.take_map.symm) ?_ | refine .c .refl ?_ | refine .c (Cle.nl (es := 33)) ?_); exact .nil))) (.nil)) (by repeat (first | exact trivial | refine ⟨rfl, ?_⟩)) (by repeat (first | exact trivial | refine ⟨.inr rfl, ?_⟩ | refine ⟨.inl (by decide), ?_⟩)) rfl)) ?_
  refine k_ (g_ rfl rfl (r_move rfl rfl (lt_ rfl) rfl)) ?_
  refine k_ (g_ rfl rfl (r_extract rfl rfl (lt_ rfl) rfl rfl)) ?_
  refine k_ (g_ rfl rfl (r_extract rfl rfl (lt_ rfl) rfl rfl)) ?_
  refine k_ (g_ rfl rfl (r_alloc 6 tok rfl rfl (lt_ rfl) t34 rfl)) ?_
  refine k_ (g_ rfl rfl (r_assign rfl rfl (lt_ rfl) rfl)) ?_
  refine k_ (g_ rfl rfl (by first | exact r_store tok rfl rfl t34 rfl rfl rfl rfl rfl rfl | exact r_store_ep tok rfl rfl t34 rfl rfl rfl rfl rfl (by first | rfl | simp) (by first | assumption | rfl) rfl (le_ rfl))) ?_
  refine z_ rfl (by kernel_rfl) ?_
  refine awp_seq ?_
  refine awp_rg mixed ?_
  refine k_ (g_ rfl rfl (by first | exact r_load tok rfl rfl (lt_ rfl) t28 rfl rfl rfl rfl | exact r_load_pt tok rfl rfl (lt_ rfl) t28 rfl (le_ rfl) rfl | exact r_load_ep tok rfl rfl (lt_ rfl) t28 rfl rfl (by first | rfl | simp) (by first | assumption | rfl) (le_ rfl) rfl)) ?_
  refine k_ (g_ rfl rfl (by exact r_call [] [] b10 rfl rfl (lt_ rfl) h10' (.cons rfl (by first | exact .refl | exact .agg (by first | exact .of_pure | ((first | refine .hs rfl (by first | rfl | simp) (by first | rfl | (simp; done) | (simp [Go.AM.take_map]; done) | exact Go.AM.take_map.symm) ?_ | refine .c .refl ?_ | refine .c (Cle.nl (es := 5)) ?_); (first | refine .hs rfl (by first | rfl | simp) (by first | rfl | (simp; done) | (simp [Go.AM.take_map]; done) | exact Go.AM.take_map.symm) ?_ | refine .c .refl ?_ | refine .c (Cle.nl (es := 6)) ?_); (first | refine .hs rfl (by first | rfl | simp) (by first | rfl | (simp; done) | (simp [Go.AM.take_map]; done) | exact Go.AM.take_map.symm) ?_ | refine .c .refl ?_ | refine .c (Cle.nl (es := 6)) ?_); (first | refine .hs rfl (by first | rfl | simp) (by first | rfl | (simp; done) | (simp [Go.AM.take_map]; done) | exact Go.AM.take_map.symm) ?_ | refine .c .refl ?_ | refine .c (Cle.nl (es := 33)) ?_); exact .nil)) | exact .pa (by first | exact .of_pure | ((first | refine .hs rfl (by first | rfl | simp) (by first | rfl | (simp; done) | (simp [Go.AM.take_map]; done) | exact Go.AM.take_map.symm) ?_ | refine .c .refl ?_ | refine .c (Cle.nl (es := 5)) ?_); (first | refine .hs rfl (by first | rfl | simp) (by first | rfl | (simp; done) | (simp [Go.AM.take_map]; done) | exact Go.AM.take_map.symm) ?_ | refine .c .refl ?_ | refine .c (Cle.nl (es := 6)) ?_); (first | refine .hs rfl (by first | rfl | simp) (by first | rfl | (simp; done) | (simp [Go.AM.take_map]; done) | exact Go.AM.take_map.symm) ?_ | refine .c .refl ?_ | refine .c (Cle.nl (es := 6)) ?_); (first | refine .hs rfl (by first | rfl | simp) (by first | rfl | (simp; done) | (simp [Go.AM.take_map]; done) | exact Go.AM.take_map.symm) ?_ | refine .c .refl ?_ | refine .c (Cle.nl (es := 33)) ?_); exact .nil))) (.nil)) (by repeat (first | exact trivial | refine ⟨rfl, ?_⟩)) (by repeat (first | exact trivial | refine ⟨.inr rfl, ?_⟩ | refine ⟨.inl (by decide), ?_⟩)) rfl)) ?_
  refine k_ (g_ rfl rfl (r_move rfl rfl (lt_ rfl) rfl)) ?_
  refine k_ (g_ rfl rfl (r_extract rfl rfl (lt_ rfl) rfl rfl)) ?_
  refine k_ (g_ rfl rfl (r_extract rfl rfl (lt_ rfl) rfl rfl)) ?_
  refine k_ (g_ rfl rfl (r_alloc 8 tok rfl rfl (lt_ rfl) t34 rfl)) ?_
  refine k_ (g_ rfl rfl (r_assign rfl rfl (lt_ rfl) rfl)) ?_
  refine k_ (g_ rfl rfl (by first | exact r_store tok rfl rfl t34 rfl rfl rfl rfl rfl rfl | exact r_store_ep tok rfl rfl t34 rfl rfl rfl rfl rfl (by first | rfl | simp) (by first | assumption | rfl) rfl (le_ rfl))) ?_
  refine z_ rfl (by kernel_rfl) ?_
  refine awp_seq ?_
  refine awp_rg mixed ?_
  refine k_ (g_ rfl rfl (by first | exact r_load tok rfl rfl (lt_ rfl) t28 rfl rfl rfl rfl | exact r_load_pt tok rfl rfl (lt_ rfl) t28 rfl (le_ rfl) rfl | exact r_load_ep tok rfl rfl (lt_ rfl) t28 rfl rfl (by first | rfl | simp) (by first | assumption | rfl) (le_ rfl) rfl)) ?_
  refine k_ (g_ rfl rfl (by exact r_call [] [] b11 rfl rfl (lt_ rfl) h11 (.cons rfl (by first | exact .refl | exact .agg (by first | exact .of_pure | ((first | refine .hs rfl (by first | rfl | simp) (by first | rfl | (simp; done) | (simp [Go.AM.take_map]; done) | exact Go.AM.take_map.symm) ?_ | refine .c .refl ?_ | refine .c (Cle.nl (es := 5)) ?_); (first | refine .hs rfl (by first | rfl | simp) (by first | rfl | (simp; done) | (simp [Go.AM.take_map]; done) | exact Go.AM.take_map.symm) ?_ | refine .c .refl ?_ | refine .c (Cle.nl (es := 6)) ?_); (first | refine .hs rfl (by first | rfl | simp) (by first | rfl | (simp; done) | (simp [Go.AM.take_map]; done) | exact Go.AM.take_map.symm) ?_ | refine .c .refl ?_ | refine .c (Cle.nl (es := 6)) ?_); (first | refine .hs rfl (by first | rfl | simp) (by first | rfl | (simp; done) | (simp [Go.AM.take_map]; done) | exact Go.AM.take_map.symm) ?_ | refine .c .refl ?_ | refine .c (Cle.nl (es := 33)) ?_); exact .nil)) | exact .pa (by first | exact .of_pure | ((first | refine .hs rfl (by first | rfl | simp) (by first | rfl | (simp; done) | (simp [Go.AM.take_map]; done) | exact Go.AM.take_map.symm) ?_ | refine .c .refl ?_ | refine .c (Cle.nl (es := 5)) ?_); (first | refine .hs rfl (by first | rfl | simp) (by first | rfl | (simp; done) | (simp [Go.AM.take_map]; done) | exact Go.AM.take_map.symm) ?_ | refine .c .refl ?_ | refine .c (Cle.nl (es := 6)) ?_); (first | refine .hs rfl (by first | rfl | simp) (by first | rfl | (simp; done) | (simp [Go.AM.take_map]; done) | exact Go.AM.take_map.symm) ?_ | refine .c .refl ?_ | refine .c (Cle.nl (es := 6)) ?_); (first | refine .hs rfl (by first | rfl | simp) (by first | rfl | (simp; done) | (simp [Go.AM.take_map]; done) | exact Go.AM.take_map.symm) ?_ | refine .c .refl ?_ | refine .c (Cle.nl (es := 33)) ?_); exact .nil))) (.nil)) (by repeat (first | exact trivial | refine ⟨rfl, ?_⟩)) (by repeat (first | exact trivial | refine ⟨.inr rfl, ?_⟩ | refine ⟨.inl (by decide), ?_⟩)) rfl)) ?_
  refine k_ (g_ rfl rfl (r_alloc 9 tok rfl rfl (lt_ rfl) t34 rfl)) ?_
  refine k_ (g_ rfl rfl (by first | exact r_store tok rfl rfl t34 rfl rfl rfl rfl rfl rfl | exact r_store_ep tok rfl rfl t34 rfl rfl rfl rfl rfl (by first | rfl | simp) (by first | assumption | rfl) rfl (le_ rfl))) ?_
  refine z_ rfl (by kernel_rfl) ?_
  refine awp_seq ?_
  refine awp_rg mixed ?_
  refine k_ (g_ rfl rfl (by first | exact r_load tok rfl rfl (lt_ rfl) t28 rfl rfl rfl rfl | exact r_load_pt tok rfl rfl (lt_ rfl) t28 rfl (le_ rfl) rfl | exact r_load_ep tok rfl rfl (lt_ rfl) t28 rfl rfl (by first | rfl | simp) (by first | assumption | rfl) (le_ rfl) rfl)) ?_
  refine k_ (g_ rfl rfl (by exact r_call [] [] b11 rfl rfl (lt_ rfl) h11' (.cons rfl (by first | exact .refl | exact .agg (by first | exact .of_pure | ((first | refine .hs rfl (by first | rfl | simp) (by first | rfl | (simp; done) | (simp [Go.AM.take_map]; done) | exact Go.AM.take_map.symm) ?_ | refine .c .refl ?_ | refine .c (Cle.nl (es := 5)) ?_); (first | refine .hs rfl (by first | rfl | simp) (by first | rfl | (simp; done) | (simp [Go.AM.take_map]; done) | exact Go.AM.take_map.symm) ?_ | refine .c .refl ?_ | refine .c (Cle.nl (es := 6)) ?_); (first | refine .hs rfl (by first | rfl | simp) (by first | rfl | (simp; done) | (simp [Go.AM.take_map]; done) | exact Go.AM.take_map.symm) ?_ | refine .c .refl ?_ | refine .c (Cle.nl (es := 6)) ?_); (first | refine .hs rfl (by first | rfl | simp) (by first | rfl | (simp; done) | (simp [Go.AM.take_map]; done) | exact Go.AM.take_map.symm) ?_ | refine .c .refl ?_ | refine .c (Cle.nl (es := 33)) ?_); exact .nil)) | exact .pa (by first | exact .of_pure | ((first | refine .hs rfl (by first | rfl | simp) (by first | rfl | (simp; done) | (simp [Go.AM.take_map]; done) | exact Go.AM.take_map.symm) ?_ | refine .c .refl ?_ | refine .c (Cle.nl (es := 5)) ?_); (first | refine .hs rfl (by first | rfl | simp) (by first | rfl | (simp; done) | (simp [Go.AM.take_map]; done) | exact Go.AM.take_map.symm) ?_ | refine .c .refl ?_ | refine .c (Cle.nl (es := 6)) ?_); (first | refine .hs rfl (by first | rfl | simp) (by first | rfl | (simp; done) | (simp [Go.AM.take_map]; done) | exact Go.AM.take_map.symm) ?_ | refine .c .refl ?_ | refine .c (Cle.nl (es := 6)) ?_); (first | refine .hs rfl (by first | rfl | simp) (by first | rfl | (simp; done) | (simp [Go.AM.take_map]; done) | exact Go.AM.take_map.symm) ?_ | refine .c .refl ?_ | refine .c (Cle.nl (es := 33)) ?_); exact .nil))) (.nil)) (by repeat (first | exact trivial | refine ⟨rfl, ?_⟩)) (by repeat (first | exact trivial | refine ⟨.inr rfl, ?_⟩ | refine ⟨.inl (by decide), ?_⟩)) rfl)) ?_
  refine k_ (g_ rfl rfl (r_alloc 10 tok rfl rfl (lt_ rfl) t34 rfl)) ?_
  refine k_ (g_ rfl rfl (by first | exact r_store tok rfl rfl t34 rfl rfl rfl rfl rfl rfl | exact r_store_ep tok rfl rfl t34 rfl rfl rfl rfl rfl (by first | rfl | simp) (by first | assumption | rfl) rfl (le_ rfl))) ?_
  refine z_ rfl (by kernel_rfl) ?_
  refine awp_seq ?_
  refine awp_rg mixed ?_
  refine k_ (g_ rfl rfl (by first | exact r_load tok rfl rfl (lt_ rfl) t34 rfl rfl rfl rfl | exact r_load_pt tok rfl rfl (lt_ rfl) t34 rfl (le_ rfl) rfl | exact r_load_ep tok rfl rfl (lt_ rfl) t34 rfl rfl (by first | rfl | simp) (by first | assumption | rfl) (le_ rfl) rfl)) ?_
  refine k_ (g_ rfl rfl (by first | exact r_load tok rfl rfl (lt_ rfl) t34 rfl rfl rfl rfl | exact r_load_pt tok rfl rfl (lt_ rfl) t34 rfl (le_ rfl) rfl | exact r_load_ep tok rfl rfl (lt_ rfl) t34 rfl rfl (by first | rfl | simp) (by first | assumption | rfl) (le_ rfl) rfl)) ?_
  refine k_ (g_ rfl rfl (r_steql tok eq34 rfl rfl (lt_ rfl) t34 rfl rfl rfl rfl)) ?_
  refine k_ (g_ rfl rfl (r_move rfl rfl (lt_ rfl) rfl)) ?_
  refine k_ (GStep.yes rfl rfl rfl rfl (by first | assumption | rfl | (simp; done) | (simp only [Bool.not]; assumption) | (simp; omega)) (by first | exact r_load tok rfl rfl (lt_ rfl) t34 rfl rfl rfl rfl | exact r_load_pt tok rfl rfl (lt_ rfl) t34 rfl (le_ rfl) rfl | exact r_load_ep tok rfl rfl (lt_ rfl) t34 rfl rfl (by first | rfl | simp) (by first | assumption | rfl) (le_ rfl) rfl)) ?_
  refine k_ (GStep.yes rfl rfl rfl rfl (by first | assumption | rfl | (simp; done) | (simp only [Bool.not]; assumption) | (simp; omega)) (by first | exact r_load tok rfl rfl (lt_ rfl) t34 rfl rfl rfl rfl | exact r_load_pt tok rfl rfl (lt_ rfl) t34 rfl (le_ rfl) rfl | exact r_load_ep tok rfl rfl (lt_ rfl) t34 rfl rfl (by first | rfl | simp) (by first | assumption | rfl) (le_ rfl) rfl)) ?_
  refine k_ (GStep.yes rfl rfl rfl rfl (by first | assumption | rfl | (simp; done) | (simp only [Bool.not]; assumption) | (simp; omega)) (by exact r_steql tok eq34 rfl rfl (lt_ rfl) t34 rfl rfl rfl rfl)) ?_
  refine k_ (g_ rfl rfl (by exact r_pick_t rfl rfl (lt_ rfl) rfl (by first | assumption | rfl | (simp; done)) rfl)) ?_
  refine k_ (g_ rfl rfl (r_move rfl rfl (lt_ rfl) rfl)) ?_
  refine k_ (GStep.yes rfl rfl rfl rfl (by first | assumption | rfl | (simp; done) | (simp only [Bool.not]; assumption) | (simp; omega)) (by exact r_move rfl rfl (lt_ rfl) rfl)) ?_
  refine k_ (GStep.yes rfl rfl rfl rfl (by first | assumption | rfl | (simp; done) | (simp only [Bool.not]; assumption) | (simp; omega)) (by exact r_peql tok rfl rfl (lt_ rfl) t31 rfl rfl (by first | rfl | assumption) rfl)) ?_
  refine k_ (GStep.yes rfl rfl rfl rfl (by first | assumption | rfl | (simp; done) | (simp only [Bool.not]; assumption) | (simp; omega)) (by first | exact r_field_vp tok rfl rfl (lt_ rfl) t34 rfl rfl t32 (nz_ rfl) rfl | exact r_field_pt tok rfl rfl (lt_ rfl) t34 rfl rfl t32 (nz_ rfl) rfl | exact r_field_ep tok rfl rfl (lt_ rfl) t34 rfl rfl t32 (nz_ rfl) rfl rfl (by first | rfl | simp))) ?_
  refine k_ (GStep.yes rfl rfl rfl rfl (by first | assumption | rfl | (simp; done) | (simp only [Bool.not]; assumption) | (simp; omega)) (by first | exact r_load tok rfl rfl (lt_ rfl) t32 rfl rfl rfl rfl | exact r_load_pt tok rfl rfl (lt_ rfl) t32 rfl (le_ rfl) rfl | exact r_load_ep tok rfl rfl (lt_ rfl) t32 rfl rfl (by first | rfl | simp) (by first | assumption | rfl) (le_ rfl) rfl)) ?_
  refine k_ (GStep.yes rfl rfl rfl rfl (by first | assumption | rfl | (simp; done) | (simp only [Bool.not]; assumption) | (simp; omega)) (by exact r_neq rfl rfl (lt_ rfl) rfl rfl)) ?_
  refine k_ (GStep.yes rfl rfl rfl rfl (by first | assumption | rfl | (simp; done) | (simp only [Bool.not]; assumption) | (simp; omega)) (by exact r_beql tok rfl rfl (lt_ rfl) t4 rfl rfl rfl)) ?_
  refine k_ (g_ rfl rfl (by exact r_pick_t rfl rfl (lt_ rfl) rfl (by first | assumption | rfl | (simp; done)) rfl)) ?_
  refine k_ (g_ rfl rfl (r_move rfl rfl (lt_ rfl) rfl)) ?_
  refine k_ (GStep.yes rfl rfl rfl rfl (by first | assumption | rfl | (simp; done) | (simp only [Bool.not]; assumption) | (simp; omega)) (by exact r_move rfl rfl (lt_ rfl) rfl)) ?_
  refine k_ (GStep.yes rfl rfl rfl rfl (by first | assumption | rfl | (simp; done) | (simp only [Bool.not]; assumption) | (simp; omega)) (by exact r_peql tok rfl rfl (lt_ rfl) t31 rfl rfl (by first | rfl | assumption) rfl)) ?_
  refine k_ (GStep.yes rfl rfl rfl rfl (by first | assumption | rfl | (simp; done) | (simp only [Bool.not]; assumption) | (simp; omega)) (by first | exact r_field_vp tok rfl rfl (lt_ rfl) t34 rfl rfl t32 (nz_ rfl) rfl | exact r_field_pt tok rfl rfl (lt_ rfl) t34 rfl rfl t32 (nz_ rfl) rfl | exact r_field_ep tok rfl rfl (lt_ rfl) t34 rfl rfl t32 (nz_ rfl) rfl rfl (by first | rfl | simp))) ?_
  refine k_ (GStep.yes rfl rfl rfl rfl (by first | assumption | rfl | (simp; done) | (simp only [Bool.not]; assumption) | (simp; omega)) (by first | exact r_load tok rfl rfl (lt_ rfl) t32 rfl rfl rfl rfl | exact r_load_pt tok rfl rfl (lt_ rfl) t32 rfl (le_ rfl) rfl | exact r_load_ep tok rfl rfl (lt_ rfl) t32 rfl rfl (by first | rfl | simp) (by first | assumption | rfl) (le_ rfl) rfl)) ?_
  refine k_ (GStep.yes rfl rfl rfl rfl (by first | assumption | rfl | (simp; done) | (simp only [Bool.not]; assumption) | (simp; omega)) (by exact r_neq rfl rfl (lt_ rfl) rfl rfl)) ?_
  refine k_ (GStep.yes rfl rfl rfl rfl (by first | assumption | rfl | (simp; done) | (simp only [Bool.not]; assumption) | (simp; omega)) (by exact r_beql tok rfl rfl (lt_ rfl) t4 rfl rfl rfl)) ?_
  refine k_ (g_ rfl rfl (by exact r_pick_t rfl rfl (lt_ rfl) rfl (by first | assumption | rfl | (simp; done)) rfl)) ?_
  refine k_ (g_ rfl rfl (r_move rfl rfl (lt_ rfl) rfl)) ?_
  refine k_ (GStep.yes rfl rfl rfl rfl (by first | assumption | rfl | (simp; done) | (simp only [Bool.not]; assumption) | (simp; omega)) (by exact r_call [] [] b12 rfl rfl (lt_ rfl) c12 (.nil) (by repeat (first | exact trivial | refine ⟨rfl, ?_⟩)) (by repeat (first | exact trivial | refine ⟨.inr rfl, ?_⟩ | refine ⟨.inl (by decide), ?_⟩)) rfl)) ?_
  refine k_ (g_ rfl rfl (by exact r_pick_t rfl rfl (lt_ rfl) rfl (by first | assumption | rfl | (simp; done)) rfl)) ?_
  refine k_ (g_ rfl rfl (r_assign rfl rfl (lt_ rfl) rfl)) ?_
  refine z_ rfl (by kernel_rfl) ?_
  refine awp_ret ?_
  exact ⟨.inr rfl, ⟨_, _, .tmp rfl .nil, .cons .refl .nil, rfl⟩, trivial, rfl⟩
end Go.Proofs.Ythfeeaifddppoaa
