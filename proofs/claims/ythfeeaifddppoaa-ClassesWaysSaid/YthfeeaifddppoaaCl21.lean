/-
  THE LAWS' OWN EXAMPLE (lives).
-/
import Derived.Test.YthfeeaifddppoaaCl20
namespace Go.Proofs.Ythfeeaifddppoaa
open Go Go.AM
set_option maxRecDepth 20000
set_option maxHeartbeats 1000000

theorem b12 : bodied Try.prog 12 := ⟨Try.f12, Try.func12, by decide, rfl⟩

def exP : Prog := ⟨.nl, [⟨[65], 1, [], .nl, [[66]], []⟩, ⟨[66], 2, [], .nl, [[67]], []⟩, ⟨[67], 3, [], .nl, [], []⟩], [], .nl⟩
theorem exP_ps : PS exP := by
  refine ⟨by simp [Small, exP], by simp [Small, exP], ?_, ?_⟩ <;>
    · intro c hc
      simp only [exP, List.mem_cons, List.not_mem_nil, or_false] at hc
      rcases hc with rfl | rfl | rfl <;> simp [Small]
theorem exP_new : newR exP = .tup [.one (.c (.pt (encEnv (envOf exP)))), .pa (encAt ⟨0, 0⟩)] := by
  have : (newAt exP).no = 0 := by decide
  unfold newR
  rw [if_neg (by simpa using this)]
theorem exP_path : envPath exP [65] [67] = some [0, 0] := by decide
theorem exP_above : above exP [65] = [[65], [66], [67]] := by decide

theorem c12 : ImpC Try.prog 12 [] [] (B true) [] := by
  have h10 := c10 exP exP_ps
  rw [exP_new] at h10
  have h15 := c15 exP (envOf exP) [65] [67] (envOf_ok exP) exP_ps
  rw [exP_path] at h15
  have h18 := c18 exP (envOf exP) [65] (envOf_ok exP) exP_ps
  rw [exP_above] at h18
  have h19 := c19 exP (envOf exP) (envOf_ok exP) exP_ps
  have h22 := c22 [[65], [66], [67]] [[65], [66], [67]] (by simp [Fits]) (by simp [Fits])
  refine impC (n := 61) tok Try.func12 rfl rfl rfl ?_
  refine awp_seq ?_
  refine awp_rg mixed ?_
  refine k_ (g_ rfl rfl (r_assign rfl rfl (lt_ rfl) rfl)) ?_
  refine z_ rfl (by kernel_rfl) ?_
  refine awp_seq ?_
  refine awp_rg mixed ?_
  refine k_ (g_ rfl rfl (r_sliceC 7 tok rfl rfl (lt_ rfl) t40 rfl t9 (.cons (v := Go.AM.T [66]) (cs := [.str [66]]) rfl rfl (.c .refl .nil) rfl (.nil)) rfl rfl rfl rfl)) ?_
  refine k_ (g_ rfl rfl (r_build tok rfl rfl (lt_ rfl) t66 rfl p66 rfl rfl)) ?_
  refine k_ (g_ rfl rfl (r_sliceC 9 tok rfl rfl (lt_ rfl) t40 rfl t9 (.cons (v := Go.AM.T [67]) (cs := [.str [67]]) rfl rfl (.c .refl .nil) rfl (.nil)) rfl rfl rfl rfl)) ?_
  refine k_ (g_ rfl rfl (r_build tok rfl rfl (lt_ rfl) t66 rfl p66 rfl rfl)) ?_
  refine k_ (g_ rfl rfl (r_build tok rfl rfl (lt_ rfl) t66 rfl p66 rfl rfl)) ?_
  refine k_ (g_ rfl rfl (r_sliceC 12 tok rfl rfl (lt_ rfl) t24 rfl t66 (.cons (cs := encCls ⟨[65], 1, [], .nl, [[66]], []⟩) rfl rfl (.c .refl (.c .refl (.c .refl (.c .refl (.c .refl (.c .nl .nil)))))) rfl (.cons (cs := encCls ⟨[66], 2, [], .nl, [[67]], []⟩) rfl rfl (.c .refl (.c .refl (.c .refl (.c .refl (.c .refl (.c .nl .nil)))))) rfl (.cons (cs := encCls ⟨[67], 3, [], .nl, [], []⟩) rfl rfl (.c .refl (.c .refl (.c .refl (.c .refl (.c .nl (.c .nl .nil)))))) rfl (.nil)))) rfl rfl rfl rfl)) ?_
  refine k_ (g_ rfl rfl (r_build tok rfl rfl (lt_ rfl) t28 rfl p28 rfl rfl)) ?_
  refine k_ (g_ rfl rfl (r_alloc 1 tok rfl rfl (lt_ rfl) t28 rfl)) ?_
  refine k_ (g_ rfl rfl (by first | exact r_store tok rfl rfl t28 rfl rfl rfl rfl rfl rfl | exact r_store_ep tok rfl rfl t28 rfl rfl rfl rfl rfl (by first | rfl | simp) (by first | assumption | rfl) rfl (le_ rfl))) ?_
  refine z_ rfl (by kernel_rfl) ?_
  refine awp_seq ?_
  refine awp_rg mixed ?_
  refine k_ (g_ rfl rfl (by first | exact r_load tok rfl rfl (lt_ rfl) t28 rfl rfl rfl rfl | exact r_load_pt tok rfl rfl (lt_ rfl) t28 rfl (le_ rfl) rfl | exact r_load_ep tok rfl rfl (lt_ rfl) t28 rfl rfl (by first | rfl | simp) (by first | assumption | rfl) (le_ rfl) rfl)) ?_
  refine k_ (g_ rfl rfl (by exact r_call [] [] b10 rfl rfl (lt_ rfl) h10 (.cons rfl (.pa (.c .refl (.c .refl (.c .nl (.c .refl .nil))))) (.nil)) (by repeat (first | exact trivial | refine ⟨rfl, ?_⟩)) (by repeat (first | exact trivial | refine ⟨.inr rfl, ?_⟩ | refine ⟨.inl (by decide), ?_⟩)) rfl)) ?_
  refine k_ (g_ rfl rfl (r_move rfl rfl (lt_ rfl) rfl)) ?_
  refine k_ (g_ rfl rfl (r_extract rfl rfl (lt_ rfl) rfl rfl)) ?_
  refine k_ (g_ rfl rfl (r_extract rfl rfl (lt_ rfl) rfl rfl)) ?_
  refine k_ (g_ rfl rfl (r_alloc 3 tok rfl rfl (lt_ rfl) t34 rfl)) ?_
  refine k_ (g_ rfl rfl (r_assign rfl rfl (lt_ rfl) rfl)) ?_
  refine k_ (g_ rfl rfl (by first | exact r_store tok rfl rfl t34 rfl rfl rfl rfl rfl rfl | exact r_store_ep tok rfl rfl t34 rfl rfl rfl rfl rfl (by first | rfl | simp) (by first | assumption | rfl) rfl (le_ rfl))) ?_
  refine z_ rfl (by kernel_rfl) ?_
  refine awp_seq ?_
  refine awp_seq ?_
  refine awp_rg mixed ?_
  refine k_ (g_ rfl rfl (r_move rfl rfl (lt_ rfl) rfl)) ?_
  refine k_ (g_ rfl rfl (by exact r_peql tok rfl rfl (lt_ rfl) t31 rfl rfl (by first | rfl | assumption) rfl)) ?_
  refine k_ (g_ rfl rfl (r_move rfl rfl (lt_ rfl) rfl)) ?_
  refine k_ (GStep.yes rfl rfl rfl rfl (by first | assumption | rfl | (simp; done) | (simp only [Bool.not]; assumption) | (simp; omega)) (by first | exact r_field_vp tok rfl rfl (lt_ rfl) t34 rfl rfl t32 (nz_ rfl) rfl | exact r_field_pt tok rfl rfl (lt_ rfl) t34 rfl rfl t32 (nz_ rfl) rfl | exact r_field_ep tok rfl rfl (lt_ rfl) t34 rfl rfl t32 (nz_ rfl) rfl rfl (by first | rfl | simp))) ?_
  refine k_ (GStep.yes rfl rfl rfl rfl (by first | assumption | rfl | (simp; done) | (simp only [Bool.not]; assumption) | (simp; omega)) (by first | exact r_load tok rfl rfl (lt_ rfl) t32 rfl rfl rfl rfl | exact r_load_pt tok rfl rfl (lt_ rfl) t32 rfl (le_ rfl) rfl | exact r_load_ep tok rfl rfl (lt_ rfl) t32 rfl rfl (by first | rfl | simp) (by first | assumption | rfl) (le_ rfl) rfl)) ?_
  refine k_ (GStep.yes rfl rfl rfl rfl (by first | assumption | rfl | (simp; done) | (simp only [Bool.not]; assumption) | (simp; omega)) (by exact r_neq rfl rfl (lt_ rfl) rfl rfl)) ?_
  refine k_ (g_ rfl rfl (by exact r_pick_f rfl rfl (lt_ rfl) rfl (by first | assumption | rfl | (simp; done)) rfl)) ?_
  refine z_ rfl (by kernel_rfl) ?_
  refine awp_cond rfl (fun hb => by cases hb) (fun hb => ?_)
  refine awp_skip ?_
  refine awp_seq ?_
  refine awp_rg mixed ?_
  refine k_ (g_ rfl rfl (r_move rfl rfl (lt_ rfl) rfl)) ?_
  refine k_ (g_ rfl rfl (by exact r_call [] [] b15 rfl rfl (lt_ rfl) h15 (.cons rfl .refl (.cons rfl .refl (.cons rfl .refl (.nil)))) (by repeat (first | exact trivial | refine ⟨rfl, ?_⟩)) (by repeat (first | exact trivial | refine ⟨.inr rfl, ?_⟩ | refine ⟨.inl (by decide), ?_⟩)) rfl)) ?_
  refine k_ (g_ rfl rfl (r_move rfl rfl (lt_ rfl) rfl)) ?_
  refine k_ (g_ rfl rfl (r_extract rfl rfl (lt_ rfl) rfl rfl)) ?_
  refine k_ (g_ rfl rfl (r_extract rfl rfl (lt_ rfl) rfl rfl)) ?_
  refine k_ (g_ rfl rfl (r_assign rfl rfl (lt_ rfl) rfl)) ?_
  refine k_ (g_ rfl rfl (r_assign rfl rfl (lt_ rfl) rfl)) ?_
  refine z_ rfl (by kernel_rfl) ?_
  refine awp_seq ?_
  refine awp_rg mixed ?_
  refine k_ (g_ rfl rfl (r_move rfl rfl (lt_ rfl) rfl)) ?_
  refine k_ (g_ rfl rfl (by exact r_call [] [] b18 rfl rfl (lt_ rfl) h18 (.cons rfl .refl (.cons rfl .refl (.nil))) (by repeat (first | exact trivial | refine ⟨rfl, ?_⟩)) (by repeat (first | exact trivial | refine ⟨.inr rfl, ?_⟩ | refine ⟨.inl (by decide), ?_⟩)) rfl)) ?_
  refine k_ (g_ rfl rfl (r_assign rfl rfl (lt_ rfl) rfl)) ?_
  refine z_ rfl (by kernel_rfl) ?_
  have hg1 : (some [0, 0] : Option (List Int)).isSome = true := rfl
  refine awp_seq ?_
  refine awp_rg mixed ?_
  refine k_ (g_ rfl rfl (r_move rfl rfl (lt_ rfl) rfl)) ?_
  refine k_ (g_ rfl rfl (r_move rfl rfl (lt_ rfl) rfl)) ?_
  refine k_ (GStep.yes rfl rfl rfl rfl (by first | assumption | rfl | (simp; done) | (simp only [Bool.not]; assumption) | (simp; omega)) (by exact r_move rfl rfl (lt_ rfl) rfl)) ?_
  refine k_ (GStep.yes rfl rfl rfl rfl (by first | assumption | rfl | (simp; done) | (simp only [Bool.not]; assumption) | (simp; omega)) (by first | exact r_len_sl tok rfl rfl (lt_ rfl) t22 rfl rfl | exact r_len_hs tok rfl rfl (lt_ rfl) t22 rfl rfl rfl (by first | rfl | simp) | exact r_len_nl tok rfl rfl (lt_ rfl) t22 rfl rfl | exact r_len_str tok rfl rfl (lt_ rfl) t22 rfl rfl)) ?_
  refine k_ (GStep.yes rfl rfl rfl rfl (by first | assumption | rfl | (simp; done) | (simp only [Bool.not]; assumption) | (simp; omega)) (by exact r_eql rfl rfl (lt_ rfl) rfl rfl)) ?_
  refine k_ (g_ rfl rfl (by exact r_pick_t rfl rfl (lt_ rfl) rfl (by first | assumption | rfl | (simp; done)) rfl)) ?_
  refine k_ (g_ rfl rfl (r_move rfl rfl (lt_ rfl) rfl)) ?_
  refine k_ (GStep.yes rfl rfl rfl rfl (by first | assumption | rfl | (simp; done) | (simp only [Bool.not]; assumption) | (simp; omega)) (by exact r_move rfl rfl (lt_ rfl) rfl)) ?_
  refine k_ (GStep.yes rfl rfl rfl rfl (by first | assumption | rfl | (simp; done) | (simp only [Bool.not]; assumption) | (simp; omega)) (by first | exact r_index tok rfl rfl (lt_ rfl) t22 rfl t3 rfl rfl rfl rfl (by first | assumption | rfl) | exact r_index_hs tok rfl rfl (lt_ rfl) t22 rfl t3 rfl rfl rfl (by first | rfl | simp) rfl rfl (by first | decide | omega | (simp; done) | (simp; omega)))) ?_
  refine k_ (GStep.yes rfl rfl rfl rfl (by first | assumption | rfl | (simp; done) | (simp only [Bool.not]; assumption) | (simp; omega)) (by first | exact r_load tok rfl rfl (lt_ rfl) t3 rfl rfl rfl rfl | exact r_load_pt tok rfl rfl (lt_ rfl) t3 rfl (le_ rfl) rfl | exact r_load_ep tok rfl rfl (lt_ rfl) t3 rfl rfl (by first | rfl | simp) (by first | assumption | rfl) (le_ rfl) rfl)) ?_
  refine k_ (GStep.yes rfl rfl rfl rfl (by first | assumption | rfl | (simp; done) | (simp only [Bool.not]; assumption) | (simp; omega)) (by exact r_eql rfl rfl (lt_ rfl) rfl rfl)) ?_
  refine k_ (g_ rfl rfl (by exact r_pick_t rfl rfl (lt_ rfl) rfl (by first | assumption | rfl | (simp; done)) rfl)) ?_
  refine k_ (g_ rfl rfl (r_move rfl rfl (lt_ rfl) rfl)) ?_
  refine k_ (GStep.yes rfl rfl rfl rfl (by first | assumption | rfl | (simp; done) | (simp only [Bool.not]; assumption) | (simp; omega)) (by exact r_move rfl rfl (lt_ rfl) rfl)) ?_
  refine k_ (GStep.yes rfl rfl rfl rfl (by first | assumption | rfl | (simp; done) | (simp only [Bool.not]; assumption) | (simp; omega)) (by first | exact r_index tok rfl rfl (lt_ rfl) t22 rfl t3 rfl rfl rfl rfl (by first | assumption | rfl) | exact r_index_hs tok rfl rfl (lt_ rfl) t22 rfl t3 rfl rfl rfl (by first | rfl | simp) rfl rfl (by first | decide | omega | (simp; done) | (simp; omega)))) ?_
  refine k_ (GStep.yes rfl rfl rfl rfl (by first | assumption | rfl | (simp; done) | (simp only [Bool.not]; assumption) | (simp; omega)) (by first | exact r_load tok rfl rfl (lt_ rfl) t3 rfl rfl rfl rfl | exact r_load_pt tok rfl rfl (lt_ rfl) t3 rfl (le_ rfl) rfl | exact r_load_ep tok rfl rfl (lt_ rfl) t3 rfl rfl (by first | rfl | simp) (by first | assumption | rfl) (le_ rfl) rfl)) ?_
  refine k_ (GStep.yes rfl rfl rfl rfl (by first | assumption | rfl | (simp; done) | (simp only [Bool.not]; assumption) | (simp; omega)) (by exact r_eql rfl rfl (lt_ rfl) rfl rfl)) ?_
  refine k_ (g_ rfl rfl (by exact r_pick_t rfl rfl (lt_ rfl) rfl (by first | assumption | rfl | (simp; done)) rfl)) ?_
  refine k_ (g_ rfl rfl (r_move rfl rfl (lt_ rfl) rfl)) ?_
  refine k_ (GStep.yes rfl rfl rfl rfl (by first | assumption | rfl | (simp; done) | (simp only [Bool.not]; assumption) | (simp; omega)) (by exact r_move rfl rfl (lt_ rfl) rfl)) ?_
  refine k_ (GStep.yes rfl rfl rfl rfl (by first | assumption | rfl | (simp; done) | (simp only [Bool.not]; assumption) | (simp; omega)) (by exact r_sliceC 53 tok rfl rfl (lt_ rfl) t40 rfl t9 (.cons (v := Go.AM.T [65]) (cs := [.str [65]]) rfl rfl (.c .refl .nil) rfl (.cons (v := Go.AM.T [66]) (cs := [.str [66]]) rfl rfl (.c .refl .nil) rfl (.cons (v := Go.AM.T [67]) (cs := [.str [67]]) rfl rfl (.c .refl .nil) rfl (.nil)))) rfl rfl rfl rfl)) ?_
  refine k_ (GStep.yes rfl rfl rfl rfl (by first | assumption | rfl | (simp; done) | (simp only [Bool.not]; assumption) | (simp; omega)) (by exact r_call [] [] b22 rfl rfl (lt_ rfl) h22 (.cons rfl (by first | exact .refl | exact .one (.hs rfl (by first | rfl | simp) (by first | rfl | (simp; done) | (simp [Go.AM.take_map]; done) | exact Go.AM.take_map.symm) .nil) | exact .one (.c .nl .nil) | exact .one (.c .sn .nil)) (.cons rfl (by first | exact .refl | exact .one (.hs rfl (by first | rfl | simp) (by first | rfl | (simp; done) | (simp [Go.AM.take_map]; done) | exact Go.AM.take_map.symm) .nil) | exact .one (.c .nl .nil) | exact .one (.c .sn .nil)) (.nil))) (by repeat (first | exact trivial | refine ⟨rfl, ?_⟩)) (by repeat (first | exact trivial | refine ⟨.inr rfl, ?_⟩ | refine ⟨.inl (by decide), ?_⟩)) rfl)) ?_
  refine k_ (g_ rfl rfl (by exact r_pick_t rfl rfl (lt_ rfl) rfl (by first | assumption | rfl | (simp; done)) rfl)) ?_
  refine k_ (g_ rfl rfl (r_move rfl rfl (lt_ rfl) rfl)) ?_
  refine k_ (GStep.yes rfl rfl rfl rfl (by first | assumption | rfl | (simp; done) | (simp only [Bool.not]; assumption) | (simp; omega)) (by exact r_move rfl rfl (lt_ rfl) rfl)) ?_
  refine k_ (GStep.yes rfl rfl rfl rfl (by first | assumption | rfl | (simp; done) | (simp only [Bool.not]; assumption) | (simp; omega)) (by exact r_call [] [] b19 rfl rfl (lt_ rfl) h19 (.cons rfl .refl (.nil)) (by repeat (first | exact trivial | refine ⟨rfl, ?_⟩)) (by repeat (first | exact trivial | refine ⟨.inr rfl, ?_⟩ | refine ⟨.inl (by decide), ?_⟩)) rfl)) ?_
  refine k_ (GStep.yes rfl rfl rfl rfl (by first | assumption | rfl | (simp; done) | (simp only [Bool.not]; assumption) | (simp; omega)) (by exact r_eql rfl rfl (lt_ rfl) rfl rfl)) ?_
  refine k_ (g_ rfl rfl (by exact r_pick_t rfl rfl (lt_ rfl) rfl (by first | assumption | rfl | (simp; done)) rfl)) ?_
  refine k_ (g_ rfl rfl (r_assign rfl rfl (lt_ rfl) rfl)) ?_
  refine z_ rfl (by kernel_rfl) ?_
  refine awp_ret ?_
  exact ⟨.inr rfl, ⟨_, _, .tmp rfl .nil, .cons .refl .nil, rfl⟩, trivial, rfl⟩
end Go.Proofs.Ythfeeaifddppoaa
