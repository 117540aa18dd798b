/-
  THE PROGRAM's Path.
-/
import Derived.Test.YthfeeaifddppoaaCl16
namespace Go.Proofs.Ythfeeaifddppoaa
open Go Go.AM
set_option maxRecDepth 20000
set_option maxHeartbeats 1000000

theorem b15 : bodied Try.prog 15 := ⟨Try.f15, Try.func15, by decide, rfl⟩
theorem b18 : bodied Try.prog 18 := ⟨Try.f18, Try.func18, by decide, rfl⟩
theorem b43 : bodied Try.prog 43 := ⟨Try.f43, Try.func43, by decide, rfl⟩

def envPath (p : Prog) (f t : Str) : Option (List Int) := if f = t ∨ (cls p f).isSome = false then (if (cls p f).isSome then some [] else none) else climbR p f t

theorem c15 (p : Prog) (e : Env) (f t : Str) (he : EnvOk p e) (hp : PS p) : ImpC Try.prog 15 [.one (.c (.pt (encEnv e))), Go.AM.T f, Go.AM.T t] [] (.tup [.one (.c (.sl 1 (((envPath p f t).getD []).map encI))), B (envPath p f t).isSome]) [] := by
  have hcs := he.cstr
  have hf := he.cls f
  refine impC (n := 38) tok Try.func15 rfl rfl rfl ?_
  refine awp_seq ?_
  refine awp_rg mixed ?_
  refine k_ (g_ rfl rfl (r_box 5 rfl rfl (lt_ rfl) rfl rfl rfl)) ?_
  refine k_ (g_ rfl rfl (r_assign rfl rfl (lt_ rfl) rfl)) ?_
  refine k_ (g_ rfl rfl (r_assign rfl rfl (lt_ rfl) rfl)) ?_
  refine z_ rfl (by kernel_rfl) ?_
  refine awp_seq ?_
  refine AWp.cut (mk [(0, .one (.c (.pt (encEnv e)))), (1, Go.AM.T f), (5, .one (.vp 5 0)), (9, B (cls p f).isSome)] [(5, .var 9 [.c (.str t)])]) ?_ ?_
  · cases hc : cls p f with
    | none =>
      rw [hc] at hf
      have hf' : mfind f e.cm = none := hf
      refine awp_rg mixed ?_
      refine k_ (g_ rfl rfl (r_move rfl rfl (lt_ rfl) rfl)) ?_
      refine k_ (g_ rfl rfl (r_nilCheck rfl rfl (lt_ rfl) rfl rfl)) ?_
      refine k_ (g_ rfl rfl (by first | exact r_field_vp tok rfl rfl (lt_ rfl) t86 rfl rfl t82 (nz_ rfl) rfl | exact r_field_pt tok rfl rfl (lt_ rfl) t86 rfl rfl t82 (nz_ rfl) rfl | exact r_field_ep tok rfl rfl (lt_ rfl) t86 rfl rfl t82 (nz_ rfl) rfl rfl (by first | rfl | simp))) ?_
      refine k_ (g_ rfl rfl (by first | exact r_load tok rfl rfl (lt_ rfl) t82 rfl rfl rfl rfl | exact r_load_pt tok rfl rfl (lt_ rfl) t82 rfl (le_ rfl) rfl | exact r_load_ep tok rfl rfl (lt_ rfl) t82 rfl rfl (by first | rfl | simp) (by first | assumption | rfl) (le_ rfl) rfl)) ?_
      refine k_ (g_ rfl rfl (r_move rfl rfl (lt_ rfl) rfl)) ?_
      refine k_ (g_ rfl rfl (by exact r_lookup tok rfl rfl (lt_ rfl) t82 rfl t9 rfl t66 rfl rfl (by first | exact .mr rfl | exact .mp | exact .nil) (by first | assumption | exact trivial) rfl hf')) ?_
      refine k_ (g_ rfl rfl (r_move rfl rfl (lt_ rfl) rfl)) ?_
      refine k_ (g_ rfl rfl (r_extract rfl rfl (lt_ rfl) rfl rfl)) ?_
      refine k_ (g_ rfl rfl (r_extract rfl rfl (lt_ rfl) rfl rfl)) ?_
      refine k_ (g_ rfl rfl (r_alloc 8 tok rfl rfl (lt_ rfl) t66 rfl)) ?_
      refine k_ (g_ rfl rfl (by first | exact r_store tok rfl rfl t66 rfl rfl rfl rfl rfl rfl | exact r_store_ep tok rfl rfl t66 rfl rfl rfl rfl rfl (by first | rfl | simp) (by first | assumption | rfl) rfl (le_ rfl))) ?_
      refine k_ (g_ rfl rfl (r_assign rfl rfl (lt_ rfl) rfl)) ?_
      refine z_ rfl (by kernel_rfl) ?_
      exact .list (fun i => i) ⟨rfl, rfl, rfl, rfl, trivial⟩ ⟨⟨_, rfl, .var rfl⟩, trivial⟩ rfl
    | some c =>
      rw [hc] at hf
      have hf' : mfind f e.cm = some (encCls c) := hf
      refine awp_rg mixed ?_
      refine k_ (g_ rfl rfl (r_move rfl rfl (lt_ rfl) rfl)) ?_
      refine k_ (g_ rfl rfl (r_nilCheck rfl rfl (lt_ rfl) rfl rfl)) ?_
      refine k_ (g_ rfl rfl (by first | exact r_field_vp tok rfl rfl (lt_ rfl) t86 rfl rfl t82 (nz_ rfl) rfl | exact r_field_pt tok rfl rfl (lt_ rfl) t86 rfl rfl t82 (nz_ rfl) rfl | exact r_field_ep tok rfl rfl (lt_ rfl) t86 rfl rfl t82 (nz_ rfl) rfl rfl (by first | rfl | simp))) ?_
      refine k_ (g_ rfl rfl (by first | exact r_load tok rfl rfl (lt_ rfl) t82 rfl rfl rfl rfl | exact r_load_pt tok rfl rfl (lt_ rfl) t82 rfl (le_ rfl) rfl | exact r_load_ep tok rfl rfl (lt_ rfl) t82 rfl rfl (by first | rfl | simp) (by first | assumption | rfl) (le_ rfl) rfl)) ?_
      refine k_ (g_ rfl rfl (r_move rfl rfl (lt_ rfl) rfl)) ?_
      refine k_ (g_ rfl rfl (by exact r_lookup tok rfl rfl (lt_ rfl) t82 rfl t9 rfl t66 rfl rfl (by first | exact .mr rfl | exact .mp | exact .nil) (by first | assumption | exact trivial) rfl hf')) ?_
      refine k_ (g_ rfl rfl (r_move rfl rfl (lt_ rfl) rfl)) ?_
      refine k_ (g_ rfl rfl (r_extract rfl rfl (lt_ rfl) rfl rfl)) ?_
      refine k_ (g_ rfl rfl (r_extract rfl rfl (lt_ rfl) rfl rfl)) ?_
      refine k_ (g_ rfl rfl (r_alloc 8 tok rfl rfl (lt_ rfl) t66 rfl)) ?_
      refine k_ (g_ rfl rfl (by first | exact r_store tok rfl rfl t66 rfl rfl rfl rfl rfl rfl | exact r_store_ep tok rfl rfl t66 rfl rfl rfl rfl rfl (by first | rfl | simp) (by first | assumption | rfl) rfl (le_ rfl))) ?_
      refine k_ (g_ rfl rfl (r_assign rfl rfl (lt_ rfl) rfl)) ?_
      refine z_ rfl (by kernel_rfl) ?_
      exact .list (fun i => i) ⟨rfl, rfl, rfl, rfl, trivial⟩ ⟨⟨_, rfl, .var rfl⟩, trivial⟩ rfl
  refine awp_seq ?_
  refine awp_seq ?_
  by_cases h1 : f = t
  · have h1' : decide (f = t) = true := by simp [h1]
    refine awp_rg mixed ?_
    refine k_ (g_ rfl rfl (r_move rfl rfl (lt_ rfl) rfl)) ?_
    refine k_ (g_ rfl rfl (by first | exact r_load tok rfl rfl (lt_ rfl) t9 rfl rfl rfl rfl | exact r_load_pt tok rfl rfl (lt_ rfl) t9 rfl (le_ rfl) rfl | exact r_load_ep tok rfl rfl (lt_ rfl) t9 rfl rfl (by first | rfl | simp) (by first | assumption | rfl) (le_ rfl) rfl)) ?_
    refine k_ (g_ rfl rfl (r_seql rfl rfl (lt_ rfl) rfl rfl)) ?_
    refine k_ (g_ rfl rfl (r_move rfl rfl (lt_ rfl) rfl)) ?_
    refine k_ (by first | exact GStep.no rfl rfl rfl (lt_ rfl) rfl rfl (by first | assumption | rfl | (simp; done) | (simp only [Bool.not]; assumption) | (simp; omega)) rfl | exact GStep.un rfl rfl rfl (lt_ rfl) rfl rfl) ?_
    refine k_ (by first | exact GStep.no rfl rfl rfl (lt_ rfl) rfl rfl (by first | assumption | rfl | (simp; done) | (simp only [Bool.not]; assumption) | (simp; omega)) rfl | exact GStep.un rfl rfl rfl (lt_ rfl) rfl rfl) ?_
    refine k_ (g_ rfl rfl (by exact r_pick_t rfl rfl (lt_ rfl) rfl (by first | assumption | rfl | (simp; done)) rfl)) ?_
    refine z_ rfl (by kernel_rfl) ?_
    refine awp_cond rfl (fun hb => ?_) (fun hb => by cases hb)
    refine awp_seq ?_
    refine awp_rg mixed ?_
    refine k_ (g_ rfl rfl (r_move rfl rfl (lt_ rfl) rfl)) ?_
    refine k_ (g_ rfl rfl (r_assign rfl rfl (lt_ rfl) rfl)) ?_
    refine k_ (g_ rfl rfl (r_assign rfl rfl (lt_ rfl) rfl)) ?_
    refine z_ rfl (by kernel_rfl) ?_
    refine awp_ret ?_
    rw [show (envPath p f t).getD [] = [] by unfold envPath; rw [if_pos (.inl h1)]; split <;> rfl, show (envPath p f t).isSome = (cls p f).isSome by unfold envPath; rw [if_pos (.inl h1)]; split <;> simp_all]
    exact ⟨.inr rfl, ⟨_, _, .tmp rfl (.tmp rfl .nil), .cons (.one (.c .nl .nil)) (.cons .refl .nil), rfl⟩, trivial, rfl⟩
  · have h1' : decide (f = t) = false := by simp [h1]
    refine awp_rg mixed ?_
    refine k_ (g_ rfl rfl (r_move rfl rfl (lt_ rfl) rfl)) ?_
    refine k_ (g_ rfl rfl (by first | exact r_load tok rfl rfl (lt_ rfl) t9 rfl rfl rfl rfl | exact r_load_pt tok rfl rfl (lt_ rfl) t9 rfl (le_ rfl) rfl | exact r_load_ep tok rfl rfl (lt_ rfl) t9 rfl rfl (by first | rfl | simp) (by first | assumption | rfl) (le_ rfl) rfl)) ?_
    refine k_ (g_ rfl rfl (r_seql rfl rfl (lt_ rfl) rfl rfl)) ?_
    refine k_ (g_ rfl rfl (r_move rfl rfl (lt_ rfl) rfl)) ?_
    refine k_ (GStep.yes rfl rfl rfl rfl (by first | assumption | rfl | (simp; done) | (simp only [Bool.not]; assumption) | (simp; omega)) (by exact r_move rfl rfl (lt_ rfl) rfl)) ?_
    refine k_ (GStep.yes rfl rfl rfl rfl (by first | assumption | rfl | (simp; done) | (simp only [Bool.not]; assumption) | (simp; omega)) (by exact r_not rfl rfl (lt_ rfl) rfl)) ?_
    refine k_ (g_ rfl rfl (by exact r_pick_f rfl rfl (lt_ rfl) rfl (by first | assumption | rfl | (simp; done)) rfl)) ?_
    refine z_ rfl (by kernel_rfl) ?_
    refine awp_cond rfl (fun hb => ?_) (fun hb => ?_)
    · have h2 : (cls p f).isSome = false := by simpa using hb
      refine awp_seq ?_
      refine awp_rg mixed ?_
      refine k_ (g_ rfl rfl (r_move rfl rfl (lt_ rfl) rfl)) ?_
      refine k_ (g_ rfl rfl (r_assign rfl rfl (lt_ rfl) rfl)) ?_
      refine k_ (g_ rfl rfl (r_assign rfl rfl (lt_ rfl) rfl)) ?_
      refine z_ rfl (by kernel_rfl) ?_
      refine awp_ret ?_
      rw [show envPath p f t = none by unfold envPath; rw [if_pos (.inr h2), h2]; rfl, h2]
      exact ⟨.inr rfl, ⟨_, _, .tmp rfl (.tmp rfl .nil), .cons (.one (.c .nl .nil)) (.cons .refl .nil), rfl⟩, trivial, rfl⟩
    · have h2 : (cls p f).isSome = true := by simpa using hb
      refine awp_skip ?_
      refine awp_seq ?_
      refine awp_rg mixed ?_
      refine k_ (g_ rfl rfl (r_alloc 10 tok rfl rfl (lt_ rfl) t22 rfl)) ?_
      refine z_ rfl (by kernel_rfl) ?_
      refine awp_seq ?_
      refine awp_rg mixed ?_
      refine k_ (g_ rfl rfl (r_alloc 11 tok rfl rfl (lt_ rfl) t4 rfl)) ?_
      refine k_ (g_ rfl rfl (by first | exact r_store tok rfl rfl t4 rfl rfl rfl rfl rfl rfl | exact r_store_ep tok rfl rfl t4 rfl rfl rfl rfl rfl (by first | rfl | simp) (by first | assumption | rfl) rfl (le_ rfl))) ?_
      refine z_ rfl (by kernel_rfl) ?_
      refine awp_seq ?_
      refine awp_rg mixed ?_
      refine k_ (g_ rfl rfl (r_move rfl rfl (lt_ rfl) rfl)) ?_
      refine k_ (g_ rfl rfl (r_makeMethod rfl rfl (lt_ rfl) rfl)) ?_
      refine k_ (g_ rfl rfl (r_assign rfl rfl (lt_ rfl) rfl)) ?_
      refine z_ rfl (by kernel_rfl) ?_
      refine awp_seq ?_
      refine awp_rg mixed ?_
      refine k_ (g_ rfl rfl (r_move rfl rfl (lt_ rfl) rfl)) ?_
      refine k_ (g_ rfl rfl (r_move rfl rfl (lt_ rfl) rfl)) ?_
      refine k_ (g_ rfl rfl (r_makeFunc rfl rfl (lt_ rfl) rfl)) ?_
      refine k_ (g_ rfl rfl (by exact r_callm (hin40 t none) (hin40 t (climbR p f t)) b39 rfl rfl (lt_ rfl) rfl (c39 p e f t he hp) (.cons rfl .refl (.cons rfl .refl .nil)) ⟨rfl, rfl, rfl, trivial⟩ ⟨.inl (by simp [keys, hin40]), .inl (by simp [keys, hin40]), .inl (by simp [keys, hin40]), trivial⟩ rfl)) ?_
      refine z_ rfl (by kernel_rfl) ?_
      refine awp_seq ?_
      refine awp_rg mixed ?_
      refine k_ (g_ rfl rfl (by first | exact r_load tok rfl rfl (lt_ rfl) t22 rfl rfl rfl rfl | exact r_load_pt tok rfl rfl (lt_ rfl) t22 rfl (le_ rfl) rfl | exact r_load_ep tok rfl rfl (lt_ rfl) t22 rfl rfl (by first | rfl | simp) (by first | assumption | rfl) (le_ rfl) rfl)) ?_
      refine k_ (g_ rfl rfl (by first | exact r_load tok rfl rfl (lt_ rfl) t4 rfl rfl rfl rfl | exact r_load_pt tok rfl rfl (lt_ rfl) t4 rfl (le_ rfl) rfl | exact r_load_ep tok rfl rfl (lt_ rfl) t4 rfl rfl (by first | rfl | simp) (by first | assumption | rfl) (le_ rfl) rfl)) ?_
      refine k_ (g_ rfl rfl (r_assign rfl rfl (lt_ rfl) rfl)) ?_
      refine k_ (g_ rfl rfl (r_assign rfl rfl (lt_ rfl) rfl)) ?_
      refine z_ rfl (by kernel_rfl) ?_
      refine awp_ret ?_
      rw [show envPath p f t = climbR p f t by unfold envPath; rw [if_neg]; simp [h1, h2]]
      cases climbR p f t with
      | none => exact ⟨.inr rfl, ⟨_, _, .tmp rfl (.tmp rfl .nil), .cons (.one (.c .nl .nil)) (.cons .refl .nil), rfl⟩, trivial, rfl⟩
      | some r => exact ⟨.inr rfl, ⟨_, _, .tmp rfl (.tmp rfl .nil), .cons .refl (.cons .refl .nil), rfl⟩, trivial, rfl⟩
end Go.Proofs.Ythfeeaifddppoaa
