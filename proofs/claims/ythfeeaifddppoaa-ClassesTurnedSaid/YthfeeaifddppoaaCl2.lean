/-
  THE REFERENCE's SMALL FUNCTIONS (fugueref11), more: Inst, less, bare, pick, Names; mod.
-/
import Derived.Test.YthfeeaifddppoaaCl1
namespace Go.Proofs.Ythfeeaifddppoaa
open Go Go.AM
set_option maxRecDepth 20000

def isInst (c k : Str) (x : Inst) : Bool := x.cls == c && x.con == k
def inst (p : Prog) (c k : Str) : Option Nat := p.insts.findIdx? (isInst c k)
theorem findIdx_take {α : Type} {l : List α} {p : α → Bool} {k : Nat} {x : α} (hx : l[k]? = some x) (hn : ∀ y ∈ l.take k, p y = false) (hp : p x = true) : l.findIdx? p = some k := by
  have hlt := (List.getElem?_eq_some_iff.1 hx).1
  rw [List.findIdx?_eq_some_iff_getElem]
  refine ⟨hlt, by rw [(List.getElem?_eq_some_iff.1 hx).2]; exact hp, fun j hj => ?_⟩
  rw [hn]
  · simp
  · rw [List.mem_take_iff_getElem]
    exact ⟨j, by omega, rfl⟩
theorem findIdx_none_take {α : Type} {l : List α} {p : α → Bool} (hn : ∀ y ∈ l.take l.length, p y = false) : l.findIdx? p = none := by
  rw [List.take_length] at hn
  rw [List.findIdx?_eq_none_iff]
  exact hn

theorem c24 (p : Prog) (c k : Str) (hl : Fits p.insts) : ImpC Try.prog 24 [.pa (encProg p), Go.AM.T c, Go.AM.T k] [] (.tup [I .i64 (((inst p c k).getD 0 : Nat) : Int), B (inst p c k).isSome]) [] := by
  unfold Fits at hl
  refine impC (n := 35) tok Try.func24 rfl rfl rfl ?_
  refine awp_seq ?_
  refine awp_rg mixed ?_
  refine k_ (g_ rfl rfl (r_box 3 rfl rfl (lt_ rfl) rfl rfl rfl)) ?_
  refine k_ (g_ rfl rfl (r_assign rfl rfl (lt_ rfl) rfl)) ?_
  refine k_ (g_ rfl rfl (r_assign rfl rfl (lt_ rfl) rfl)) ?_
  refine z_ rfl (by kernel_rfl) ?_
  refine awp_seq ?_
  refine awp_seq ?_
  refine awp_rg mixed ?_
  refine k_ (g_ rfl rfl (r_assign rfl rfl (lt_ rfl) rfl)) ?_
  refine z_ rfl (by kernel_rfl) ?_
  refine awp_block ?_   -- block 0
  refine awp_loop (fun i : Nat => mk [(1, Go.AM.T c), (2, Go.AM.T k), (3, .one (.vp 3 0)), (8, I .i64 i)] [(3, .var 28 ((encProg p).map R.c))]) (fun i => i ≤ p.insts.length ∧ ∀ y ∈ p.insts.take i, isInst c k y = false) (fun i => p.insts.length - i) 0 ⟨Nat.zero_le _, by simp⟩ (.list (fun i => i) ⟨rfl, rfl, rfl, rfl, trivial⟩ ⟨⟨_, rfl, .var rfl⟩, trivial⟩ rfl) ?_
  intro i ⟨hk, hm⟩
  refine awp_seq ?_
  refine awp_seq ?_
  refine awp_rg mixed ?_
  refine k_ (g_ rfl rfl (r_move rfl rfl (lt_ rfl) rfl)) ?_
  refine k_ (g_ rfl rfl (by first | exact r_field_vp tok rfl rfl (lt_ rfl) t28 rfl rfl t25 (nz_ rfl) rfl | exact r_field_pt tok rfl rfl (lt_ rfl) t28 rfl rfl t25 (nz_ rfl) rfl | exact r_field_ep tok rfl rfl (lt_ rfl) t28 rfl rfl t25 (nz_ rfl) rfl rfl (by first | rfl | simp))) ?_
  refine k_ (g_ rfl rfl (by first | exact r_load tok rfl rfl (lt_ rfl) t25 rfl rfl rfl rfl | exact r_load_pt tok rfl rfl (lt_ rfl) t25 rfl (le_ rfl) rfl | exact r_load_ep tok rfl rfl (lt_ rfl) t25 rfl rfl (by first | rfl | simp) (by first | assumption | rfl) (le_ rfl) rfl)) ?_
  refine k_ (g_ rfl rfl (by first | exact r_len_sl tok rfl rfl (lt_ rfl) t25 rfl rfl | exact r_len_hs tok rfl rfl (lt_ rfl) t25 rfl rfl rfl (by first | rfl | simp) | exact r_len_nl tok rfl rfl (lt_ rfl) t25 rfl rfl | exact r_len_str tok rfl rfl (lt_ rfl) t25 rfl rfl)) ?_
  refine k_ (g_ rfl rfl (r_lss rfl rfl (lt_ rfl) rfl rfl)) ?_
  refine z_ rfl (by kernel_rfl) ?_
  refine awp_cond rfl (fun hb => ?_) (fun hb => ?_)
  · refine awp_skip ?_
    have hlt : i < p.insts.length := by simpa using hb
    obtain ⟨x, hx⟩ := get_of_lt hlt
    have hx' := getEnc encInst hx
    refine awp_seq ?_
    refine awp_block ?_   -- block 1
    refine awp_seq ?_
    by_cases h1 : x.cls = c
    · have e1 : decide (x.cls = c) = true := by simp [h1]
      refine awp_rg mixed ?_
      refine k_ (g_ rfl rfl (by first | exact r_field_vp tok rfl rfl (lt_ rfl) t28 rfl rfl t25 (nz_ rfl) rfl | exact r_field_pt tok rfl rfl (lt_ rfl) t28 rfl rfl t25 (nz_ rfl) rfl | exact r_field_ep tok rfl rfl (lt_ rfl) t28 rfl rfl t25 (nz_ rfl) rfl rfl (by first | rfl | simp))) ?_
      refine k_ (g_ rfl rfl (by first | exact r_load tok rfl rfl (lt_ rfl) t25 rfl rfl rfl rfl | exact r_load_pt tok rfl rfl (lt_ rfl) t25 rfl (le_ rfl) rfl | exact r_load_ep tok rfl rfl (lt_ rfl) t25 rfl rfl (by first | rfl | simp) (by first | assumption | rfl) (le_ rfl) rfl)) ?_
      refine k_ (g_ rfl rfl (r_move rfl rfl (lt_ rfl) rfl)) ?_
      refine k_ (g_ rfl rfl (by first | exact r_index tok rfl rfl (lt_ rfl) t25 rfl t50 rfl rfl rfl rfl (by first | assumption | rfl) | exact r_index_hs tok rfl rfl (lt_ rfl) t25 rfl t50 rfl rfl rfl (by first | rfl | simp) rfl rfl (by first | decide | omega | (simp; done) | (simp; omega)))) ?_
      refine k_ (g_ rfl rfl (by first | exact r_field_vp tok rfl rfl (lt_ rfl) t50 rfl rfl t9 (nz_ rfl) rfl | exact r_field_pt tok rfl rfl (lt_ rfl) t50 rfl rfl t9 (nz_ rfl) rfl | exact r_field_ep tok rfl rfl (lt_ rfl) t50 rfl rfl t9 (nz_ rfl) rfl rfl (by first | rfl | simp))) ?_
      refine k_ (g_ rfl rfl (by first | exact r_load tok rfl rfl (lt_ rfl) t9 rfl rfl rfl rfl | exact r_load_pt tok rfl rfl (lt_ rfl) t9 rfl (le_ rfl) rfl | exact r_load_ep tok rfl rfl (lt_ rfl) t9 rfl rfl (by first | rfl | simp) (by first | assumption | rfl) (le_ rfl) rfl)) ?_
      refine k_ (g_ rfl rfl (r_move rfl rfl (lt_ rfl) rfl)) ?_
      refine k_ (g_ rfl rfl (r_seql rfl rfl (lt_ rfl) rfl rfl)) ?_
      refine k_ (g_ rfl rfl (r_move rfl rfl (lt_ rfl) rfl)) ?_
      refine k_ (GStep.yes rfl rfl rfl rfl (by first | assumption | rfl | (simp; done) | (simp only [Bool.not]; assumption) | (simp; omega)) (by first | exact r_field_vp tok rfl rfl (lt_ rfl) t28 rfl rfl t25 (nz_ rfl) rfl | exact r_field_pt tok rfl rfl (lt_ rfl) t28 rfl rfl t25 (nz_ rfl) rfl | exact r_field_ep tok rfl rfl (lt_ rfl) t28 rfl rfl t25 (nz_ rfl) rfl rfl (by first | rfl | simp))) ?_
      refine k_ (GStep.yes rfl rfl rfl rfl (by first | assumption | rfl | (simp; done) | (simp only [Bool.not]; assumption) | (simp; omega)) (by first | exact r_load tok rfl rfl (lt_ rfl) t25 rfl rfl rfl rfl | exact r_load_pt tok rfl rfl (lt_ rfl) t25 rfl (le_ rfl) rfl | exact r_load_ep tok rfl rfl (lt_ rfl) t25 rfl rfl (by first | rfl | simp) (by first | assumption | rfl) (le_ rfl) rfl)) ?_
      refine k_ (GStep.yes rfl rfl rfl rfl (by first | assumption | rfl | (simp; done) | (simp only [Bool.not]; assumption) | (simp; omega)) (by exact r_move rfl rfl (lt_ rfl) rfl)) ?_
      refine k_ (GStep.yes rfl rfl rfl rfl (by first | assumption | rfl | (simp; done) | (simp only [Bool.not]; assumption) | (simp; omega)) (by first | exact r_index tok rfl rfl (lt_ rfl) t25 rfl t50 rfl rfl rfl rfl (by first | assumption | rfl) | exact r_index_hs tok rfl rfl (lt_ rfl) t25 rfl t50 rfl rfl rfl (by first | rfl | simp) rfl rfl (by first | decide | omega | (simp; done) | (simp; omega)))) ?_
      refine k_ (GStep.yes rfl rfl rfl rfl (by first | assumption | rfl | (simp; done) | (simp only [Bool.not]; assumption) | (simp; omega)) (by first | exact r_field_vp tok rfl rfl (lt_ rfl) t50 rfl rfl t9 (nz_ rfl) rfl | exact r_field_pt tok rfl rfl (lt_ rfl) t50 rfl rfl t9 (nz_ rfl) rfl | exact r_field_ep tok rfl rfl (lt_ rfl) t50 rfl rfl t9 (nz_ rfl) rfl rfl (by first | rfl | simp))) ?_
      refine k_ (GStep.yes rfl rfl rfl rfl (by first | assumption | rfl | (simp; done) | (simp only [Bool.not]; assumption) | (simp; omega)) (by first | exact r_load tok rfl rfl (lt_ rfl) t9 rfl rfl rfl rfl | exact r_load_pt tok rfl rfl (lt_ rfl) t9 rfl (le_ rfl) rfl | exact r_load_ep tok rfl rfl (lt_ rfl) t9 rfl rfl (by first | rfl | simp) (by first | assumption | rfl) (le_ rfl) rfl)) ?_
      refine k_ (GStep.yes rfl rfl rfl rfl (by first | assumption | rfl | (simp; done) | (simp only [Bool.not]; assumption) | (simp; omega)) (by exact r_move rfl rfl (lt_ rfl) rfl)) ?_
      refine k_ (GStep.yes rfl rfl rfl rfl (by first | assumption | rfl | (simp; done) | (simp only [Bool.not]; assumption) | (simp; omega)) (by exact r_seql rfl rfl (lt_ rfl) rfl rfl)) ?_
      refine k_ (g_ rfl rfl (by exact r_pick_t rfl rfl (lt_ rfl) rfl (by first | assumption | rfl | (simp; done)) rfl)) ?_
      refine z_ rfl (by kernel_rfl) ?_
      refine awp_cond rfl (fun hb => ?_) (fun hb => ?_)
      · refine awp_seq ?_
        refine awp_rg mixed ?_
        refine k_ (g_ rfl rfl (r_move rfl rfl (lt_ rfl) rfl)) ?_
        refine k_ (g_ rfl rfl (r_assign rfl rfl (lt_ rfl) rfl)) ?_
        refine k_ (g_ rfl rfl (r_assign rfl rfl (lt_ rfl) rfl)) ?_
        refine z_ rfl (by kernel_rfl) ?_
        refine awp_ret ?_
        have h2 : x.con = k := by simpa using hb
        have hf : inst p c k = some i := findIdx_take hx hm (by simp [isInst, h1, h2])
        rw [hf]
        exact ⟨.inr rfl, ⟨_, _, .tmp rfl (.tmp rfl .nil), .cons .refl (.cons .refl .nil), rfl⟩, trivial, rfl⟩
      · refine awp_skip ?_
        refine awp_rg mixed ?_
        refine k_ (g_ rfl rfl (r_move rfl rfl (lt_ rfl) rfl)) ?_
        refine k_ (g_ rfl rfl (by exact r_addI rfl rfl (lt_ rfl) rfl rfl (by first | omega | (simp only [List.length_map]; omega)))) ?_
        refine k_ (g_ rfl rfl (r_assign rfl rfl (lt_ rfl) rfl)) ?_
        refine z_ rfl (by kernel_rfl) ?_
        have h2 : ¬ x.con = k := by simpa using hb
        exact ⟨i + 1, ⟨hlt, take_step hx hm (by simp [isInst, h2])⟩, by dsimp only; omega, .list (fun i => i) ⟨rfl, rfl, rfl, rfl, trivial⟩ ⟨⟨_, rfl, .var rfl⟩, trivial⟩ rfl⟩
    · have e1 : decide (x.cls = c) = false := by simp [h1]
      refine awp_rg mixed ?_
      refine k_ (g_ rfl rfl (by first | exact r_field_vp tok rfl rfl (lt_ rfl) t28 rfl rfl t25 (nz_ rfl) rfl | exact r_field_pt tok rfl rfl (lt_ rfl) t28 rfl rfl t25 (nz_ rfl) rfl | exact r_field_ep tok rfl rfl (lt_ rfl) t28 rfl rfl t25 (nz_ rfl) rfl rfl (by first | rfl | simp))) ?_
      refine k_ (g_ rfl rfl (by first | exact r_load tok rfl rfl (lt_ rfl) t25 rfl rfl rfl rfl | exact r_load_pt tok rfl rfl (lt_ rfl) t25 rfl (le_ rfl) rfl | exact r_load_ep tok rfl rfl (lt_ rfl) t25 rfl rfl (by first | rfl | simp) (by first | assumption | rfl) (le_ rfl) rfl)) ?_
      refine k_ (g_ rfl rfl (r_move rfl rfl (lt_ rfl) rfl)) ?_
      refine k_ (g_ rfl rfl (by first | exact r_index tok rfl rfl (lt_ rfl) t25 rfl t50 rfl rfl rfl rfl (by first | assumption | rfl) | exact r_index_hs tok rfl rfl (lt_ rfl) t25 rfl t50 rfl rfl rfl (by first | rfl | simp) rfl rfl (by first | decide | omega | (simp; done) | (simp; omega)))) ?_
      refine k_ (g_ rfl rfl (by first | exact r_field_vp tok rfl rfl (lt_ rfl) t50 rfl rfl t9 (nz_ rfl) rfl | exact r_field_pt tok rfl rfl (lt_ rfl) t50 rfl rfl t9 (nz_ rfl) rfl | exact r_field_ep tok rfl rfl (lt_ rfl) t50 rfl rfl t9 (nz_ rfl) rfl rfl (by first | rfl | simp))) ?_
      refine k_ (g_ rfl rfl (by first | exact r_load tok rfl rfl (lt_ rfl) t9 rfl rfl rfl rfl | exact r_load_pt tok rfl rfl (lt_ rfl) t9 rfl (le_ rfl) rfl | exact r_load_ep tok rfl rfl (lt_ rfl) t9 rfl rfl (by first | rfl | simp) (by first | assumption | rfl) (le_ rfl) rfl)) ?_
      refine k_ (g_ rfl rfl (r_move rfl rfl (lt_ rfl) rfl)) ?_
      refine k_ (g_ rfl rfl (r_seql rfl rfl (lt_ rfl) rfl rfl)) ?_
      refine k_ (g_ rfl rfl (r_move rfl rfl (lt_ rfl) rfl)) ?_
      refine k_ (by first | exact GStep.no rfl rfl rfl (lt_ rfl) rfl rfl (by first | assumption | rfl | (simp; done) | (simp only [Bool.not]; assumption) | (simp; omega)) rfl | exact GStep.un rfl rfl rfl (lt_ rfl) rfl rfl) ?_
      refine k_ (by first | exact GStep.no rfl rfl rfl (lt_ rfl) rfl rfl (by first | assumption | rfl | (simp; done) | (simp only [Bool.not]; assumption) | (simp; omega)) rfl | exact GStep.un rfl rfl rfl (lt_ rfl) rfl rfl) ?_
      refine k_ (by first | exact GStep.no rfl rfl rfl (lt_ rfl) rfl rfl (by first | assumption | rfl | (simp; done) | (simp only [Bool.not]; assumption) | (simp; omega)) rfl | exact GStep.un rfl rfl rfl (lt_ rfl) rfl rfl) ?_
      refine k_ (by first | exact GStep.no rfl rfl rfl (lt_ rfl) rfl rfl (by first | assumption | rfl | (simp; done) | (simp only [Bool.not]; assumption) | (simp; omega)) rfl | exact GStep.un rfl rfl rfl (lt_ rfl) rfl rfl) ?_
      refine k_ (by first | exact GStep.no rfl rfl rfl (lt_ rfl) rfl rfl (by first | assumption | rfl | (simp; done) | (simp only [Bool.not]; assumption) | (simp; omega)) rfl | exact GStep.un rfl rfl rfl (lt_ rfl) rfl rfl) ?_
      refine k_ (by first | exact GStep.no rfl rfl rfl (lt_ rfl) rfl rfl (by first | assumption | rfl | (simp; done) | (simp only [Bool.not]; assumption) | (simp; omega)) rfl | exact GStep.un rfl rfl rfl (lt_ rfl) rfl rfl) ?_
      refine k_ (by first | exact GStep.no rfl rfl rfl (lt_ rfl) rfl rfl (by first | assumption | rfl | (simp; done) | (simp only [Bool.not]; assumption) | (simp; omega)) rfl | exact GStep.un rfl rfl rfl (lt_ rfl) rfl rfl) ?_
      refine k_ (by first | exact GStep.no rfl rfl rfl (lt_ rfl) rfl rfl (by first | assumption | rfl | (simp; done) | (simp only [Bool.not]; assumption) | (simp; omega)) rfl | exact GStep.un rfl rfl rfl (lt_ rfl) rfl rfl) ?_
      refine k_ (g_ rfl rfl (by exact r_pick_f rfl rfl (lt_ rfl) rfl (by first | assumption | rfl | (simp; done)) rfl)) ?_
      refine z_ rfl (by kernel_rfl) ?_
      refine awp_cond rfl (fun hb => by cases hb) (fun hb => ?_)
      refine awp_skip ?_
      refine awp_rg mixed ?_
      refine k_ (g_ rfl rfl (r_move rfl rfl (lt_ rfl) rfl)) ?_
      refine k_ (g_ rfl rfl (by exact r_addI rfl rfl (lt_ rfl) rfl rfl (by first | omega | (simp only [List.length_map]; omega)))) ?_
      refine k_ (g_ rfl rfl (r_assign rfl rfl (lt_ rfl) rfl)) ?_
      refine z_ rfl (by kernel_rfl) ?_
      exact ⟨i + 1, ⟨hlt, take_step hx hm (by simp [isInst, h1])⟩, by dsimp only; omega, .list (fun i => i) ⟨rfl, rfl, rfl, rfl, trivial⟩ ⟨⟨_, rfl, .var rfl⟩, trivial⟩ rfl⟩
  · refine awp_exit ?_   -- 0
    have hge : i = p.insts.length := by
      have : ¬ i < p.insts.length := by simpa using hb
      omega
    refine awp_seq ?_
    refine awp_rg mixed ?_
    refine k_ (g_ rfl rfl (r_assign rfl rfl (lt_ rfl) rfl)) ?_
    refine k_ (g_ rfl rfl (r_assign rfl rfl (lt_ rfl) rfl)) ?_
    refine z_ rfl (by kernel_rfl) ?_
    refine awp_ret ?_
    rw [hge] at hm
    have hf : inst p c k = none := findIdx_none_take hm
    rw [hf]
    exact ⟨.inr rfl, ⟨_, _, .tmp rfl (.tmp rfl .nil), .cons .refl (.cons .refl .nil), rfl⟩, trivial, rfl⟩

def less (a b : At) : At := if a.no = 0 ∨ (b.no ≠ 0 ∧ b.at_ < a.at_) then b else a

theorem c37 (a b : At) : ImpC Try.prog 37 [.pa (encAt a), .pa (encAt b)] [] (.pa (encAt (less a b))) [] := by
  refine impC (n := 22) tok Try.func37 rfl rfl rfl ?_
  refine awp_seq ?_
  refine awp_rg mixed ?_
  refine k_ (g_ rfl rfl (r_box 2 rfl rfl (lt_ rfl) rfl rfl rfl)) ?_
  refine k_ (g_ rfl rfl (r_box 3 rfl rfl (lt_ rfl) rfl rfl rfl)) ?_
  refine k_ (g_ rfl rfl (r_alloc 4 tok rfl rfl (lt_ rfl) t34 rfl)) ?_
  refine z_ rfl (by kernel_rfl) ?_
  refine awp_seq ?_
  refine awp_seq ?_
  by_cases h1 : a.no = 0
  · have e1 : decide (a.no = 0) = true := by simp [h1]
    refine awp_rg mixed ?_
    refine k_ (g_ rfl rfl (by first | exact r_field_vp tok rfl rfl (lt_ rfl) t34 rfl rfl t32 (nz_ rfl) rfl | exact r_field_pt tok rfl rfl (lt_ rfl) t34 rfl rfl t32 (nz_ rfl) rfl | exact r_field_ep tok rfl rfl (lt_ rfl) t34 rfl rfl t32 (nz_ rfl) rfl rfl (by first | rfl | simp))) ?_
    refine k_ (g_ rfl rfl (by first | exact r_load tok rfl rfl (lt_ rfl) t32 rfl rfl rfl rfl | exact r_load_pt tok rfl rfl (lt_ rfl) t32 rfl (le_ rfl) rfl | exact r_load_ep tok rfl rfl (lt_ rfl) t32 rfl rfl (by first | rfl | simp) (by first | assumption | rfl) (le_ rfl) rfl)) ?_
    refine k_ (g_ rfl rfl (r_eql rfl rfl (lt_ rfl) rfl rfl)) ?_
    refine k_ (g_ rfl rfl (r_move rfl rfl (lt_ rfl) rfl)) ?_
    refine k_ (by first | exact GStep.no rfl rfl rfl (lt_ rfl) rfl rfl (by first | assumption | rfl | (simp; done) | (simp only [Bool.not]; assumption) | (simp; omega)) rfl | exact GStep.un rfl rfl rfl (lt_ rfl) rfl rfl) ?_
    refine k_ (by first | exact GStep.no rfl rfl rfl (lt_ rfl) rfl rfl (by first | assumption | rfl | (simp; done) | (simp only [Bool.not]; assumption) | (simp; omega)) rfl | exact GStep.un rfl rfl rfl (lt_ rfl) rfl rfl) ?_
    refine k_ (by first | exact GStep.no rfl rfl rfl (lt_ rfl) rfl rfl (by first | assumption | rfl | (simp; done) | (simp only [Bool.not]; assumption) | (simp; omega)) rfl | exact GStep.un rfl rfl rfl (lt_ rfl) rfl rfl) ?_
    refine k_ (by first | exact GStep.no rfl rfl rfl (lt_ rfl) rfl rfl (by first | assumption | rfl | (simp; done) | (simp only [Bool.not]; assumption) | (simp; omega)) rfl | exact GStep.un rfl rfl rfl (lt_ rfl) rfl rfl) ?_
    refine k_ (by first | exact GStep.no rfl rfl rfl (lt_ rfl) rfl rfl (by first | assumption | rfl | (simp; done) | (simp only [Bool.not]; assumption) | (simp; omega)) rfl | exact GStep.un rfl rfl rfl (lt_ rfl) rfl rfl) ?_
    refine k_ (by first | exact GStep.no rfl rfl rfl (lt_ rfl) rfl rfl (by first | assumption | rfl | (simp; done) | (simp only [Bool.not]; assumption) | (simp; omega)) rfl | exact GStep.un rfl rfl rfl (lt_ rfl) rfl rfl) ?_
    refine k_ (by first | exact GStep.no rfl rfl rfl (lt_ rfl) rfl rfl (by first | assumption | rfl | (simp; done) | (simp only [Bool.not]; assumption) | (simp; omega)) rfl | exact GStep.un rfl rfl rfl (lt_ rfl) rfl rfl) ?_
    refine k_ (by first | exact GStep.no rfl rfl rfl (lt_ rfl) rfl rfl (by first | assumption | rfl | (simp; done) | (simp only [Bool.not]; assumption) | (simp; omega)) rfl | exact GStep.un rfl rfl rfl (lt_ rfl) rfl rfl) ?_
    refine k_ (by first | exact GStep.no rfl rfl rfl (lt_ rfl) rfl rfl (by first | assumption | rfl | (simp; done) | (simp only [Bool.not]; assumption) | (simp; omega)) rfl | exact GStep.un rfl rfl rfl (lt_ rfl) rfl rfl) ?_
    refine k_ (by first | exact GStep.no rfl rfl rfl (lt_ rfl) rfl rfl (by first | assumption | rfl | (simp; done) | (simp only [Bool.not]; assumption) | (simp; omega)) rfl | exact GStep.un rfl rfl rfl (lt_ rfl) rfl rfl) ?_
    refine k_ (g_ rfl rfl (by exact r_pick_t rfl rfl (lt_ rfl) rfl (by first | assumption | rfl | (simp; done)) rfl)) ?_
    refine z_ rfl (by kernel_rfl) ?_
    refine awp_cond rfl (fun hb => ?_) (fun hb => by cases hb)
    refine awp_seq ?_
    refine awp_rg mixed ?_
    refine k_ (g_ rfl rfl (by first | exact r_load tok rfl rfl (lt_ rfl) t34 rfl rfl rfl rfl | exact r_load_pt tok rfl rfl (lt_ rfl) t34 rfl (le_ rfl) rfl | exact r_load_ep tok rfl rfl (lt_ rfl) t34 rfl rfl (by first | rfl | simp) (by first | assumption | rfl) (le_ rfl) rfl)) ?_
    refine k_ (g_ rfl rfl (by first | exact r_store tok rfl rfl t34 rfl rfl rfl rfl rfl rfl | exact r_store_ep tok rfl rfl t34 rfl rfl rfl rfl rfl (by first | rfl | simp) (by first | assumption | rfl) rfl (le_ rfl))) ?_
    refine z_ rfl (by kernel_rfl) ?_
    refine awp_ret ?_
    rw [show less a b = b by simp [less, h1]]
    exact ⟨.inr rfl, ⟨_, _, .cell rfl t34 rfl rfl rfl .nil, .cons .refl .nil, rfl⟩, trivial, rfl⟩
  · have e1 : decide (a.no = 0) = false := by simp [h1]
    by_cases h2 : b.no = 0
    · have e2 : (!decide (b.no = 0)) = false := by simp [h2]
      refine awp_rg mixed ?_
      refine k_ (g_ rfl rfl (by first | exact r_field_vp tok rfl rfl (lt_ rfl) t34 rfl rfl t32 (nz_ rfl) rfl | exact r_field_pt tok rfl rfl (lt_ rfl) t34 rfl rfl t32 (nz_ rfl) rfl | exact r_field_ep tok rfl rfl (lt_ rfl) t34 rfl rfl t32 (nz_ rfl) rfl rfl (by first | rfl | simp))) ?_
      refine k_ (g_ rfl rfl (by first | exact r_load tok rfl rfl (lt_ rfl) t32 rfl rfl rfl rfl | exact r_load_pt tok rfl rfl (lt_ rfl) t32 rfl (le_ rfl) rfl | exact r_load_ep tok rfl rfl (lt_ rfl) t32 rfl rfl (by first | rfl | simp) (by first | assumption | rfl) (le_ rfl) rfl)) ?_
      refine k_ (g_ rfl rfl (r_eql rfl rfl (lt_ rfl) rfl rfl)) ?_
      refine k_ (g_ rfl rfl (r_move rfl rfl (lt_ rfl) rfl)) ?_
      refine k_ (GStep.yes rfl rfl rfl rfl (by first | assumption | rfl | (simp; done) | (simp only [Bool.not]; assumption) | (simp; omega)) (by first | exact r_field_vp tok rfl rfl (lt_ rfl) t34 rfl rfl t32 (nz_ rfl) rfl | exact r_field_pt tok rfl rfl (lt_ rfl) t34 rfl rfl t32 (nz_ rfl) rfl | exact r_field_ep tok rfl rfl (lt_ rfl) t34 rfl rfl t32 (nz_ rfl) rfl rfl (by first | rfl | simp))) ?_
      refine k_ (GStep.yes rfl rfl rfl rfl (by first | assumption | rfl | (simp; done) | (simp only [Bool.not]; assumption) | (simp; omega)) (by first | exact r_load tok rfl rfl (lt_ rfl) t32 rfl rfl rfl rfl | exact r_load_pt tok rfl rfl (lt_ rfl) t32 rfl (le_ rfl) rfl | exact r_load_ep tok rfl rfl (lt_ rfl) t32 rfl rfl (by first | rfl | simp) (by first | assumption | rfl) (le_ rfl) rfl)) ?_
      refine k_ (GStep.yes rfl rfl rfl rfl (by first | assumption | rfl | (simp; done) | (simp only [Bool.not]; assumption) | (simp; omega)) (by exact r_neq rfl rfl (lt_ rfl) rfl rfl)) ?_
      refine k_ (GStep.yes rfl rfl rfl rfl (by first | assumption | rfl | (simp; done) | (simp only [Bool.not]; assumption) | (simp; omega)) (by exact r_move rfl rfl (lt_ rfl) rfl)) ?_
      refine k_ (by first | exact GStep.no rfl rfl rfl (lt_ rfl) rfl rfl (by first | assumption | rfl | (simp; done) | (simp only [Bool.not]; assumption) | (simp; omega)) rfl | exact GStep.un rfl rfl rfl (lt_ rfl) rfl rfl) ?_
      refine k_ (by first | exact GStep.no rfl rfl rfl (lt_ rfl) rfl rfl (by first | assumption | rfl | (simp; done) | (simp only [Bool.not]; assumption) | (simp; omega)) rfl | exact GStep.un rfl rfl rfl (lt_ rfl) rfl rfl) ?_
      refine k_ (by first | exact GStep.no rfl rfl rfl (lt_ rfl) rfl rfl (by first | assumption | rfl | (simp; done) | (simp only [Bool.not]; assumption) | (simp; omega)) rfl | exact GStep.un rfl rfl rfl (lt_ rfl) rfl rfl) ?_
      refine k_ (by first | exact GStep.no rfl rfl rfl (lt_ rfl) rfl rfl (by first | assumption | rfl | (simp; done) | (simp only [Bool.not]; assumption) | (simp; omega)) rfl | exact GStep.un rfl rfl rfl (lt_ rfl) rfl rfl) ?_
      refine k_ (by first | exact GStep.no rfl rfl rfl (lt_ rfl) rfl rfl (by first | assumption | rfl | (simp; done) | (simp only [Bool.not]; assumption) | (simp; omega)) rfl | exact GStep.un rfl rfl rfl (lt_ rfl) rfl rfl) ?_
      refine k_ (GStep.yes rfl rfl rfl rfl (by first | assumption | rfl | (simp; done) | (simp only [Bool.not]; assumption) | (simp; omega)) (by exact r_pick_f rfl rfl (lt_ rfl) rfl (by first | assumption | rfl | (simp; done)) rfl)) ?_
      refine k_ (g_ rfl rfl (by exact r_pick_f rfl rfl (lt_ rfl) rfl (by first | assumption | rfl | (simp; done)) rfl)) ?_
      refine z_ rfl (by kernel_rfl) ?_
      refine awp_cond rfl (fun hb => by cases hb) (fun hb => ?_)
      refine awp_skip ?_
      refine awp_seq ?_
      refine awp_rg mixed ?_
      refine k_ (g_ rfl rfl (by first | exact r_load tok rfl rfl (lt_ rfl) t34 rfl rfl rfl rfl | exact r_load_pt tok rfl rfl (lt_ rfl) t34 rfl (le_ rfl) rfl | exact r_load_ep tok rfl rfl (lt_ rfl) t34 rfl rfl (by first | rfl | simp) (by first | assumption | rfl) (le_ rfl) rfl)) ?_
      refine k_ (g_ rfl rfl (by first | exact r_store tok rfl rfl t34 rfl rfl rfl rfl rfl rfl | exact r_store_ep tok rfl rfl t34 rfl rfl rfl rfl rfl (by first | rfl | simp) (by first | assumption | rfl) rfl (le_ rfl))) ?_
      refine z_ rfl (by kernel_rfl) ?_
      refine awp_ret ?_
      rw [show less a b = a by simp [less, h1, h2]]
      exact ⟨.inr rfl, ⟨_, _, .cell rfl t34 rfl rfl rfl .nil, .cons .refl .nil, rfl⟩, trivial, rfl⟩
    · have e2 : (!decide (b.no = 0)) = true := by simp [h2]
      refine awp_rg mixed ?_
      refine k_ (g_ rfl rfl (by first | exact r_field_vp tok rfl rfl (lt_ rfl) t34 rfl rfl t32 (nz_ rfl) rfl | exact r_field_pt tok rfl rfl (lt_ rfl) t34 rfl rfl t32 (nz_ rfl) rfl | exact r_field_ep tok rfl rfl (lt_ rfl) t34 rfl rfl t32 (nz_ rfl) rfl rfl (by first | rfl | simp))) ?_
      refine k_ (g_ rfl rfl (by first | exact r_load tok rfl rfl (lt_ rfl) t32 rfl rfl rfl rfl | exact r_load_pt tok rfl rfl (lt_ rfl) t32 rfl (le_ rfl) rfl | exact r_load_ep tok rfl rfl (lt_ rfl) t32 rfl rfl (by first | rfl | simp) (by first | assumption | rfl) (le_ rfl) rfl)) ?_
      refine k_ (g_ rfl rfl (r_eql rfl rfl (lt_ rfl) rfl rfl)) ?_
      refine k_ (g_ rfl rfl (r_move rfl rfl (lt_ rfl) rfl)) ?_
      refine k_ (GStep.yes rfl rfl rfl rfl (by first | assumption | rfl | (simp; done) | (simp only [Bool.not]; assumption) | (simp; omega)) (by first | exact r_field_vp tok rfl rfl (lt_ rfl) t34 rfl rfl t32 (nz_ rfl) rfl | exact r_field_pt tok rfl rfl (lt_ rfl) t34 rfl rfl t32 (nz_ rfl) rfl | exact r_field_ep tok rfl rfl (lt_ rfl) t34 rfl rfl t32 (nz_ rfl) rfl rfl (by first | rfl | simp))) ?_
      refine k_ (GStep.yes rfl rfl rfl rfl (by first | assumption | rfl | (simp; done) | (simp only [Bool.not]; assumption) | (simp; omega)) (by first | exact r_load tok rfl rfl (lt_ rfl) t32 rfl rfl rfl rfl | exact r_load_pt tok rfl rfl (lt_ rfl) t32 rfl (le_ rfl) rfl | exact r_load_ep tok rfl rfl (lt_ rfl) t32 rfl rfl (by first | rfl | simp) (by first | assumption | rfl) (le_ rfl) rfl)) ?_
      refine k_ (GStep.yes rfl rfl rfl rfl (by first | assumption | rfl | (simp; done) | (simp only [Bool.not]; assumption) | (simp; omega)) (by exact r_neq rfl rfl (lt_ rfl) rfl rfl)) ?_
      refine k_ (GStep.yes rfl rfl rfl rfl (by first | assumption | rfl | (simp; done) | (simp only [Bool.not]; assumption) | (simp; omega)) (by exact r_move rfl rfl (lt_ rfl) rfl)) ?_
      refine k_ (GStep.yes rfl rfl rfl rfl (by first | assumption | rfl | (simp; done) | (simp only [Bool.not]; assumption) | (simp; omega)) (by first | exact r_field_vp tok rfl rfl (lt_ rfl) t34 rfl rfl t3 (nz_ rfl) rfl | exact r_field_pt tok rfl rfl (lt_ rfl) t34 rfl rfl t3 (nz_ rfl) rfl | exact r_field_ep tok rfl rfl (lt_ rfl) t34 rfl rfl t3 (nz_ rfl) rfl rfl (by first | rfl | simp))) ?_
      refine k_ (GStep.yes rfl rfl rfl rfl (by first | assumption | rfl | (simp; done) | (simp only [Bool.not]; assumption) | (simp; omega)) (by first | exact r_load tok rfl rfl (lt_ rfl) t3 rfl rfl rfl rfl | exact r_load_pt tok rfl rfl (lt_ rfl) t3 rfl (le_ rfl) rfl | exact r_load_ep tok rfl rfl (lt_ rfl) t3 rfl rfl (by first | rfl | simp) (by first | assumption | rfl) (le_ rfl) rfl)) ?_
      refine k_ (GStep.yes rfl rfl rfl rfl (by first | assumption | rfl | (simp; done) | (simp only [Bool.not]; assumption) | (simp; omega)) (by first | exact r_field_vp tok rfl rfl (lt_ rfl) t34 rfl rfl t3 (nz_ rfl) rfl | exact r_field_pt tok rfl rfl (lt_ rfl) t34 rfl rfl t3 (nz_ rfl) rfl | exact r_field_ep tok rfl rfl (lt_ rfl) t34 rfl rfl t3 (nz_ rfl) rfl rfl (by first | rfl | simp))) ?_
      refine k_ (GStep.yes rfl rfl rfl rfl (by first | assumption | rfl | (simp; done) | (simp only [Bool.not]; assumption) | (simp; omega)) (by first | exact r_load tok rfl rfl (lt_ rfl) t3 rfl rfl rfl rfl | exact r_load_pt tok rfl rfl (lt_ rfl) t3 rfl (le_ rfl) rfl | exact r_load_ep tok rfl rfl (lt_ rfl) t3 rfl rfl (by first | rfl | simp) (by first | assumption | rfl) (le_ rfl) rfl)) ?_
      refine k_ (GStep.yes rfl rfl rfl rfl (by first | assumption | rfl | (simp; done) | (simp only [Bool.not]; assumption) | (simp; omega)) (by exact r_lss rfl rfl (lt_ rfl) rfl rfl)) ?_
      refine k_ (GStep.yes rfl rfl rfl rfl (by first | assumption | rfl | (simp; done) | (simp only [Bool.not]; assumption) | (simp; omega)) (by exact r_pick_t rfl rfl (lt_ rfl) rfl (by first | assumption | rfl | (simp; done)) rfl)) ?_
      refine k_ (g_ rfl rfl (by exact r_pick_f rfl rfl (lt_ rfl) rfl (by first | assumption | rfl | (simp; done)) rfl)) ?_
      refine z_ rfl (by kernel_rfl) ?_
      refine awp_cond rfl (fun hb => ?_) (fun hb => ?_)
      · refine awp_seq ?_
        refine awp_rg mixed ?_
        refine k_ (g_ rfl rfl (by first | exact r_load tok rfl rfl (lt_ rfl) t34 rfl rfl rfl rfl | exact r_load_pt tok rfl rfl (lt_ rfl) t34 rfl (le_ rfl) rfl | exact r_load_ep tok rfl rfl (lt_ rfl) t34 rfl rfl (by first | rfl | simp) (by first | assumption | rfl) (le_ rfl) rfl)) ?_
        refine k_ (g_ rfl rfl (by first | exact r_store tok rfl rfl t34 rfl rfl rfl rfl rfl rfl | exact r_store_ep tok rfl rfl t34 rfl rfl rfl rfl rfl (by first | rfl | simp) (by first | assumption | rfl) rfl (le_ rfl))) ?_
        refine z_ rfl (by kernel_rfl) ?_
        refine awp_ret ?_
        have h3 : b.at_ < a.at_ := by simpa using hb
        rw [show less a b = b by simp [less, h2, h3]]
        exact ⟨.inr rfl, ⟨_, _, .cell rfl t34 rfl rfl rfl .nil, .cons .refl .nil, rfl⟩, trivial, rfl⟩
      · refine awp_skip ?_
        refine awp_seq ?_
        refine awp_rg mixed ?_
        refine k_ (g_ rfl rfl (by first | exact r_load tok rfl rfl (lt_ rfl) t34 rfl rfl rfl rfl | exact r_load_pt tok rfl rfl (lt_ rfl) t34 rfl (le_ rfl) rfl | exact r_load_ep tok rfl rfl (lt_ rfl) t34 rfl rfl (by first | rfl | simp) (by first | assumption | rfl) (le_ rfl) rfl)) ?_
        refine k_ (g_ rfl rfl (by first | exact r_store tok rfl rfl t34 rfl rfl rfl rfl rfl rfl | exact r_store_ep tok rfl rfl t34 rfl rfl rfl rfl rfl (by first | rfl | simp) (by first | assumption | rfl) rfl (le_ rfl))) ?_
        refine z_ rfl (by kernel_rfl) ?_
        refine awp_ret ?_
        have h3 : ¬ b.at_ < a.at_ := by simpa using hb
        rw [show less a b = a by simp [less, h1, h3]]
        exact ⟨.inr rfl, ⟨_, _, .cell rfl t34 rfl rfl rfl .nil, .cons .refl .nil, rfl⟩, trivial, rfl⟩

def supersOf (p : Prog) (s : Str) : List Str := ((cls p s).getD zCls).supers
def bare (p : Prog) (x : Inst) : Bool := (supersOf p x.cls).any (fun s => (inst p s x.con).isNone)
theorem any_take {α : Type} {l : List α} {p : α → Bool} {k : Nat} {x : α} (hx : l[k]? = some x) (hp : p x = true) : l.any p = true := List.any_eq_true.2 ⟨x, List.mem_of_getElem? hx, hp⟩
theorem any_none_take {α : Type} {l : List α} {p : α → Bool} (hn : ∀ y ∈ l.take l.length, p y = false) : l.any p = false := by
  rw [List.take_length] at hn
  rw [List.any_eq_false]
  intro x hx
  rw [hn x hx]
  simp

theorem c38 (p : Prog) (x : Inst) (hl : Fits p.classes) (hi : Fits p.insts) (hs : Fits (supersOf p x.cls)) : ImpC Try.prog 38 [.pa (encProg p), .pa (encInst x)] [] (B (bare p x)) [] := by
  unfold Fits at hs
  refine impC (n := 38) tok Try.func38 rfl rfl rfl ?_
  refine awp_seq ?_
  refine awp_rg mixed ?_
  refine k_ (g_ rfl rfl (r_box 2 rfl rfl (lt_ rfl) rfl rfl rfl)) ?_
  refine k_ (g_ rfl rfl (r_box 3 rfl rfl (lt_ rfl) rfl rfl rfl)) ?_
  refine k_ (g_ rfl rfl (r_assign rfl rfl (lt_ rfl) rfl)) ?_
  refine z_ rfl (by kernel_rfl) ?_
  refine awp_seq ?_
  refine awp_rg mixed ?_
  refine k_ (g_ rfl rfl (by first | exact r_load tok rfl rfl (lt_ rfl) t28 rfl rfl rfl rfl | exact r_load_pt tok rfl rfl (lt_ rfl) t28 rfl (le_ rfl) rfl | exact r_load_ep tok rfl rfl (lt_ rfl) t28 rfl rfl (by first | rfl | simp) (by first | assumption | rfl) (le_ rfl) rfl)) ?_
  refine k_ (g_ rfl rfl (by first | exact r_field_vp tok rfl rfl (lt_ rfl) t50 rfl rfl t9 (nz_ rfl) rfl | exact r_field_pt tok rfl rfl (lt_ rfl) t50 rfl rfl t9 (nz_ rfl) rfl | exact r_field_ep tok rfl rfl (lt_ rfl) t50 rfl rfl t9 (nz_ rfl) rfl rfl (by first | rfl | simp))) ?_
  refine k_ (g_ rfl rfl (by first | exact r_load tok rfl rfl (lt_ rfl) t9 rfl rfl rfl rfl | exact r_load_pt tok rfl rfl (lt_ rfl) t9 rfl (le_ rfl) rfl | exact r_load_ep tok rfl rfl (lt_ rfl) t9 rfl rfl (by first | rfl | simp) (by first | assumption | rfl) (le_ rfl) rfl)) ?_
  refine k_ (g_ rfl rfl (by exact r_call [] [] b26 rfl rfl (lt_ rfl) (c26 p x.cls hl) (.cons rfl (by first | exact .refl | exact .agg (by first | exact .of_pure | ((first | refine .hs rfl (by first | rfl | simp) (by first | rfl | (simp; done) | (simp [Go.AM.take_map]; done) | exact Go.AM.take_map.symm) ?_ | refine .c .refl ?_ | refine .c (Cle.nl (es := 5)) ?_); (first | refine .hs rfl (by first | rfl | simp) (by first | rfl | (simp; done) | (simp [Go.AM.take_map]; done) | exact Go.AM.take_map.symm) ?_ | refine .c .refl ?_ | refine .c (Cle.nl (es := 6)) ?_); (first | refine .hs rfl (by first | rfl | simp) (by first | rfl | (simp; done) | (simp [Go.AM.take_map]; done) | exact Go.AM.take_map.symm) ?_ | refine .c .refl ?_ | refine .c (Cle.nl (es := 6)) ?_); (first | refine .hs rfl (by first | rfl | simp) (by first | rfl | (simp; done) | (simp [Go.AM.take_map]; done) | exact Go.AM.take_map.symm) ?_ | refine .c .refl ?_ | refine .c (Cle.nl (es := 33)) ?_); exact .nil)) | exact .pa (by first | exact .of_pure | ((first | refine .hs rfl (by first | rfl | simp) (by first | rfl | (simp; done) | (simp [Go.AM.take_map]; done) | exact Go.AM.take_map.symm) ?_ | refine .c .refl ?_ | refine .c (Cle.nl (es := 5)) ?_); (first | refine .hs rfl (by first | rfl | simp) (by first | rfl | (simp; done) | (simp [Go.AM.take_map]; done) | exact Go.AM.take_map.symm) ?_ | refine .c .refl ?_ | refine .c (Cle.nl (es := 6)) ?_); (first | refine .hs rfl (by first | rfl | simp) (by first | rfl | (simp; done) | (simp [Go.AM.take_map]; done) | exact Go.AM.take_map.symm) ?_ | refine .c .refl ?_ | refine .c (Cle.nl (es := 6)) ?_); (first | refine .hs rfl (by first | rfl | simp) (by first | rfl | (simp; done) | (simp [Go.AM.take_map]; done) | exact Go.AM.take_map.symm) ?_ | refine .c .refl ?_ | refine .c (Cle.nl (es := 33)) ?_); exact .nil))) (.cons rfl .refl (.nil))) (by repeat (first | exact trivial | refine ⟨rfl, ?_⟩)) (by repeat (first | exact trivial | refine ⟨.inr rfl, ?_⟩ | refine ⟨.inl (by decide), ?_⟩)) rfl)) ?_
  refine k_ (g_ rfl rfl (r_move rfl rfl (lt_ rfl) rfl)) ?_
  refine k_ (g_ rfl rfl (r_extract rfl rfl (lt_ rfl) rfl rfl)) ?_
  refine k_ (g_ rfl rfl (r_extract rfl rfl (lt_ rfl) rfl rfl)) ?_
  refine k_ (g_ rfl rfl (r_alloc 5 tok rfl rfl (lt_ rfl) t66 rfl)) ?_
  refine k_ (g_ rfl rfl (by first | exact r_store tok rfl rfl t66 rfl rfl rfl rfl rfl rfl | exact r_store_ep tok rfl rfl t66 rfl rfl rfl rfl rfl (by first | rfl | simp) (by first | assumption | rfl) rfl (le_ rfl))) ?_
  refine k_ (g_ rfl rfl (r_assign rfl rfl (lt_ rfl) rfl)) ?_
  refine z_ rfl (by kernel_rfl) ?_
  refine awp_seq ?_
  refine awp_seq ?_
  refine awp_rg mixed ?_
  refine k_ (g_ rfl rfl (r_assign rfl rfl (lt_ rfl) rfl)) ?_
  refine z_ rfl (by kernel_rfl) ?_
  refine awp_block ?_   -- block 0
  refine awp_loop (fun i : Nat => mk [(2, .one (.vp 2 0)), (3, .one (.vp 3 0)), (5, .one (.vp 5 0)), (7, I .i64 i)] [(2, .var 28 ((encProg p).map R.c)), (3, .var 50 ((encInst x).map R.c)), (5, .var 66 ((encCls ((cls p x.cls).getD zCls)).map R.c))]) (fun i => i ≤ (supersOf p x.cls).length ∧ ∀ y ∈ (supersOf p x.cls).take i, (inst p y x.con).isNone = false) (fun i => (supersOf p x.cls).length - i) 0 ⟨Nat.zero_le _, by simp⟩ (.list (fun i => i) ⟨rfl, rfl, rfl, rfl, trivial⟩ ⟨⟨_, rfl, .var rfl⟩, ⟨_, rfl, .var rfl⟩, ⟨_, rfl, .var rfl⟩, trivial⟩ rfl) ?_
  intro i ⟨hk, hm⟩
  refine awp_seq ?_
  refine awp_seq ?_
  refine awp_rg mixed ?_
  refine k_ (g_ rfl rfl (r_move rfl rfl (lt_ rfl) rfl)) ?_
  refine k_ (g_ rfl rfl (by first | exact r_field_vp tok rfl rfl (lt_ rfl) t66 rfl rfl t40 (nz_ rfl) rfl | exact r_field_pt tok rfl rfl (lt_ rfl) t66 rfl rfl t40 (nz_ rfl) rfl | exact r_field_ep tok rfl rfl (lt_ rfl) t66 rfl rfl t40 (nz_ rfl) rfl rfl (by first | rfl | simp))) ?_
  refine k_ (g_ rfl rfl (by first | exact r_load tok rfl rfl (lt_ rfl) t40 rfl rfl rfl rfl | exact r_load_pt tok rfl rfl (lt_ rfl) t40 rfl (le_ rfl) rfl | exact r_load_ep tok rfl rfl (lt_ rfl) t40 rfl rfl (by first | rfl | simp) (by first | assumption | rfl) (le_ rfl) rfl)) ?_
  refine k_ (g_ rfl rfl (by first | exact r_len_sl tok rfl rfl (lt_ rfl) t40 rfl rfl | exact r_len_hs tok rfl rfl (lt_ rfl) t40 rfl rfl rfl (by first | rfl | simp) | exact r_len_nl tok rfl rfl (lt_ rfl) t40 rfl rfl | exact r_len_str tok rfl rfl (lt_ rfl) t40 rfl rfl)) ?_
  refine k_ (g_ rfl rfl (r_lss rfl rfl (lt_ rfl) rfl rfl)) ?_
  refine z_ rfl (by kernel_rfl) ?_
  refine awp_cond rfl (fun hb => ?_) (fun hb => ?_)
  · refine awp_skip ?_
    have hlt : i < (supersOf p x.cls).length := by simpa [supersOf] using hb
    obtain ⟨y, hy⟩ := get_of_lt hlt
    have hy' : (((cls p x.cls).getD zCls).supers.map encS)[i]? = some (encS y) := getEnc encS hy
    refine awp_seq ?_
    refine awp_block ?_   -- block 1
    refine awp_seq ?_
    refine awp_rg mixed ?_
    refine k_ (g_ rfl rfl (by first | exact r_load tok rfl rfl (lt_ rfl) t28 rfl rfl rfl rfl | exact r_load_pt tok rfl rfl (lt_ rfl) t28 rfl (le_ rfl) rfl | exact r_load_ep tok rfl rfl (lt_ rfl) t28 rfl rfl (by first | rfl | simp) (by first | assumption | rfl) (le_ rfl) rfl)) ?_
    refine k_ (g_ rfl rfl (by first | exact r_field_vp tok rfl rfl (lt_ rfl) t66 rfl rfl t40 (nz_ rfl) rfl | exact r_field_pt tok rfl rfl (lt_ rfl) t66 rfl rfl t40 (nz_ rfl) rfl | exact r_field_ep tok rfl rfl (lt_ rfl) t66 rfl rfl t40 (nz_ rfl) rfl rfl (by first | rfl | simp))) ?_
    refine k_ (g_ rfl rfl (by first | exact r_load tok rfl rfl (lt_ rfl) t40 rfl rfl rfl rfl | exact r_load_pt tok rfl rfl (lt_ rfl) t40 rfl (le_ rfl) rfl | exact r_load_ep tok rfl rfl (lt_ rfl) t40 rfl rfl (by first | rfl | simp) (by first | assumption | rfl) (le_ rfl) rfl)) ?_
    refine k_ (g_ rfl rfl (r_move rfl rfl (lt_ rfl) rfl)) ?_
    refine k_ (g_ rfl rfl (by first | exact r_index tok rfl rfl (lt_ rfl) t40 rfl t9 rfl rfl rfl rfl (by first | assumption | rfl) | exact r_index_hs tok rfl rfl (lt_ rfl) t40 rfl t9 rfl rfl rfl (by first | rfl | simp) rfl rfl (by first | decide | omega | (simp; done) | (simp; omega)))) ?_
    refine k_ (g_ rfl rfl (by first | exact r_load tok rfl rfl (lt_ rfl) t9 rfl rfl rfl rfl | exact r_load_pt tok rfl rfl (lt_ rfl) t9 rfl (le_ rfl) rfl | exact r_load_ep tok rfl rfl (lt_ rfl) t9 rfl rfl (by first | rfl | simp) (by first | assumption | rfl) (le_ rfl) rfl)) ?_
    refine k_ (g_ rfl rfl (by first | exact r_field_vp tok rfl rfl (lt_ rfl) t50 rfl rfl t9 (nz_ rfl) rfl | exact r_field_pt tok rfl rfl (lt_ rfl) t50 rfl rfl t9 (nz_ rfl) rfl | exact r_field_ep tok rfl rfl (lt_ rfl) t50 rfl rfl t9 (nz_ rfl) rfl rfl (by first | rfl | simp))) ?_
    refine k_ (g_ rfl rfl (by first | exact r_load tok rfl rfl (lt_ rfl) t9 rfl rfl rfl rfl | exact r_load_pt tok rfl rfl (lt_ rfl) t9 rfl (le_ rfl) rfl | exact r_load_ep tok rfl rfl (lt_ rfl) t9 rfl rfl (by first | rfl | simp) (by first | assumption | rfl) (le_ rfl) rfl)) ?_
    refine k_ (g_ rfl rfl (by exact r_call [] [] b24 rfl rfl (lt_ rfl) (c24 p y x.con hi) (.cons rfl (by first | exact .refl | exact .agg (by first | exact .of_pure | ((first | refine .hs rfl (by first | rfl | simp) (by first | rfl | (simp; done) | (simp [Go.AM.take_map]; done) | exact Go.AM.take_map.symm) ?_ | refine .c .refl ?_ | refine .c (Cle.nl (es := 5)) ?_); (first | refine .hs rfl (by first | rfl | simp) (by first | rfl | (simp; done) | (simp [Go.AM.take_map]; done) | exact Go.AM.take_map.symm) ?_ | refine .c .refl ?_ | refine .c (Cle.nl (es := 6)) ?_); (first | refine .hs rfl (by first | rfl | simp) (by first | rfl | (simp; done) | (simp [Go.AM.take_map]; done) | exact Go.AM.take_map.symm) ?_ | refine .c .refl ?_ | refine .c (Cle.nl (es := 6)) ?_); (first | refine .hs rfl (by first | rfl | simp) (by first | rfl | (simp; done) | (simp [Go.AM.take_map]; done) | exact Go.AM.take_map.symm) ?_ | refine .c .refl ?_ | refine .c (Cle.nl (es := 33)) ?_); exact .nil)) | exact .pa (by first | exact .of_pure | ((first | refine .hs rfl (by first | rfl | simp) (by first | rfl | (simp; done) | (simp [Go.AM.take_map]; done) | exact Go.AM.take_map.symm) ?_ | refine .c .refl ?_ | refine .c (Cle.nl (es := 5)) ?_); (first | refine .hs rfl (by first | rfl | simp) (by first | rfl | (simp; done) | (simp [Go.AM.take_map]; done) | exact Go.AM.take_map.symm) ?_ | refine .c .refl ?_ | refine .c (Cle.nl (es := 6)) ?_); (first | refine .hs rfl (by first | rfl | simp) (by first | rfl | (simp; done) | (simp [Go.AM.take_map]; done) | exact Go.AM.take_map.symm) ?_ | refine .c .refl ?_ | refine .c (Cle.nl (es := 6)) ?_); (first | refine .hs rfl (by first | rfl | simp) (by first | rfl | (simp; done) | (simp [Go.AM.take_map]; done) | exact Go.AM.take_map.symm) ?_ | refine .c .refl ?_ | refine .c (Cle.nl (es := 33)) ?_); exact .nil))) (.cons rfl .refl (.cons rfl .refl (.nil)))) (by repeat (first | exact trivial | refine ⟨rfl, ?_⟩)) (by repeat (first | exact trivial | refine ⟨.inr rfl, ?_⟩ | refine ⟨.inl (by decide), ?_⟩)) rfl)) ?_
    refine k_ (g_ rfl rfl (r_move rfl rfl (lt_ rfl) rfl)) ?_
    refine k_ (g_ rfl rfl (r_extract rfl rfl (lt_ rfl) rfl rfl)) ?_
    refine k_ (g_ rfl rfl (r_extract rfl rfl (lt_ rfl) rfl rfl)) ?_
    refine k_ (g_ rfl rfl (r_assign rfl rfl (lt_ rfl) rfl)) ?_
    refine k_ (g_ rfl rfl (r_assign rfl rfl (lt_ rfl) rfl)) ?_
    refine z_ rfl (by kernel_rfl) ?_
    refine awp_seq ?_
    refine awp_rg mixed ?_
    refine k_ (g_ rfl rfl (r_move rfl rfl (lt_ rfl) rfl)) ?_
    refine k_ (g_ rfl rfl (r_not rfl rfl (lt_ rfl) rfl)) ?_
    refine z_ rfl (by kernel_rfl) ?_
    refine awp_cond rfl (fun hb => ?_) (fun hb => ?_)
    · refine awp_seq ?_
      refine awp_rg mixed ?_
      refine k_ (g_ rfl rfl (r_assign rfl rfl (lt_ rfl) rfl)) ?_
      refine z_ rfl (by kernel_rfl) ?_
      refine awp_ret ?_
      have h : (inst p y x.con).isNone = true := by simpa using hb
      rw [show bare p x = true from any_take hy h]
      exact ⟨.inr rfl, ⟨_, _, .tmp rfl .nil, .cons .refl .nil, rfl⟩, trivial, rfl⟩
    · refine awp_skip ?_
      refine awp_rg mixed ?_
      refine k_ (g_ rfl rfl (r_move rfl rfl (lt_ rfl) rfl)) ?_
      refine k_ (g_ rfl rfl (by exact r_addI rfl rfl (lt_ rfl) rfl rfl (by first | omega | (simp only [List.length_map]; omega)))) ?_
      refine k_ (g_ rfl rfl (r_assign rfl rfl (lt_ rfl) rfl)) ?_
      refine z_ rfl (by kernel_rfl) ?_
      have h : (inst p y x.con).isNone = false := by simpa using hb
      exact ⟨i + 1, ⟨hlt, take_step (p := fun y => (inst p y x.con).isNone) hy hm h⟩, by dsimp only; omega, .list (fun i => i) ⟨rfl, rfl, rfl, rfl, trivial⟩ ⟨⟨_, rfl, .var rfl⟩, ⟨_, rfl, .var rfl⟩, ⟨_, rfl, .var rfl⟩, trivial⟩ rfl⟩
  · refine awp_exit ?_   -- 0
    have hge : i = (supersOf p x.cls).length := by
      have : ¬ i < (supersOf p x.cls).length := by simpa [supersOf] using hb
      omega
    refine awp_seq ?_
    refine awp_rg mixed ?_
    refine k_ (g_ rfl rfl (r_assign rfl rfl (lt_ rfl) rfl)) ?_
    refine z_ rfl (by kernel_rfl) ?_
    refine awp_ret ?_
    rw [hge] at hm
    rw [show bare p x = false from any_none_take (p := fun s => (inst p s x.con).isNone) hm]
    exact ⟨.inr rfl, ⟨_, _, .tmp rfl .nil, .cons .refl .nil, rfl⟩, trivial, rfl⟩

def In64 (m : Int) : Prop := -9223372036854775808 ≤ m ∧ m ≤ 9223372036854775807
def encI (m : Int) : List C := [.int .i64 m]
def pick (l : List Int) (k : Nat) : Int := match l[k]? with | none => 0 | some x => if x < 0 then -(x + 1) else x
theorem c30 (l : List Int) (k : Nat) (hr : ∀ x ∈ l, In64 x) : ImpC Try.prog 30 [.one (.c (.sl 1 (l.map encI))), I .i64 k] [] (I .i64 (pick l k)) [] := by
  refine impC (n := 24) tok Try.func30 rfl rfl rfl ?_
  refine awp_seq ?_
  refine awp_rg mixed ?_
  refine k_ (g_ rfl rfl (r_assign rfl rfl (lt_ rfl) rfl)) ?_
  refine z_ rfl (by kernel_rfl) ?_
  refine awp_seq ?_
  refine awp_seq ?_
  refine awp_rg mixed ?_
  refine k_ (g_ rfl rfl (r_move rfl rfl (lt_ rfl) rfl)) ?_
  refine k_ (g_ rfl rfl (r_move rfl rfl (lt_ rfl) rfl)) ?_
  refine k_ (g_ rfl rfl (by first | exact r_len_sl tok rfl rfl (lt_ rfl) t22 rfl rfl | exact r_len_hs tok rfl rfl (lt_ rfl) t22 rfl rfl rfl (by first | rfl | simp) | exact r_len_nl tok rfl rfl (lt_ rfl) t22 rfl rfl | exact r_len_str tok rfl rfl (lt_ rfl) t22 rfl rfl)) ?_
  refine k_ (g_ rfl rfl (r_geq rfl rfl (lt_ rfl) rfl rfl)) ?_
  refine z_ rfl (by kernel_rfl) ?_
  refine awp_cond rfl (fun hb => ?_) (fun hb => ?_)
  · refine awp_seq ?_
    refine awp_rg mixed ?_
    refine k_ (g_ rfl rfl (r_assign rfl rfl (lt_ rfl) rfl)) ?_
    refine z_ rfl (by kernel_rfl) ?_
    refine awp_ret ?_
    have h : l.length ≤ k := by simpa using hb
    rw [show pick l k = 0 by simp [pick, List.getElem?_eq_none h]]
    exact ⟨.inr rfl, ⟨_, _, .tmp rfl .nil, .cons .refl .nil, rfl⟩, trivial, rfl⟩
  · refine awp_skip ?_
    have h : k < l.length := by
      have : ¬ l.length ≤ k := by simpa using hb
      omega
    obtain ⟨x, hx⟩ := get_of_lt h
    have hx' := getEnc encI hx
    obtain ⟨r1, r2⟩ := hr x (List.mem_of_getElem? hx)
    refine awp_seq ?_
    refine awp_seq ?_
    refine awp_rg mixed ?_
    refine k_ (g_ rfl rfl (r_move rfl rfl (lt_ rfl) rfl)) ?_
    refine k_ (g_ rfl rfl (r_move rfl rfl (lt_ rfl) rfl)) ?_
    refine k_ (g_ rfl rfl (by first | exact r_index tok rfl rfl (lt_ rfl) t22 rfl t3 rfl rfl rfl rfl (by first | assumption | rfl) | exact r_index_hs tok rfl rfl (lt_ rfl) t22 rfl t3 rfl rfl rfl (by first | rfl | simp) rfl rfl (by first | decide | omega | (simp; done) | (simp; omega)))) ?_
    refine k_ (g_ rfl rfl (by first | exact r_load tok rfl rfl (lt_ rfl) t3 rfl rfl rfl rfl | exact r_load_pt tok rfl rfl (lt_ rfl) t3 rfl (le_ rfl) rfl | exact r_load_ep tok rfl rfl (lt_ rfl) t3 rfl rfl (by first | rfl | simp) (by first | assumption | rfl) (le_ rfl) rfl)) ?_
    refine k_ (g_ rfl rfl (r_lss rfl rfl (lt_ rfl) rfl rfl)) ?_
    refine z_ rfl (by kernel_rfl) ?_
    refine awp_cond rfl (fun hb => ?_) (fun hb => ?_)
    · refine awp_seq ?_
      have hlt : x < 0 := by simpa using hb
      refine awp_rg mixed ?_
      refine k_ (g_ rfl rfl (r_move rfl rfl (lt_ rfl) rfl)) ?_
      refine k_ (g_ rfl rfl (r_move rfl rfl (lt_ rfl) rfl)) ?_
      refine k_ (g_ rfl rfl (by first | exact r_index tok rfl rfl (lt_ rfl) t22 rfl t3 rfl rfl rfl rfl (by first | assumption | rfl) | exact r_index_hs tok rfl rfl (lt_ rfl) t22 rfl t3 rfl rfl rfl (by first | rfl | simp) rfl rfl (by first | decide | omega | (simp; done) | (simp; omega)))) ?_
      refine k_ (g_ rfl rfl (by first | exact r_load tok rfl rfl (lt_ rfl) t3 rfl rfl rfl rfl | exact r_load_pt tok rfl rfl (lt_ rfl) t3 rfl (le_ rfl) rfl | exact r_load_ep tok rfl rfl (lt_ rfl) t3 rfl rfl (by first | rfl | simp) (by first | assumption | rfl) (le_ rfl) rfl)) ?_
      refine k_ (g_ rfl rfl (by exact r_addI rfl rfl (lt_ rfl) rfl rfl (by first | omega | (simp only [List.length_map]; omega)))) ?_
      refine k_ (g_ rfl rfl (by exact r_neg (r := -(x + 1)) rfl rfl (lt_ rfl) rfl (by rw [Int.zero_sub]; exact IntWalk.i64_in _ (by omega)))) ?_
      refine k_ (g_ rfl rfl (r_assign rfl rfl (lt_ rfl) rfl)) ?_
      refine z_ rfl (by kernel_rfl) ?_
      refine awp_ret ?_
      rw [show pick l k = -(x + 1) by simp [pick, hx, hlt]]
      exact ⟨.inr rfl, ⟨_, _, .tmp rfl .nil, .cons .refl .nil, rfl⟩, trivial, rfl⟩
    · refine awp_skip ?_
      refine awp_seq ?_
      have hlt : ¬ x < 0 := by simpa using hb
      refine awp_rg mixed ?_
      refine k_ (g_ rfl rfl (r_move rfl rfl (lt_ rfl) rfl)) ?_
      refine k_ (g_ rfl rfl (r_move rfl rfl (lt_ rfl) rfl)) ?_
      refine k_ (g_ rfl rfl (by first | exact r_index tok rfl rfl (lt_ rfl) t22 rfl t3 rfl rfl rfl rfl (by first | assumption | rfl) | exact r_index_hs tok rfl rfl (lt_ rfl) t22 rfl t3 rfl rfl rfl (by first | rfl | simp) rfl rfl (by first | decide | omega | (simp; done) | (simp; omega)))) ?_
      refine k_ (g_ rfl rfl (by first | exact r_load tok rfl rfl (lt_ rfl) t3 rfl rfl rfl rfl | exact r_load_pt tok rfl rfl (lt_ rfl) t3 rfl (le_ rfl) rfl | exact r_load_ep tok rfl rfl (lt_ rfl) t3 rfl rfl (by first | rfl | simp) (by first | assumption | rfl) (le_ rfl) rfl)) ?_
      refine k_ (g_ rfl rfl (r_assign rfl rfl (lt_ rfl) rfl)) ?_
      refine z_ rfl (by kernel_rfl) ?_
      refine awp_ret ?_
      rw [show pick l k = x by simp [pick, hx, hlt]]
      exact ⟨.inr rfl, ⟨_, _, .tmp rfl .nil, .cons .refl .nil, rfl⟩, trivial, rfl⟩

def modn (a m : Int) : Int := if a.tmod m < 0 then a.tmod m + m else a.tmod m
theorem c14 (a m : Int) (hm : 1 ≤ m) (hm2 : m ≤ 1000000) : ImpC Try.prog 14 [I .i64 a, I .i64 m] [] (I .i64 (modn a m)) [] := by
  have hr1 : -m < a.tmod m := by
    have := Int.lt_tmod_of_pos a (show (0 : Int) < m by omega)
    exact this
  have hr2 : a.tmod m < m := Int.tmod_lt_of_pos a (by omega)
  refine impC (n := 15) tok Try.func14 rfl rfl rfl ?_
  refine awp_seq ?_
  refine awp_rg mixed ?_
  refine k_ (g_ rfl rfl (r_assign rfl rfl (lt_ rfl) rfl)) ?_
  refine z_ rfl (by kernel_rfl) ?_
  refine awp_seq ?_
  refine awp_rg mixed ?_
  refine k_ (g_ rfl rfl (r_move rfl rfl (lt_ rfl) rfl)) ?_
  refine k_ (g_ rfl rfl (r_move rfl rfl (lt_ rfl) rfl)) ?_
  refine k_ (g_ rfl rfl (by exact r_rem rfl rfl (lt_ rfl) rfl rfl (by omega) rfl)) ?_
  refine k_ (g_ rfl rfl (r_assign rfl rfl (lt_ rfl) rfl)) ?_
  refine z_ rfl (by kernel_rfl) ?_
  refine awp_seq ?_
  refine awp_seq ?_
  refine awp_rg mixed ?_
  refine k_ (g_ rfl rfl (r_move rfl rfl (lt_ rfl) rfl)) ?_
  refine k_ (g_ rfl rfl (r_lss rfl rfl (lt_ rfl) rfl rfl)) ?_
  refine z_ rfl (by kernel_rfl) ?_
  refine awp_cond rfl (fun hb => ?_) (fun hb => ?_)
  · refine awp_seq ?_
    refine awp_rg mixed ?_
    refine k_ (g_ rfl rfl (r_move rfl rfl (lt_ rfl) rfl)) ?_
    refine k_ (g_ rfl rfl (r_move rfl rfl (lt_ rfl) rfl)) ?_
    refine k_ (g_ rfl rfl (by exact r_addI rfl rfl (lt_ rfl) rfl rfl (by first | omega | (simp only [List.length_map]; omega)))) ?_
    refine k_ (g_ rfl rfl (r_assign rfl rfl (lt_ rfl) rfl)) ?_
    refine z_ rfl (by kernel_rfl) ?_
    refine awp_ret ?_
    have h : a.tmod m < 0 := by simpa using hb
    rw [show modn a m = a.tmod m + m by simp [modn, h]]
    exact ⟨.inr rfl, ⟨_, _, .tmp rfl .nil, .cons .refl .nil, rfl⟩, trivial, rfl⟩
  · refine awp_skip ?_
    refine awp_seq ?_
    refine awp_rg mixed ?_
    refine k_ (g_ rfl rfl (r_move rfl rfl (lt_ rfl) rfl)) ?_
    refine k_ (g_ rfl rfl (r_assign rfl rfl (lt_ rfl) rfl)) ?_
    refine z_ rfl (by kernel_rfl) ?_
    refine awp_ret ?_
    have h : ¬ a.tmod m < 0 := by simpa using hb
    rw [show modn a m = a.tmod m by simp [modn, h]]
    exact ⟨.inr rfl, ⟨_, _, .tmp rfl .nil, .cons .refl .nil, rfl⟩, trivial, rfl⟩

def namesL : List Str := [[65], [66], [67], [68], [69]]
def consL : List Str := [[73, 110, 116], [66, 111, 111, 108], [76]]
end Go.Proofs.Ythfeeaifddppoaa
