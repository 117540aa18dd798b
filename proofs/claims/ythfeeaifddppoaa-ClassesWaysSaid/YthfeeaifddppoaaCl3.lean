/-
  THE REFERENCE's FUNCTIONS (fugueref11), more: Names, Ints, Texts, Method.
-/
import Derived.Test.YthfeeaifddppoaaCl2
namespace Go.Proofs.Ythfeeaifddppoaa
open Go Go.AM
set_option maxRecDepth 20000

theorem b21 : bodied Try.prog 21 := ⟨Try.f21, Try.func21, by decide, rfl⟩
theorem b22 : bodied Try.prog 22 := ⟨Try.f22, Try.func22, by decide, rfl⟩
theorem b28 : bodied Try.prog 28 := ⟨Try.f28, Try.func28, by decide, rfl⟩

theorem c13 : ImpC Try.prog 13 [] [] (.tup [.one (.c (.sl 1 (namesL.map encS))), .one (.c (.sl 1 (consL.map encS)))]) [] := by
  refine impC (n := 4) tok Try.func13 rfl rfl rfl ?_
  refine awp_seq ?_
  refine awp_rg mixed ?_
  refine k_ (g_ rfl rfl (r_assign rfl rfl (lt_ rfl) rfl)) ?_
  refine k_ (g_ rfl rfl (r_assign rfl rfl (lt_ rfl) rfl)) ?_
  refine z_ rfl (by kernel_rfl) ?_
  refine awp_seq ?_
  refine awp_rg mixed ?_
  refine k_ (g_ rfl rfl (r_slice 2 tok rfl rfl (lt_ rfl) t40 rfl t9 (.cons (v := Go.AM.T [65]) (cs := [.str [65]]) rfl rfl (.c .refl .nil) rfl (.cons (v := Go.AM.T [66]) (cs := [.str [66]]) rfl rfl (.c .refl .nil) rfl (.cons (v := Go.AM.T [67]) (cs := [.str [67]]) rfl rfl (.c .refl .nil) rfl (.cons (v := Go.AM.T [68]) (cs := [.str [68]]) rfl rfl (.c .refl .nil) rfl (.cons (v := Go.AM.T [69]) (cs := [.str [69]]) rfl rfl (.c .refl .nil) rfl (.nil)))))) rfl rfl rfl rfl)) ?_
  refine k_ (g_ rfl rfl (r_slice 3 tok rfl rfl (lt_ rfl) t40 rfl t9 (.cons (v := Go.AM.T [73, 110, 116]) (cs := [.str [73, 110, 116]]) rfl rfl (.c .refl .nil) rfl (.cons (v := Go.AM.T [66, 111, 111, 108]) (cs := [.str [66, 111, 111, 108]]) rfl rfl (.c .refl .nil) rfl (.cons (v := Go.AM.T [76]) (cs := [.str [76]]) rfl rfl (.c .refl .nil) rfl (.nil)))) rfl rfl rfl rfl)) ?_
  refine k_ (g_ rfl rfl (r_assign rfl rfl (lt_ rfl) rfl)) ?_
  refine k_ (g_ rfl rfl (r_assign rfl rfl (lt_ rfl) rfl)) ?_
  refine z_ rfl (by kernel_rfl) ?_
  refine AWp.sub (Sub.freeze (id := 2) rfl) (AWp.sub (Sub.freeze (id := 3) rfl) ?_)
  refine awp_ret ?_
  refine ⟨.inr rfl, ⟨_, _, .tmp rfl (.tmp rfl .nil), .cons (.one (.hs rfl rfl rfl .nil)) (.cons (.one (.hs rfl rfl rfl .nil)) .nil), rfl⟩, trivial, rfl⟩

theorem list_ext_len {α : Type} {a b : List α} (h : a.length = b.length) (hk : a.take a.length = b.take a.length) : a = b := by
  rw [List.take_length, h, List.take_length] at hk
  exact hk
theorem take_ne {α : Type} {a b : List α} {k : Nat} {x y : α} (hx : a[k]? = some x) (hy : b[k]? = some y) (h : x ≠ y) : a ≠ b := by
  rintro rfl
  rw [hx] at hy
  exact h (by cases hy; rfl)
theorem take_eq_step {α : Type} {a b : List α} {k : Nat} {x y : α} (hx : a[k]? = some x) (hy : b[k]? = some y) (h : x = y) (hm : a.take k = b.take k) : a.take (k + 1) = b.take (k + 1) := by
  rw [List.take_add_one, List.take_add_one, hm, hx, hy, h]

theorem c21 (a b : List Int) (ha : Fits a) (hb : Fits b) : ImpC Try.prog 21 [.one (.c (.sl 1 (a.map encI))), .one (.c (.sl 1 (b.map encI)))] [] (B (decide (a = b))) [] := by
  unfold Fits at ha hb
  refine impC (n := 26) tok Try.func21 rfl rfl rfl ?_
  refine awp_seq ?_
  refine awp_rg mixed ?_
  refine k_ (g_ rfl rfl (r_assign rfl rfl (lt_ rfl) rfl)) ?_
  refine z_ rfl (by kernel_rfl) ?_
  refine awp_seq ?_
  refine awp_seq ?_
  refine awp_rg mixed ?_
  refine k_ (g_ rfl rfl (r_move rfl rfl (lt_ rfl) rfl)) ?_
  refine k_ (g_ rfl rfl (by first | exact r_len_sl tok rfl rfl (lt_ rfl) t22 rfl rfl | exact r_len_hs tok rfl rfl (lt_ rfl) t22 rfl rfl rfl (by first | rfl | simp) | exact r_len_nl tok rfl rfl (lt_ rfl) t22 rfl rfl | exact r_len_str tok rfl rfl (lt_ rfl) t22 rfl rfl)) ?_
  refine k_ (g_ rfl rfl (r_move rfl rfl (lt_ rfl) rfl)) ?_
  refine k_ (g_ rfl rfl (by first | exact r_len_sl tok rfl rfl (lt_ rfl) t22 rfl rfl | exact r_len_hs tok rfl rfl (lt_ rfl) t22 rfl rfl rfl (by first | rfl | simp) | exact r_len_nl tok rfl rfl (lt_ rfl) t22 rfl rfl | exact r_len_str tok rfl rfl (lt_ rfl) t22 rfl rfl)) ?_
  refine k_ (g_ rfl rfl (r_neq rfl rfl (lt_ rfl) rfl rfl)) ?_
  refine z_ rfl (by kernel_rfl) ?_
  refine awp_cond rfl (fun hb => ?_) (fun hb => ?_)
  · refine awp_seq ?_
    refine awp_rg mixed ?_
    refine k_ (g_ rfl rfl (r_assign rfl rfl (lt_ rfl) rfl)) ?_
    refine z_ rfl (by kernel_rfl) ?_
    refine awp_ret ?_
    have h : ¬ a.length = b.length := by
      have := hb
      simp at this
      omega
    rw [show decide (a = b) = false by simp; rintro rfl; exact h rfl]
    exact ⟨.inr rfl, ⟨_, _, .tmp rfl .nil, .cons .refl .nil, rfl⟩, trivial, rfl⟩
  · refine awp_skip ?_
    have hlen : a.length = b.length := by
      have := hb
      simp at this
      omega
    refine awp_seq ?_
    refine awp_seq ?_
    refine awp_rg mixed ?_
    refine k_ (g_ rfl rfl (r_assign rfl rfl (lt_ rfl) rfl)) ?_
    refine z_ rfl (by kernel_rfl) ?_
    refine awp_block ?_   -- block 0
    refine awp_loop (fun k : Nat => mk [(0, .one (.c (.sl 1 (a.map encI)))), (1, .one (.c (.sl 1 (b.map encI)))), (5, I .i64 k)] []) (fun k => k ≤ a.length ∧ a.take k = b.take k) (fun k => a.length - k) 0 ⟨Nat.zero_le _, by simp⟩ (.list (fun i => i) ⟨rfl, rfl, rfl, trivial⟩ trivial rfl) ?_
    intro k ⟨hk, hm⟩
    refine awp_seq ?_
    refine awp_seq ?_
    refine awp_rg mixed ?_
    refine k_ (g_ rfl rfl (r_move rfl rfl (lt_ rfl) rfl)) ?_
    refine k_ (g_ rfl rfl (r_move rfl rfl (lt_ rfl) rfl)) ?_
    refine k_ (g_ rfl rfl (by first | exact r_len_sl tok rfl rfl (lt_ rfl) t22 rfl rfl | exact r_len_hs tok rfl rfl (lt_ rfl) t22 rfl rfl rfl (by first | rfl | simp) | exact r_len_nl tok rfl rfl (lt_ rfl) t22 rfl rfl | exact r_len_str tok rfl rfl (lt_ rfl) t22 rfl rfl)) ?_
    refine k_ (g_ rfl rfl (r_lss rfl rfl (lt_ rfl) rfl rfl)) ?_
    refine z_ rfl (by kernel_rfl) ?_
    refine awp_cond rfl (fun hb => ?_) (fun hb => ?_)
    · refine awp_skip ?_
      have hlt : k < a.length := by simpa using hb
      obtain ⟨x, hx⟩ := get_of_lt hlt
      obtain ⟨y, hy⟩ := get_of_lt (l := b) (k := k) (by omega)
      have hx' := getEnc encI hx
      have hy' := getEnc encI hy
      refine awp_seq ?_
      refine awp_block ?_   -- block 1
      refine awp_seq ?_
      refine awp_rg mixed ?_
      refine k_ (g_ rfl rfl (r_move rfl rfl (lt_ rfl) rfl)) ?_
      refine k_ (g_ rfl rfl (r_move rfl rfl (lt_ rfl) rfl)) ?_
      refine k_ (g_ rfl rfl (by first | exact r_index tok rfl rfl (lt_ rfl) t22 rfl t3 rfl rfl rfl rfl (by first | assumption | rfl) | exact r_index_hs tok rfl rfl (lt_ rfl) t22 rfl t3 rfl rfl rfl (by first | rfl | simp) rfl rfl (by first | decide | omega | (simp; done) | (simp; omega)))) ?_
      refine k_ (g_ rfl rfl (by first | exact r_load tok rfl rfl (lt_ rfl) t3 rfl rfl rfl rfl | exact r_load_pt tok rfl rfl (lt_ rfl) t3 rfl (le_ rfl) rfl | exact r_load_ep tok rfl rfl (lt_ rfl) t3 rfl rfl (by first | rfl | simp) (by first | assumption | rfl) (le_ rfl) rfl)) ?_
      refine k_ (g_ rfl rfl (r_move rfl rfl (lt_ rfl) rfl)) ?_
      refine k_ (g_ rfl rfl (r_move rfl rfl (lt_ rfl) rfl)) ?_
      refine k_ (g_ rfl rfl (by first | exact r_index tok rfl rfl (lt_ rfl) t22 rfl t3 rfl rfl rfl rfl (by first | assumption | rfl) | exact r_index_hs tok rfl rfl (lt_ rfl) t22 rfl t3 rfl rfl rfl (by first | rfl | simp) rfl rfl (by first | decide | omega | (simp; done) | (simp; omega)))) ?_
      refine k_ (g_ rfl rfl (by first | exact r_load tok rfl rfl (lt_ rfl) t3 rfl rfl rfl rfl | exact r_load_pt tok rfl rfl (lt_ rfl) t3 rfl (le_ rfl) rfl | exact r_load_ep tok rfl rfl (lt_ rfl) t3 rfl rfl (by first | rfl | simp) (by first | assumption | rfl) (le_ rfl) rfl)) ?_
      refine k_ (g_ rfl rfl (r_neq rfl rfl (lt_ rfl) rfl rfl)) ?_
      refine z_ rfl (by kernel_rfl) ?_
      refine awp_cond rfl (fun hb => ?_) (fun hb => ?_)
      · refine awp_seq ?_
        refine awp_rg mixed ?_
        refine k_ (g_ rfl rfl (r_assign rfl rfl (lt_ rfl) rfl)) ?_
        refine z_ rfl (by kernel_rfl) ?_
        refine awp_ret ?_
        have h : x ≠ y := by simpa using hb
        rw [show decide (a = b) = false by simp [take_ne hx hy h]]
        exact ⟨.inr rfl, ⟨_, _, .tmp rfl .nil, .cons .refl .nil, rfl⟩, trivial, rfl⟩
      · refine awp_skip ?_
        have h : x = y := by simpa using hb
        refine awp_rg mixed ?_
        refine k_ (g_ rfl rfl (r_move rfl rfl (lt_ rfl) rfl)) ?_
        refine k_ (g_ rfl rfl (by exact r_addI rfl rfl (lt_ rfl) rfl rfl (by first | omega | (simp only [List.length_map]; omega)))) ?_
        refine k_ (g_ rfl rfl (r_assign rfl rfl (lt_ rfl) rfl)) ?_
        refine z_ rfl (by kernel_rfl) ?_
        exact ⟨k + 1, ⟨hlt, take_eq_step hx hy h hm⟩, by dsimp only; omega, .list (fun i => i) ⟨rfl, rfl, rfl, trivial⟩ trivial rfl⟩
    · refine awp_exit ?_   -- 0
      have hge : k = a.length := by
        have : ¬ k < a.length := by simpa using hb
        omega
      subst hge
      refine awp_seq ?_
      refine awp_rg mixed ?_
      refine k_ (g_ rfl rfl (r_assign rfl rfl (lt_ rfl) rfl)) ?_
      refine z_ rfl (by kernel_rfl) ?_
      refine awp_ret ?_
      rw [show decide (a = b) = true by simp [list_ext_len hlen hm]]
      exact ⟨.inr rfl, ⟨_, _, .tmp rfl .nil, .cons .refl .nil, rfl⟩, trivial, rfl⟩

theorem c22 (a b : List Str) (ha : Fits a) (hb : Fits b) : ImpC Try.prog 22 [.one (.c (.sl 1 (a.map encS))), .one (.c (.sl 1 (b.map encS)))] [] (B (decide (a = b))) [] := by
  unfold Fits at ha hb
  refine impC (n := 26) tok Try.func22 rfl rfl rfl ?_
  refine awp_seq ?_
  refine awp_rg mixed ?_
  refine k_ (g_ rfl rfl (r_assign rfl rfl (lt_ rfl) rfl)) ?_
  refine z_ rfl (by kernel_rfl) ?_
  refine awp_seq ?_
  refine awp_seq ?_
  refine awp_rg mixed ?_
  refine k_ (g_ rfl rfl (r_move rfl rfl (lt_ rfl) rfl)) ?_
  refine k_ (g_ rfl rfl (by first | exact r_len_sl tok rfl rfl (lt_ rfl) t40 rfl rfl | exact r_len_hs tok rfl rfl (lt_ rfl) t40 rfl rfl rfl (by first | rfl | simp) | exact r_len_nl tok rfl rfl (lt_ rfl) t40 rfl rfl | exact r_len_str tok rfl rfl (lt_ rfl) t40 rfl rfl)) ?_
  refine k_ (g_ rfl rfl (r_move rfl rfl (lt_ rfl) rfl)) ?_
  refine k_ (g_ rfl rfl (by first | exact r_len_sl tok rfl rfl (lt_ rfl) t40 rfl rfl | exact r_len_hs tok rfl rfl (lt_ rfl) t40 rfl rfl rfl (by first | rfl | simp) | exact r_len_nl tok rfl rfl (lt_ rfl) t40 rfl rfl | exact r_len_str tok rfl rfl (lt_ rfl) t40 rfl rfl)) ?_
  refine k_ (g_ rfl rfl (r_neq rfl rfl (lt_ rfl) rfl rfl)) ?_
  refine z_ rfl (by kernel_rfl) ?_
  refine awp_cond rfl (fun hb => ?_) (fun hb => ?_)
  · refine awp_seq ?_
    refine awp_rg mixed ?_
    refine k_ (g_ rfl rfl (r_assign rfl rfl (lt_ rfl) rfl)) ?_
    refine z_ rfl (by kernel_rfl) ?_
    refine awp_ret ?_
    have h : ¬ a.length = b.length := by
      have := hb
      simp at this
      omega
    rw [show decide (a = b) = false by simp; rintro rfl; exact h rfl]
    exact ⟨.inr rfl, ⟨_, _, .tmp rfl .nil, .cons .refl .nil, rfl⟩, trivial, rfl⟩
  · refine awp_skip ?_
    have hlen : a.length = b.length := by
      have := hb
      simp at this
      omega
    refine awp_seq ?_
    refine awp_seq ?_
    refine awp_rg mixed ?_
    refine k_ (g_ rfl rfl (r_assign rfl rfl (lt_ rfl) rfl)) ?_
    refine z_ rfl (by kernel_rfl) ?_
    refine awp_block ?_   -- block 0
    refine awp_loop (fun k : Nat => mk [(0, .one (.c (.sl 1 (a.map encS)))), (1, .one (.c (.sl 1 (b.map encS)))), (5, I .i64 k)] []) (fun k => k ≤ a.length ∧ a.take k = b.take k) (fun k => a.length - k) 0 ⟨Nat.zero_le _, by simp⟩ (.list (fun i => i) ⟨rfl, rfl, rfl, trivial⟩ trivial rfl) ?_
    intro k ⟨hk, hm⟩
    refine awp_seq ?_
    refine awp_seq ?_
    refine awp_rg mixed ?_
    refine k_ (g_ rfl rfl (r_move rfl rfl (lt_ rfl) rfl)) ?_
    refine k_ (g_ rfl rfl (r_move rfl rfl (lt_ rfl) rfl)) ?_
    refine k_ (g_ rfl rfl (by first | exact r_len_sl tok rfl rfl (lt_ rfl) t40 rfl rfl | exact r_len_hs tok rfl rfl (lt_ rfl) t40 rfl rfl rfl (by first | rfl | simp) | exact r_len_nl tok rfl rfl (lt_ rfl) t40 rfl rfl | exact r_len_str tok rfl rfl (lt_ rfl) t40 rfl rfl)) ?_
    refine k_ (g_ rfl rfl (r_lss rfl rfl (lt_ rfl) rfl rfl)) ?_
    refine z_ rfl (by kernel_rfl) ?_
    refine awp_cond rfl (fun hb => ?_) (fun hb => ?_)
    · refine awp_skip ?_
      have hlt : k < a.length := by simpa using hb
      obtain ⟨x, hx⟩ := get_of_lt hlt
      obtain ⟨y, hy⟩ := get_of_lt (l := b) (k := k) (by omega)
      have hx' := getEnc encS hx
      have hy' := getEnc encS hy
      refine awp_seq ?_
      refine awp_block ?_   -- block 1
      refine awp_seq ?_
      refine awp_rg mixed ?_
      refine k_ (g_ rfl rfl (r_move rfl rfl (lt_ rfl) rfl)) ?_
      refine k_ (g_ rfl rfl (r_move rfl rfl (lt_ rfl) rfl)) ?_
      refine k_ (g_ rfl rfl (by first | exact r_index tok rfl rfl (lt_ rfl) t40 rfl t9 rfl rfl rfl rfl (by first | assumption | rfl) | exact r_index_hs tok rfl rfl (lt_ rfl) t40 rfl t9 rfl rfl rfl (by first | rfl | simp) rfl rfl (by first | decide | omega | (simp; done) | (simp; omega)))) ?_
      refine k_ (g_ rfl rfl (by first | exact r_load tok rfl rfl (lt_ rfl) t9 rfl rfl rfl rfl | exact r_load_pt tok rfl rfl (lt_ rfl) t9 rfl (le_ rfl) rfl | exact r_load_ep tok rfl rfl (lt_ rfl) t9 rfl rfl (by first | rfl | simp) (by first | assumption | rfl) (le_ rfl) rfl)) ?_
      refine k_ (g_ rfl rfl (r_move rfl rfl (lt_ rfl) rfl)) ?_
      refine k_ (g_ rfl rfl (r_move rfl rfl (lt_ rfl) rfl)) ?_
      refine k_ (g_ rfl rfl (by first | exact r_index tok rfl rfl (lt_ rfl) t40 rfl t9 rfl rfl rfl rfl (by first | assumption | rfl) | exact r_index_hs tok rfl rfl (lt_ rfl) t40 rfl t9 rfl rfl rfl (by first | rfl | simp) rfl rfl (by first | decide | omega | (simp; done) | (simp; omega)))) ?_
      refine k_ (g_ rfl rfl (by first | exact r_load tok rfl rfl (lt_ rfl) t9 rfl rfl rfl rfl | exact r_load_pt tok rfl rfl (lt_ rfl) t9 rfl (le_ rfl) rfl | exact r_load_ep tok rfl rfl (lt_ rfl) t9 rfl rfl (by first | rfl | simp) (by first | assumption | rfl) (le_ rfl) rfl)) ?_
      refine k_ (g_ rfl rfl (r_sneq rfl rfl (lt_ rfl) rfl rfl)) ?_
      refine z_ rfl (by kernel_rfl) ?_
      refine awp_cond rfl (fun hb => ?_) (fun hb => ?_)
      · refine awp_seq ?_
        refine awp_rg mixed ?_
        refine k_ (g_ rfl rfl (r_assign rfl rfl (lt_ rfl) rfl)) ?_
        refine z_ rfl (by kernel_rfl) ?_
        refine awp_ret ?_
        have h : x ≠ y := by simpa using hb
        rw [show decide (a = b) = false by simp [take_ne hx hy h]]
        exact ⟨.inr rfl, ⟨_, _, .tmp rfl .nil, .cons .refl .nil, rfl⟩, trivial, rfl⟩
      · refine awp_skip ?_
        have h : x = y := by simpa using hb
        refine awp_rg mixed ?_
        refine k_ (g_ rfl rfl (r_move rfl rfl (lt_ rfl) rfl)) ?_
        refine k_ (g_ rfl rfl (by exact r_addI rfl rfl (lt_ rfl) rfl rfl (by first | omega | (simp only [List.length_map]; omega)))) ?_
        refine k_ (g_ rfl rfl (r_assign rfl rfl (lt_ rfl) rfl)) ?_
        refine z_ rfl (by kernel_rfl) ?_
        exact ⟨k + 1, ⟨hlt, take_eq_step hx hy h hm⟩, by dsimp only; omega, .list (fun i => i) ⟨rfl, rfl, rfl, trivial⟩ trivial rfl⟩
    · refine awp_exit ?_   -- 0
      have hge : k = a.length := by
        have : ¬ k < a.length := by simpa using hb
        omega
      subst hge
      refine awp_seq ?_
      refine awp_rg mixed ?_
      refine k_ (g_ rfl rfl (r_assign rfl rfl (lt_ rfl) rfl)) ?_
      refine z_ rfl (by kernel_rfl) ?_
      refine awp_ret ?_
      rw [show decide (a = b) = true by simp [list_ext_len hlen hm]]
      exact ⟨.inr rfl, ⟨_, _, .tmp rfl .nil, .cons .refl .nil, rfl⟩, trivial, rfl⟩


def findM : List Sig → Str → Option Nat := fun l s => l.findIdx? (fun m => m.name == s)
/-- The first class that has a method, and its place there. -/
def method (p : Prog) (s : Str) : Option (Str × Nat) := p.classes.findSome? (fun c => (findM c.methods s).map (fun k => (c.name, k)))
theorem findSome_take {α β : Type} {l : List α} {f : α → Option β} {k : Nat} {x : α} {y : β} (hx : l[k]? = some x) (hn : ∀ y ∈ l.take k, f y = none) (hp : f x = some y) : l.findSome? f = some y := by
  have hlt := (List.getElem?_eq_some_iff.1 hx).1
  rw [← List.take_append_drop k l, List.findSome?_append, List.findSome?_eq_none_iff.2 hn, List.drop_eq_getElem_cons hlt]
  have : l[k] = x := (List.getElem?_eq_some_iff.1 hx).2
  simp [this, hp]
theorem findSome_none_take {α β : Type} {l : List α} {f : α → Option β} (hn : ∀ y ∈ l.take l.length, f y = none) : l.findSome? f = none := by
  rw [List.take_length] at hn
  exact List.findSome?_eq_none_iff.2 hn
theorem take_stepO {α β : Type} {l : List α} {f : α → Option β} {k : Nat} {x : α} (hx : l[k]? = some x) (hn : ∀ y ∈ l.take k, f y = none) (hp : f x = none) : ∀ y ∈ l.take (k + 1), f y = none := by
  intro y hy
  rw [List.take_add_one, hx] at hy
  rcases List.mem_append.1 hy with h | h
  · exact hn y h
  · simp at h; rw [h]; exact hp

theorem c28 (p : Prog) (s : Str) (hl : Fits p.classes) (hm : ∀ c ∈ p.classes, Fits c.methods) : ImpC Try.prog 28 [.pa (encProg p), Go.AM.T s] [] (.tup [Go.AM.T (((method p s).map (·.1)).getD []), I .i64 (((method p s).map (·.2)).getD 0 : Nat), B (method p s).isSome]) [] := by
  unfold Fits at hl
  refine impC (n := 46) tok Try.func28 rfl rfl rfl ?_
  refine awp_seq ?_
  refine awp_rg mixed ?_
  refine k_ (g_ rfl rfl (r_box 2 rfl rfl (lt_ rfl) rfl rfl rfl)) ?_
  refine k_ (g_ rfl rfl (r_assign (y := Go.AM.T []) rfl rfl (lt_ rfl) rfl)) ?_
  refine k_ (g_ rfl rfl (r_assign rfl rfl (lt_ rfl) rfl)) ?_
  refine k_ (g_ rfl rfl (r_assign rfl rfl (lt_ rfl) rfl)) ?_
  refine z_ rfl (by kernel_rfl) ?_
  refine awp_seq ?_
  refine awp_seq ?_
  refine awp_rg mixed ?_
  refine k_ (g_ rfl rfl (r_assign rfl rfl (lt_ rfl) rfl)) ?_
  refine z_ rfl (by kernel_rfl) ?_
  refine awp_block ?_   -- block 0
  refine awp_loop (fun i : Nat => mk [(1, Go.AM.T s), (2, .one (.vp 2 0)), (7, I .i64 i)] [(2, .var 28 ((encProg p).map R.c))]) (fun i => i ≤ p.classes.length ∧ ∀ c ∈ p.classes.take i, (findM c.methods s).map (fun k => (c.name, k)) = none) (fun i => p.classes.length - i) 0 ⟨Nat.zero_le _, by simp⟩ (.list (fun i => i) ⟨rfl, rfl, rfl, trivial⟩ ⟨⟨_, rfl, .var rfl⟩, trivial⟩ rfl) ?_
  intro i ⟨hi, hn⟩
  refine awp_seq ?_
  refine awp_seq ?_
  refine awp_rg mixed ?_
  refine k_ (g_ rfl rfl (r_move rfl rfl (lt_ rfl) rfl)) ?_
  refine k_ (g_ rfl rfl (by first | exact r_field_vp tok rfl rfl (lt_ rfl) t28 rfl rfl t24 (nz_ rfl) rfl | exact r_field_pt tok rfl rfl (lt_ rfl) t28 rfl rfl t24 (nz_ rfl) rfl | exact r_field_ep tok rfl rfl (lt_ rfl) t28 rfl rfl t24 (nz_ rfl) rfl rfl (by first | rfl | simp))) ?_
  refine k_ (g_ rfl rfl (by first | exact r_load tok rfl rfl (lt_ rfl) t24 rfl rfl rfl rfl | exact r_load_pt tok rfl rfl (lt_ rfl) t24 rfl (le_ rfl) rfl | exact r_load_ep tok rfl rfl (lt_ rfl) t24 rfl rfl (by first | rfl | simp) (by first | assumption | rfl) (le_ rfl) rfl)) ?_
  refine k_ (g_ rfl rfl (by first | exact r_len_sl tok rfl rfl (lt_ rfl) t24 rfl rfl | exact r_len_hs tok rfl rfl (lt_ rfl) t24 rfl rfl rfl (by first | rfl | simp) | exact r_len_nl tok rfl rfl (lt_ rfl) t24 rfl rfl | exact r_len_str tok rfl rfl (lt_ rfl) t24 rfl rfl)) ?_
  refine k_ (g_ rfl rfl (r_lss rfl rfl (lt_ rfl) rfl rfl)) ?_
  refine z_ rfl (by kernel_rfl) ?_
  refine awp_cond rfl (fun hb => ?_) (fun hb => ?_)
  · refine awp_skip ?_
    have hlt : i < p.classes.length := by simpa using hb
    obtain ⟨c, hc⟩ := get_of_lt hlt
    have hc' := getEnc encCls hc
    have hcm := hm c (List.mem_of_getElem? hc)
    unfold Fits at hcm
    refine awp_seq ?_
    refine awp_block ?_   -- block 1
    refine awp_seq ?_
    refine awp_rg mixed ?_
    refine k_ (g_ rfl rfl (r_assign rfl rfl (lt_ rfl) rfl)) ?_
    refine z_ rfl (by kernel_rfl) ?_
    refine awp_block ?_   -- block 2
    refine awp_loop (fun k : Nat => mk [(1, Go.AM.T s), (2, .one (.vp 2 0)), (7, I .i64 i), (8, I .i64 k)] [(2, .var 28 ((encProg p).map R.c))]) (fun k => k ≤ c.methods.length ∧ ∀ m ∈ c.methods.take k, (m.name == s) = false) (fun k => c.methods.length - k) 0 ⟨Nat.zero_le _, by simp⟩ (.list (fun i => i) ⟨rfl, rfl, rfl, rfl, trivial⟩ ⟨⟨_, rfl, .var rfl⟩, trivial⟩ rfl) ?_
    intro k ⟨hk, hn2⟩
    refine awp_seq ?_
    refine awp_seq ?_
    refine awp_rg mixed ?_
    refine k_ (g_ rfl rfl (r_move rfl rfl (lt_ rfl) rfl)) ?_
    refine k_ (g_ rfl rfl (by first | exact r_field_vp tok rfl rfl (lt_ rfl) t28 rfl rfl t24 (nz_ rfl) rfl | exact r_field_pt tok rfl rfl (lt_ rfl) t28 rfl rfl t24 (nz_ rfl) rfl | exact r_field_ep tok rfl rfl (lt_ rfl) t28 rfl rfl t24 (nz_ rfl) rfl rfl (by first | rfl | simp))) ?_
    refine k_ (g_ rfl rfl (by first | exact r_load tok rfl rfl (lt_ rfl) t24 rfl rfl rfl rfl | exact r_load_pt tok rfl rfl (lt_ rfl) t24 rfl (le_ rfl) rfl | exact r_load_ep tok rfl rfl (lt_ rfl) t24 rfl rfl (by first | rfl | simp) (by first | assumption | rfl) (le_ rfl) rfl)) ?_
    refine k_ (g_ rfl rfl (r_move rfl rfl (lt_ rfl) rfl)) ?_
    refine k_ (g_ rfl rfl (by first | exact r_index tok rfl rfl (lt_ rfl) t24 rfl t66 rfl rfl rfl rfl (by first | assumption | rfl) | exact r_index_hs tok rfl rfl (lt_ rfl) t24 rfl t66 rfl rfl rfl (by first | rfl | simp) rfl rfl (by first | decide | omega | (simp; done) | (simp; omega)))) ?_
    refine k_ (g_ rfl rfl (by first | exact r_field_vp tok rfl rfl (lt_ rfl) t66 rfl rfl t64 (nz_ rfl) rfl | exact r_field_pt tok rfl rfl (lt_ rfl) t66 rfl rfl t64 (nz_ rfl) rfl | exact r_field_ep tok rfl rfl (lt_ rfl) t66 rfl rfl t64 (nz_ rfl) rfl rfl (by first | rfl | simp))) ?_
    refine k_ (g_ rfl rfl (by first | exact r_load tok rfl rfl (lt_ rfl) t64 rfl rfl rfl rfl | exact r_load_pt tok rfl rfl (lt_ rfl) t64 rfl (le_ rfl) rfl | exact r_load_ep tok rfl rfl (lt_ rfl) t64 rfl rfl (by first | rfl | simp) (by first | assumption | rfl) (le_ rfl) rfl)) ?_
    refine k_ (g_ rfl rfl (by first | exact r_len_sl tok rfl rfl (lt_ rfl) t64 rfl rfl | exact r_len_hs tok rfl rfl (lt_ rfl) t64 rfl rfl rfl (by first | rfl | simp) | exact r_len_nl tok rfl rfl (lt_ rfl) t64 rfl rfl | exact r_len_str tok rfl rfl (lt_ rfl) t64 rfl rfl)) ?_
    refine k_ (g_ rfl rfl (r_lss rfl rfl (lt_ rfl) rfl rfl)) ?_
    refine z_ rfl (by kernel_rfl) ?_
    refine awp_cond rfl (fun hb => ?_) (fun hb => ?_)
    · refine awp_skip ?_
      have hlt2 : k < c.methods.length := by simpa using hb
      obtain ⟨m, hm1⟩ := get_of_lt hlt2
      have hm' := getEnc encSig hm1
      refine awp_seq ?_
      refine awp_block ?_   -- block 3
      refine awp_seq ?_
      refine awp_rg mixed ?_
      refine k_ (g_ rfl rfl (by first | exact r_field_vp tok rfl rfl (lt_ rfl) t28 rfl rfl t24 (nz_ rfl) rfl | exact r_field_pt tok rfl rfl (lt_ rfl) t28 rfl rfl t24 (nz_ rfl) rfl | exact r_field_ep tok rfl rfl (lt_ rfl) t28 rfl rfl t24 (nz_ rfl) rfl rfl (by first | rfl | simp))) ?_
      refine k_ (g_ rfl rfl (by first | exact r_load tok rfl rfl (lt_ rfl) t24 rfl rfl rfl rfl | exact r_load_pt tok rfl rfl (lt_ rfl) t24 rfl (le_ rfl) rfl | exact r_load_ep tok rfl rfl (lt_ rfl) t24 rfl rfl (by first | rfl | simp) (by first | assumption | rfl) (le_ rfl) rfl)) ?_
      refine k_ (g_ rfl rfl (r_move rfl rfl (lt_ rfl) rfl)) ?_
      refine k_ (g_ rfl rfl (by first | exact r_index tok rfl rfl (lt_ rfl) t24 rfl t66 rfl rfl rfl rfl (by first | assumption | rfl) | exact r_index_hs tok rfl rfl (lt_ rfl) t24 rfl t66 rfl rfl rfl (by first | rfl | simp) rfl rfl (by first | decide | omega | (simp; done) | (simp; omega)))) ?_
      refine k_ (g_ rfl rfl (by first | exact r_field_vp tok rfl rfl (lt_ rfl) t66 rfl rfl t64 (nz_ rfl) rfl | exact r_field_pt tok rfl rfl (lt_ rfl) t66 rfl rfl t64 (nz_ rfl) rfl | exact r_field_ep tok rfl rfl (lt_ rfl) t66 rfl rfl t64 (nz_ rfl) rfl rfl (by first | rfl | simp))) ?_
      refine k_ (g_ rfl rfl (by first | exact r_load tok rfl rfl (lt_ rfl) t64 rfl rfl rfl rfl | exact r_load_pt tok rfl rfl (lt_ rfl) t64 rfl (le_ rfl) rfl | exact r_load_ep tok rfl rfl (lt_ rfl) t64 rfl rfl (by first | rfl | simp) (by first | assumption | rfl) (le_ rfl) rfl)) ?_
      refine k_ (g_ rfl rfl (r_move rfl rfl (lt_ rfl) rfl)) ?_
      refine k_ (g_ rfl rfl (by first | exact r_index tok rfl rfl (lt_ rfl) t64 rfl t81 rfl rfl rfl rfl (by first | assumption | rfl) | exact r_index_hs tok rfl rfl (lt_ rfl) t64 rfl t81 rfl rfl rfl (by first | rfl | simp) rfl rfl (by first | decide | omega | (simp; done) | (simp; omega)))) ?_
      refine k_ (g_ rfl rfl (by first | exact r_field_vp tok rfl rfl (lt_ rfl) t81 rfl rfl t9 (nz_ rfl) rfl | exact r_field_pt tok rfl rfl (lt_ rfl) t81 rfl rfl t9 (nz_ rfl) rfl | exact r_field_ep tok rfl rfl (lt_ rfl) t81 rfl rfl t9 (nz_ rfl) rfl rfl (by first | rfl | simp))) ?_
      refine k_ (g_ rfl rfl (by first | exact r_load tok rfl rfl (lt_ rfl) t9 rfl rfl rfl rfl | exact r_load_pt tok rfl rfl (lt_ rfl) t9 rfl (le_ rfl) rfl | exact r_load_ep tok rfl rfl (lt_ rfl) t9 rfl rfl (by first | rfl | simp) (by first | assumption | rfl) (le_ rfl) rfl)) ?_
      refine k_ (g_ rfl rfl (r_move rfl rfl (lt_ rfl) rfl)) ?_
      refine k_ (g_ rfl rfl (r_seql rfl rfl (lt_ rfl) rfl rfl)) ?_
      refine z_ rfl (by kernel_rfl) ?_
      refine awp_cond rfl (fun hb => ?_) (fun hb => ?_)
      · refine awp_seq ?_
        refine awp_rg mixed ?_
        refine k_ (g_ rfl rfl (by first | exact r_field_vp tok rfl rfl (lt_ rfl) t28 rfl rfl t24 (nz_ rfl) rfl | exact r_field_pt tok rfl rfl (lt_ rfl) t28 rfl rfl t24 (nz_ rfl) rfl | exact r_field_ep tok rfl rfl (lt_ rfl) t28 rfl rfl t24 (nz_ rfl) rfl rfl (by first | rfl | simp))) ?_
        refine k_ (g_ rfl rfl (by first | exact r_load tok rfl rfl (lt_ rfl) t24 rfl rfl rfl rfl | exact r_load_pt tok rfl rfl (lt_ rfl) t24 rfl (le_ rfl) rfl | exact r_load_ep tok rfl rfl (lt_ rfl) t24 rfl rfl (by first | rfl | simp) (by first | assumption | rfl) (le_ rfl) rfl)) ?_
        refine k_ (g_ rfl rfl (r_move rfl rfl (lt_ rfl) rfl)) ?_
        refine k_ (g_ rfl rfl (by first | exact r_index tok rfl rfl (lt_ rfl) t24 rfl t66 rfl rfl rfl rfl (by first | assumption | rfl) | exact r_index_hs tok rfl rfl (lt_ rfl) t24 rfl t66 rfl rfl rfl (by first | rfl | simp) rfl rfl (by first | decide | omega | (simp; done) | (simp; omega)))) ?_
        refine k_ (g_ rfl rfl (by first | exact r_field_vp tok rfl rfl (lt_ rfl) t66 rfl rfl t9 (nz_ rfl) rfl | exact r_field_pt tok rfl rfl (lt_ rfl) t66 rfl rfl t9 (nz_ rfl) rfl | exact r_field_ep tok rfl rfl (lt_ rfl) t66 rfl rfl t9 (nz_ rfl) rfl rfl (by first | rfl | simp))) ?_
        refine k_ (g_ rfl rfl (by first | exact r_load tok rfl rfl (lt_ rfl) t9 rfl rfl rfl rfl | exact r_load_pt tok rfl rfl (lt_ rfl) t9 rfl (le_ rfl) rfl | exact r_load_ep tok rfl rfl (lt_ rfl) t9 rfl rfl (by first | rfl | simp) (by first | assumption | rfl) (le_ rfl) rfl)) ?_
        refine k_ (g_ rfl rfl (r_move rfl rfl (lt_ rfl) rfl)) ?_
        refine k_ (g_ rfl rfl (r_assign rfl rfl (lt_ rfl) rfl)) ?_
        refine k_ (g_ rfl rfl (r_assign rfl rfl (lt_ rfl) rfl)) ?_
        refine k_ (g_ rfl rfl (r_assign rfl rfl (lt_ rfl) rfl)) ?_
        refine z_ rfl (by kernel_rfl) ?_
        refine awp_ret ?_
        have h : m.name = s := by simpa using hb
        have h1 : findM c.methods s = some k := findIdx_take hm1 hn2 (by simp [h])
        have h2 : method p s = some (c.name, k) := findSome_take hc hn (by rw [h1]; rfl)
        rw [h2]
        exact ⟨.inr rfl, ⟨_, _, .tmp rfl (.tmp rfl (.tmp rfl .nil)), .cons .refl (.cons .refl (.cons .refl .nil)), rfl⟩, trivial, rfl⟩
      · refine awp_skip ?_
        have h : (m.name == s) = false := by simpa using hb
        refine awp_rg mixed ?_
        refine k_ (g_ rfl rfl (r_move rfl rfl (lt_ rfl) rfl)) ?_
        refine k_ (g_ rfl rfl (by exact r_addI rfl rfl (lt_ rfl) rfl rfl (by first | omega | (simp only [List.length_map]; omega)))) ?_
        refine k_ (g_ rfl rfl (r_assign rfl rfl (lt_ rfl) rfl)) ?_
        refine z_ rfl (by kernel_rfl) ?_
        exact ⟨k + 1, ⟨hlt2, take_step (p := fun m : Sig => m.name == s) hm1 hn2 h⟩, by dsimp only; omega, .list (fun i => i) ⟨rfl, rfl, rfl, rfl, trivial⟩ ⟨⟨_, rfl, .var rfl⟩, trivial⟩ rfl⟩
    · refine awp_exit ?_   -- 2
      have hge : k = c.methods.length := by
        have : ¬ k < c.methods.length := by simpa using hb
        omega
      rw [hge] at hn2
      have h1 : findM c.methods s = none := findIdx_none_take hn2
      refine awp_rg mixed ?_
      refine k_ (g_ rfl rfl (r_move rfl rfl (lt_ rfl) rfl)) ?_
      refine k_ (g_ rfl rfl (by exact r_addI rfl rfl (lt_ rfl) rfl rfl (by first | omega | (simp only [List.length_map]; omega)))) ?_
      refine k_ (g_ rfl rfl (r_assign rfl rfl (lt_ rfl) rfl)) ?_
      refine z_ rfl (by kernel_rfl) ?_
      exact ⟨i + 1, ⟨hlt, take_stepO (f := fun c : Cls => (findM c.methods s).map (fun k => (c.name, k))) hc hn (by rw [h1]; rfl)⟩, by dsimp only; omega, .list (fun i => i) ⟨rfl, rfl, rfl, trivial⟩ ⟨⟨_, rfl, .var rfl⟩, trivial⟩ rfl⟩
  · refine awp_exit ?_   -- 0
    have hge : i = p.classes.length := by
      have : ¬ i < p.classes.length := by simpa using hb
      omega
    refine awp_seq ?_
    refine awp_rg mixed ?_
    refine k_ (g_ rfl rfl (r_assign (y := Go.AM.T []) rfl rfl (lt_ rfl) rfl)) ?_
    refine k_ (g_ rfl rfl (r_assign rfl rfl (lt_ rfl) rfl)) ?_
    refine k_ (g_ rfl rfl (r_assign rfl rfl (lt_ rfl) rfl)) ?_
    refine z_ rfl (by kernel_rfl) ?_
    refine awp_ret ?_
    rw [hge] at hn
    rw [show method p s = none from findSome_none_take hn]
    exact ⟨.inr rfl, ⟨_, _, .tmp rfl (.tmp rfl (.tmp rfl .nil)), .cons .refl (.cons .refl (.cons .refl .nil)), rfl⟩, trivial, rfl⟩
end Go.Proofs.Ythfeeaifddppoaa
