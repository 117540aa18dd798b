/-
  THE PROGRAM's above; the closure of refusals, ContainsFunc.
-/
import Derived.Test.YthfeeaifddppoaaCl14
namespace Go.Proofs.Ythfeeaifddppoaa
open Go Go.AM
set_option maxRecDepth 20000
set_option maxHeartbeats 1000000

theorem b51 : bodied Try.prog 51 := ⟨Try.f51, Try.func51, by decide, rfl⟩
theorem b60 : bodied Try.prog 60 := ⟨Try.f60, Try.func60, by decide, rfl⟩
theorem b53 : bodied Try.prog 53 := ⟨Try.f53, Try.func53, by decide, rfl⟩
theorem b52 : bodied Try.prog 52 := ⟨Try.f52, Try.func52, by decide, rfl⟩

theorem c51 (p : Prog) (e : Env) (a b : Str) (he : EnvOk p e) (hp : PS p) : ImpC Try.prog 51 [.one (.c (.pt (encEnv e))), Go.AM.T a, Go.AM.T b] [] (B (climbR p b a).isSome) [] := by
  refine impC (n := 13) tok Try.func51 rfl rfl rfl ?_
  refine awp_seq ?_
  refine awp_rg mixed ?_
  refine k_ (g_ rfl rfl (r_box 5 rfl rfl (lt_ rfl) rfl rfl rfl)) ?_
  refine k_ (g_ rfl rfl (r_assign rfl rfl (lt_ rfl) rfl)) ?_
  refine z_ rfl (by kernel_rfl) ?_
  refine awp_seq ?_
  refine awp_rg mixed ?_
  refine k_ (g_ rfl rfl (r_alloc 11 tok rfl rfl (lt_ rfl) t4 rfl)) ?_
  refine k_ (g_ rfl rfl (by first | exact r_store tok rfl rfl t4 rfl rfl rfl rfl rfl rfl | exact r_store_ep tok rfl rfl t4 rfl rfl rfl rfl rfl (by first | rfl | simp) (by first | assumption | rfl) rfl (le_ rfl))) ?_
  refine z_ rfl (by kernel_rfl) ?_
  refine awp_seq ?_
  refine awp_rg mixed ?_
  refine k_ (g_ rfl rfl (r_move rfl rfl (lt_ rfl) rfl)) ?_
  refine k_ (g_ rfl rfl (r_move rfl rfl (lt_ rfl) rfl)) ?_
  refine k_ (g_ rfl rfl (r_makeFunc rfl rfl (lt_ rfl) rfl)) ?_
  refine k_ (g_ rfl rfl (by exact r_call (hin59 a false) (hin59 a (climbR p b a).isSome) b39 rfl rfl (lt_ rfl) (c39b p e b a he hp) (.cons rfl .refl (.cons rfl .refl (.cons rfl .refl (.nil)))) ⟨rfl, rfl, trivial⟩ ⟨.inl (by simp [keys, hin59]), .inl (by simp [keys, hin59]), trivial⟩ rfl)) ?_
  refine z_ rfl (by kernel_rfl) ?_
  refine awp_seq ?_
  refine awp_rg mixed ?_
  refine k_ (g_ rfl rfl (by first | exact r_load tok rfl rfl (lt_ rfl) t4 rfl rfl rfl rfl | exact r_load_pt tok rfl rfl (lt_ rfl) t4 rfl (le_ rfl) rfl | exact r_load_ep tok rfl rfl (lt_ rfl) t4 rfl rfl (by first | rfl | simp) (by first | assumption | rfl) (le_ rfl) rfl)) ?_
  refine k_ (g_ rfl rfl (r_assign rfl rfl (lt_ rfl) rfl)) ?_
  refine z_ rfl (by kernel_rfl) ?_
  refine awp_ret ?_
  exact ⟨.inr rfl, ⟨_, _, .tmp rfl .nil, .cons .refl .nil, rfl⟩, trivial, rfl⟩

def hin52 (e : Env) (x : Inst) : List (Nat × AObj) := [(2, .var 31 [.c (.pt (encEnv e))]), (14, .var 50 ((encInst x).map R.c))]
theorem c52 (p : Prog) (e : Env) (x : Inst) (s : Str) (he : EnvOk p e) (hp : PS p) : ImpC Try.prog 52 [Go.AM.T s, .one (.vp 2 0), .one (.vp 14 0)] (hin52 e x) (B (inst p s x.con).isNone) (hin52 e x) := by
  unfold hin52
  refine impC (n := 17) tok Try.func52 rfl rfl rfl ?_
  refine awp_seq ?_
  refine awp_rg mixed ?_
  refine k_ (g_ rfl rfl (r_assign rfl rfl (lt_ rfl) rfl)) ?_
  refine z_ rfl (by kernel_rfl) ?_
  refine awp_seq ?_
  refine awp_rg mixed ?_
  refine k_ (g_ rfl rfl (by first | exact r_load tok rfl rfl (lt_ rfl) t31 rfl rfl rfl rfl | exact r_load_pt tok rfl rfl (lt_ rfl) t31 rfl (le_ rfl) rfl | exact r_load_ep tok rfl rfl (lt_ rfl) t31 rfl rfl (by first | rfl | simp) (by first | assumption | rfl) (le_ rfl) rfl)) ?_
  refine k_ (g_ rfl rfl (r_move rfl rfl (lt_ rfl) rfl)) ?_
  refine k_ (g_ rfl rfl (by first | exact r_field_vp tok rfl rfl (lt_ rfl) t50 rfl rfl t9 (nz_ rfl) rfl | exact r_field_pt tok rfl rfl (lt_ rfl) t50 rfl rfl t9 (nz_ rfl) rfl | exact r_field_ep tok rfl rfl (lt_ rfl) t50 rfl rfl t9 (nz_ rfl) rfl rfl (by first | rfl | simp))) ?_
  refine k_ (g_ rfl rfl (by first | exact r_load tok rfl rfl (lt_ rfl) t9 rfl rfl rfl rfl | exact r_load_pt tok rfl rfl (lt_ rfl) t9 rfl (le_ rfl) rfl | exact r_load_ep tok rfl rfl (lt_ rfl) t9 rfl rfl (by first | rfl | simp) (by first | assumption | rfl) (le_ rfl) rfl)) ?_
  refine k_ (g_ rfl rfl (by exact r_call [] [] b16 rfl rfl (lt_ rfl) (c16 p e s x.con he hp) (.cons rfl .refl (.cons rfl .refl (.cons rfl .refl (.nil)))) (by repeat (first | exact trivial | refine ⟨rfl, ?_⟩)) (by repeat (first | exact trivial | refine ⟨.inr rfl, ?_⟩ | refine ⟨.inl (by decide), ?_⟩)) rfl)) ?_
  refine k_ (g_ rfl rfl (r_move rfl rfl (lt_ rfl) rfl)) ?_
  refine k_ (g_ rfl rfl (r_extract rfl rfl (lt_ rfl) rfl rfl)) ?_
  refine k_ (g_ rfl rfl (r_extract rfl rfl (lt_ rfl) rfl rfl)) ?_
  refine k_ (g_ rfl rfl (r_assign rfl rfl (lt_ rfl) rfl)) ?_
  refine k_ (g_ rfl rfl (r_assign rfl rfl (lt_ rfl) rfl)) ?_
  refine z_ rfl (by kernel_rfl) ?_
  refine awp_seq ?_
  refine awp_rg mixed ?_
  refine k_ (g_ rfl rfl (r_move rfl rfl (lt_ rfl) rfl)) ?_
  refine k_ (g_ rfl rfl (r_not rfl rfl (lt_ rfl) rfl)) ?_
  refine k_ (g_ rfl rfl (r_assign rfl rfl (lt_ rfl) rfl)) ?_
  refine z_ rfl (by kernel_rfl) ?_
  refine awp_ret ?_
  rw [show (inst p s x.con).isNone = !(inst p s x.con).isSome by cases inst p s x.con <;> rfl]
  exact ⟨.inr rfl, ⟨_, _, .tmp rfl .nil, .cons .refl .nil, rfl⟩, ⟨⟨_, rfl, .var rfl⟩, ⟨_, rfl, .var rfl⟩, trivial⟩, rfl⟩

theorem c60 (p : Prog) (e : Env) (x : Inst) (l : List Str) (he : EnvOk p e) (hp : PS p) (hl : Fits l) : ImpC Try.prog 60 [.one (.c (.sl 1 (l.map encS))), .one (.clo 52 [.vp 2 0, .vp 14 0])] (hin52 e x) (I .i64 (idxI (l.findIdx? (fun s => (inst p s x.con).isNone)))) (hin52 e x) := by
  unfold Fits at hl
  unfold hin52
  refine impC (n := 19) tok Try.func60 rfl rfl rfl ?_
  refine awp_seq ?_
  refine awp_rg mixed ?_
  refine k_ (g_ rfl rfl (r_assign rfl rfl (lt_ rfl) rfl)) ?_
  refine z_ rfl (by kernel_rfl) ?_
  refine awp_seq ?_
  refine awp_seq ?_
  refine awp_rg mixed ?_
  refine k_ (g_ rfl rfl (r_move rfl rfl (lt_ rfl) rfl)) ?_
  refine k_ (g_ rfl rfl (by first | exact r_len_sl tok rfl rfl (lt_ rfl) t40 rfl rfl | exact r_len_hs tok rfl rfl (lt_ rfl) t40 rfl rfl rfl (by first | rfl | simp) | exact r_len_nl tok rfl rfl (lt_ rfl) t40 rfl rfl | exact r_len_str tok rfl rfl (lt_ rfl) t40 rfl rfl)) ?_
  refine k_ (g_ rfl rfl (r_move rfl rfl (lt_ rfl) rfl)) ?_
  refine z_ rfl (by kernel_rfl) ?_
  refine awp_block ?_   -- block 0
  refine awp_loop (fun i : Nat => mk [(0, .one (.c (.sl 1 (l.map encS)))), (1, .one (.clo 52 [.vp 2 0, .vp 14 0])), (7, I .i64 l.length), (8, I .i64 i)] [(2, .var 31 [.c (.pt (encEnv e))]), (14, .var 50 ((encInst x).map R.c))])
    (fun i => i ≤ l.length ∧ ∀ y ∈ l.take i, (inst p y x.con).isNone = false) (fun i => l.length - i) 0 ⟨Nat.zero_le _, by simp⟩ (.list (fun i => i) ⟨rfl, rfl, int_eq (by simp), rfl, trivial⟩ ⟨⟨_, rfl, .var rfl⟩, ⟨_, rfl, .var rfl⟩, trivial⟩ rfl) ?_
  intro i ⟨hi, hn⟩
  refine awp_seq ?_
  refine awp_rg mixed ?_
  refine k_ (g_ rfl rfl (r_lss rfl rfl (lt_ rfl) rfl rfl)) ?_
  refine z_ rfl (by kernel_rfl) ?_
  refine awp_seq ?_
  refine awp_cond rfl (fun hb => ?_) (fun hb => ?_)
  · refine awp_skip ?_
    have hlt : i < l.length := by simpa using hb
    obtain ⟨s, hs⟩ := get_of_lt hlt
    have hs' := getEnc encS hs
    refine awp_seq ?_
    refine awp_block ?_   -- block 1
    refine awp_seq ?_
    refine awp_rg mixed ?_
    refine k_ (g_ rfl rfl (r_move rfl rfl (lt_ rfl) rfl)) ?_
    refine k_ (g_ rfl rfl (r_assign rfl rfl (lt_ rfl) rfl)) ?_
    refine z_ rfl (by kernel_rfl) ?_
    refine awp_seq ?_
    refine awp_rg mixed ?_
    refine k_ (g_ rfl rfl (r_move rfl rfl (lt_ rfl) rfl)) ?_
    refine k_ (g_ rfl rfl (r_move rfl rfl (lt_ rfl) rfl)) ?_
    refine k_ (g_ rfl rfl (r_move rfl rfl (lt_ rfl) rfl)) ?_
    refine k_ (g_ rfl rfl (by first | exact r_index tok rfl rfl (lt_ rfl) t40 rfl t9 rfl rfl rfl rfl (by first | assumption | rfl) | exact r_index_hs tok rfl rfl (lt_ rfl) t40 rfl t9 rfl rfl rfl (by first | rfl | simp) rfl rfl (by first | decide | omega | (simp; done) | (simp; omega)))) ?_
    refine k_ (g_ rfl rfl (by first | exact r_load tok rfl rfl (lt_ rfl) t9 rfl rfl rfl rfl | exact r_load_pt tok rfl rfl (lt_ rfl) t9 rfl (le_ rfl) rfl | exact r_load_ep tok rfl rfl (lt_ rfl) t9 rfl rfl (by first | rfl | simp) (by first | assumption | rfl) (le_ rfl) rfl)) ?_
    refine k_ (g_ rfl rfl (by exact r_callv (hin52 e x) (hin52 e x) b52 rfl rfl (lt_ rfl) rfl (c52 p e x s he hp) (.cons rfl .refl (.nil)) ⟨rfl, rfl, trivial⟩ ⟨.inl (by simp [keys, hin52]), .inl (by simp [keys, hin52]), trivial⟩ rfl)) ?_
    refine z_ rfl (by kernel_rfl) ?_
    refine awp_cond rfl (fun hb => ?_) (fun hb => ?_)
    · refine awp_seq ?_
      refine awp_rg mixed ?_
      refine k_ (g_ rfl rfl (r_move rfl rfl (lt_ rfl) rfl)) ?_
      refine k_ (g_ rfl rfl (r_assign rfl rfl (lt_ rfl) rfl)) ?_
      refine z_ rfl (by kernel_rfl) ?_
      refine awp_ret ?_
      rw [findIdx_take (p := fun s => (inst p s x.con).isNone) hs hn hb]
      exact ⟨.inr rfl, ⟨_, _, .tmp rfl .nil, .cons .refl .nil, rfl⟩, ⟨⟨_, rfl, .var rfl⟩, ⟨_, rfl, .var rfl⟩, trivial⟩, rfl⟩
    · refine awp_skip ?_
      refine awp_rg mixed ?_
      refine k_ (g_ rfl rfl (by exact r_addI rfl rfl (lt_ rfl) rfl rfl (by first | omega | (simp only [List.length_map]; omega)))) ?_
      refine k_ (g_ rfl rfl (r_move rfl rfl (lt_ rfl) rfl)) ?_
      refine z_ rfl (by kernel_rfl) ?_
      exact ⟨i + 1, ⟨hlt, take_step (p := fun s => (inst p s x.con).isNone) hs hn hb⟩, by dsimp only; omega, .list (fun i => i) ⟨rfl, rfl, rfl, rfl, trivial⟩ ⟨⟨_, rfl, .var rfl⟩, ⟨_, rfl, .var rfl⟩, trivial⟩ rfl⟩
  · refine awp_exit ?_   -- 0
    have hge : i = l.length := by
      have : ¬ i < l.length := by simpa using hb
      omega
    refine awp_seq ?_
    refine awp_rg mixed ?_
    refine k_ (g_ rfl rfl (r_assign rfl rfl (lt_ rfl) rfl)) ?_
    refine z_ rfl (by kernel_rfl) ?_
    refine awp_ret ?_
    rw [hge] at hn
    rw [findIdx_none_take (p := fun s => (inst p s x.con).isNone) hn]
    exact ⟨.inr rfl, ⟨_, _, .tmp rfl .nil, .cons .refl .nil, rfl⟩, ⟨⟨_, rfl, .var rfl⟩, ⟨_, rfl, .var rfl⟩, trivial⟩, rfl⟩

theorem idx_any {α : Type} (l : List α) (q : α → Bool) : decide (0 ≤ idxI (l.findIdx? q)) = l.any q := by
  rw [Bool.eq_iff_iff]
  cases h : l.findIdx? q with
  | none =>
    rw [List.findIdx?_eq_none_iff] at h
    simp [idxI]
    intro x hx
    exact h x hx
  | some k =>
    rw [List.findIdx?_eq_some_iff_getElem] at h
    obtain ⟨h1, h2, _⟩ := h
    simp [idxI]
    exact ⟨l[k], List.getElem_mem h1, h2⟩

theorem c53 (p : Prog) (e : Env) (x : Inst) (l : List Str) (he : EnvOk p e) (hp : PS p) (hl : Fits l) : ImpC Try.prog 53 [.one (.c (.sl 1 (l.map encS))), .one (.clo 52 [.vp 2 0, .vp 14 0])] (hin52 e x) (B (l.any (fun s => (inst p s x.con).isNone))) (hin52 e x) := by
  unfold hin52
  refine impC (n := 9) tok Try.func53 rfl rfl rfl ?_
  refine awp_seq ?_
  refine awp_rg mixed ?_
  refine k_ (g_ rfl rfl (r_assign rfl rfl (lt_ rfl) rfl)) ?_
  refine z_ rfl (by kernel_rfl) ?_
  refine awp_seq ?_
  refine awp_rg mixed ?_
  refine k_ (g_ rfl rfl (r_move rfl rfl (lt_ rfl) rfl)) ?_
  refine k_ (g_ rfl rfl (r_move rfl rfl (lt_ rfl) rfl)) ?_
  refine k_ (g_ rfl rfl (by exact r_call (hin52 e x) (hin52 e x) b60 rfl rfl (lt_ rfl) (c60 p e x l he hp hl) (.cons rfl (by first | exact .refl | exact .one (.hs rfl (by first | rfl | simp) (by first | rfl | (simp; done) | (simp [Go.AM.take_map]; done) | exact Go.AM.take_map.symm) .nil) | exact .one (.c .nl .nil) | exact .one (.c .sn .nil)) (.cons rfl .refl (.nil))) ⟨rfl, rfl, trivial⟩ ⟨.inl (by simp [keys, hin52]), .inl (by simp [keys, hin52]), trivial⟩ rfl)) ?_
  refine k_ (g_ rfl rfl (r_geq rfl rfl (lt_ rfl) rfl rfl)) ?_
  refine k_ (g_ rfl rfl (r_assign rfl rfl (lt_ rfl) rfl)) ?_
  refine z_ rfl (by kernel_rfl) ?_
  refine awp_ret ?_
  rw [← idx_any]
  exact ⟨.inr rfl, ⟨_, _, .tmp rfl .nil, .cons .refl .nil, rfl⟩, ⟨⟨_, rfl, .var rfl⟩, ⟨_, rfl, .var rfl⟩, trivial⟩, rfl⟩
end Go.Proofs.Ythfeeaifddppoaa
