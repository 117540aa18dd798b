/-
  THE REFERENCE's Turned, Whole.
-/
import Derived.Test.YthfeeaifddppoaaCl7
namespace Go.Proofs.Ythfeeaifddppoaa
open Go Go.AM
set_option maxRecDepth 20000

def turned (p : Prog) : Prog := ⟨.nl, p.classes.reverse, p.insts.reverse, .nl⟩
theorem rev_drop {α : Type} {l : List α} {i : Nat} {x : α} (h : l[i]? = some x) : (l.drop i).reverse = (l.drop (i + 1)).reverse ++ [x] := by
  have hlt := (List.getElem?_eq_some_iff.1 h).1
  rw [List.drop_eq_getElem_cons hlt, List.reverse_cons, (List.getElem?_eq_some_iff.1 h).2]

theorem b9 : bodied Try.prog 9 := ⟨Try.f9, Try.func9, by decide, rfl⟩
theorem b31 : bodied Try.prog 31 := ⟨Try.f31, Try.func31, by decide, rfl⟩

theorem c9 (p : Prog) (hp : PS p) : ImpC Try.prog 9 [.pa (encProg p)] [] (.pa (encProg (turned p))) [] := by
  have hl := hp.cls
  have hi := hp.insts
  unfold Small at hl hi
  refine impC (n := 43) tok Try.func9 rfl rfl rfl ?_
  refine awp_seq ?_
  refine awp_rg mixed ?_
  refine k_ (g_ rfl rfl (r_box 1 rfl rfl (lt_ rfl) rfl rfl rfl)) ?_
  refine k_ (g_ rfl rfl (r_alloc 2 tok rfl rfl (lt_ rfl) t28 rfl)) ?_
  refine z_ rfl (by kernel_rfl) ?_
  refine awp_seq ?_
  refine awp_rg mixed ?_
  refine k_ (g_ rfl rfl (r_alloc 3 tok rfl rfl (lt_ rfl) t28 rfl)) ?_
  refine z_ rfl (by kernel_rfl) ?_
  refine AWp.sub (Sub.ownCell (x := 3) (k := 1) (id := 100) 66 6 rfl rfl rfl) (AWp.sub (Sub.ownCell (x := 3) (k := 2) (id := 101) 50 6 rfl rfl rfl) ?_)
  refine awp_seq ?_
  refine awp_seq ?_
  refine awp_rg mixed ?_
  refine k_ (g_ rfl rfl (by first | exact r_field_vp tok rfl rfl (lt_ rfl) t28 rfl rfl t24 (nz_ rfl) rfl | exact r_field_pt tok rfl rfl (lt_ rfl) t28 rfl rfl t24 (nz_ rfl) rfl | exact r_field_ep tok rfl rfl (lt_ rfl) t28 rfl rfl t24 (nz_ rfl) rfl rfl (by first | rfl | simp))) ?_
  refine k_ (g_ rfl rfl (by first | exact r_load tok rfl rfl (lt_ rfl) t24 rfl rfl rfl rfl | exact r_load_pt tok rfl rfl (lt_ rfl) t24 rfl (le_ rfl) rfl | exact r_load_ep tok rfl rfl (lt_ rfl) t24 rfl rfl (by first | rfl | simp) (by first | assumption | rfl) (le_ rfl) rfl)) ?_
  refine k_ (g_ rfl rfl (by first | exact r_len_sl tok rfl rfl (lt_ rfl) t24 rfl rfl | exact r_len_hs tok rfl rfl (lt_ rfl) t24 rfl rfl rfl (by first | rfl | simp) | exact r_len_nl tok rfl rfl (lt_ rfl) t24 rfl rfl | exact r_len_str tok rfl rfl (lt_ rfl) t24 rfl rfl)) ?_
  refine k_ (g_ rfl rfl (by exact r_subI rfl rfl (lt_ rfl) rfl rfl (by first | omega | (simp only [List.length_map]; omega)))) ?_
  refine k_ (g_ rfl rfl (r_assign rfl rfl (lt_ rfl) rfl)) ?_
  refine z_ rfl (by kernel_rfl) ?_
  refine awp_block ?_   -- block 0
  refine awp_loop (fun j : Nat => mk [(1, .one (.vp 1 0)), (2, .one (.vp 2 0)), (3, .one (.vp 3 0)), (4, I .i64 ((j : Int) - 1))] [(1, .var 28 ((encProg p).map R.c)), (2, .var 28 [.c .nl, .c .nl, .c .nl, .c .nl]), (3, .var 28 [.c .nl, .hs 100 0 (p.classes.drop j).length (p.classes.drop j).length, .hs 101 0 0 0, .c .nl]), (100, .arr 66 6 ((p.classes.drop j).reverse.map encCls) 1), (101, .arr 50 6 [] 1)])
    (fun j => j ≤ p.classes.length) (fun j => j) p.classes.length (Nat.le_refl _)
    (.list (fun i => i) ⟨rfl, rfl, rfl, int_eq (by simp), trivial⟩ ⟨⟨_, rfl, .var rfl⟩, ⟨_, rfl, .var rfl⟩, ⟨_, rfl, .var (by simp [R.renL, R.ren])⟩, ⟨_, rfl, .arrE (by simp)⟩, ⟨_, rfl, .arr1⟩, trivial⟩ rfl) ?_
  intro j hj
  cases j with
  | zero =>
    refine awp_seq ?_
    refine awp_seq ?_
    refine awp_rg mixed ?_
    refine k_ (g_ rfl rfl (r_move rfl rfl (lt_ rfl) rfl)) ?_
    refine k_ (g_ rfl rfl (r_geq rfl rfl (lt_ rfl) rfl rfl)) ?_
    refine z_ rfl (by kernel_rfl) ?_
    refine awp_cond rfl (fun hb => by cases hb) (fun hb => ?_)
    refine awp_exit ?_   -- 0
    refine awp_seq ?_
    refine awp_seq ?_
    refine awp_rg mixed ?_
    refine k_ (g_ rfl rfl (by first | exact r_field_vp tok rfl rfl (lt_ rfl) t28 rfl rfl t25 (nz_ rfl) rfl | exact r_field_pt tok rfl rfl (lt_ rfl) t28 rfl rfl t25 (nz_ rfl) rfl | exact r_field_ep tok rfl rfl (lt_ rfl) t28 rfl rfl t25 (nz_ rfl) rfl rfl (by first | rfl | simp))) ?_
    refine k_ (g_ rfl rfl (by first | exact r_load tok rfl rfl (lt_ rfl) t25 rfl rfl rfl rfl | exact r_load_pt tok rfl rfl (lt_ rfl) t25 rfl (le_ rfl) rfl | exact r_load_ep tok rfl rfl (lt_ rfl) t25 rfl rfl (by first | rfl | simp) (by first | assumption | rfl) (le_ rfl) rfl)) ?_
    refine k_ (g_ rfl rfl (by first | exact r_len_sl tok rfl rfl (lt_ rfl) t25 rfl rfl | exact r_len_hs tok rfl rfl (lt_ rfl) t25 rfl rfl rfl (by first | rfl | simp) | exact r_len_nl tok rfl rfl (lt_ rfl) t25 rfl rfl | exact r_len_str tok rfl rfl (lt_ rfl) t25 rfl rfl)) ?_
    refine k_ (g_ rfl rfl (by exact r_subI rfl rfl (lt_ rfl) rfl rfl (by first | omega | (simp only [List.length_map]; omega)))) ?_
    refine k_ (g_ rfl rfl (r_assign rfl rfl (lt_ rfl) rfl)) ?_
    refine z_ rfl (by kernel_rfl) ?_
    refine awp_block ?_   -- block 2
    refine awp_loop (fun j : Nat => mk [(1, .one (.vp 1 0)), (2, .one (.vp 2 0)), (3, .one (.vp 3 0)), (5, I .i64 ((j : Int) - 1))] [(1, .var 28 ((encProg p).map R.c)), (2, .var 28 [.c .nl, .c .nl, .c .nl, .c .nl]), (3, .var 28 [.c .nl, .hs 100 0 p.classes.length p.classes.length, .hs 101 0 (p.insts.drop j).length (p.insts.drop j).length, .c .nl]), (100, .arr 66 6 (p.classes.reverse.map encCls) 1), (101, .arr 50 6 ((p.insts.drop j).reverse.map encInst) 1)])
      (fun j => j ≤ p.insts.length) (fun j => j) p.insts.length (Nat.le_refl _)
      (.list (fun i => i) ⟨rfl, rfl, rfl, int_eq (by simp), trivial⟩ ⟨⟨_, rfl, .var rfl⟩, ⟨_, rfl, .var rfl⟩, ⟨_, rfl, .var (by simp [R.renL, R.ren])⟩, ⟨_, rfl, .arr1⟩, ⟨_, rfl, .arrE (by simp)⟩, trivial⟩ rfl) ?_
    intro j hj
    cases j with
    | zero =>
      refine awp_seq ?_
      refine awp_seq ?_
      refine awp_rg mixed ?_
      refine k_ (g_ rfl rfl (r_move rfl rfl (lt_ rfl) rfl)) ?_
      refine k_ (g_ rfl rfl (r_geq rfl rfl (lt_ rfl) rfl rfl)) ?_
      refine z_ rfl (by kernel_rfl) ?_
      refine awp_cond rfl (fun hb => by cases hb) (fun hb => ?_)
      refine awp_exit ?_   -- 2
      refine awp_seq ?_
      refine awp_rg mixed ?_
      refine k_ (g_ rfl rfl (by first | exact r_load tok rfl rfl (lt_ rfl) t28 rfl rfl rfl rfl | exact r_load_pt tok rfl rfl (lt_ rfl) t28 rfl (le_ rfl) rfl | exact r_load_ep tok rfl rfl (lt_ rfl) t28 rfl rfl (by first | rfl | simp) (by first | assumption | rfl) (le_ rfl) rfl)) ?_
      refine k_ (g_ rfl rfl (by first | exact r_store tok rfl rfl t28 rfl rfl rfl rfl rfl rfl | exact r_store_ep tok rfl rfl t28 rfl rfl rfl rfl rfl (by first | rfl | simp) (by first | assumption | rfl) rfl (le_ rfl))) ?_
      refine z_ rfl (by kernel_rfl) ?_
      refine AWp.sub (Sub.freeze (id := 100) rfl) (AWp.sub (Sub.freeze (id := 101) rfl) ?_)
      refine awp_ret ?_
      exact ⟨.inr rfl, ⟨_, [.pa (encProg (turned p))], .cell rfl t28 rfl rfl rfl .nil, .cons (.agg (.c .refl (.hs rfl (by simp) (by rw [List.drop_zero, List.take_of_length_le (by simp)]; rfl) (.hs rfl (by simp) (by rw [List.drop_zero, List.take_of_length_le (by simp)]; rfl) (.c .refl .nil))))) .nil, rfl⟩, trivial, rfl⟩
    | succ i =>
      have e : (((i + 1 : Nat) : Int) - 1) = i := by omega
      rw [e]
      have hlt : i < p.insts.length := hj
      obtain ⟨x, hx⟩ := get_of_lt hlt
      have hx' := getEnc encInst hx
      refine awp_seq ?_
      refine awp_seq ?_
      refine awp_rg mixed ?_
      refine k_ (g_ rfl rfl (r_move rfl rfl (lt_ rfl) rfl)) ?_
      refine k_ (g_ rfl rfl (r_geq rfl rfl (lt_ rfl) rfl rfl)) ?_
      refine z_ rfl (by kernel_rfl) ?_
      refine awp_cond rfl (fun hb => ?_) (fun hb => by revert hb; simp)
      refine awp_skip ?_
      refine awp_seq ?_
      refine awp_block ?_   -- block 3
      refine awp_rg mixed ?_
      refine k_ (g_ rfl rfl (by first | exact r_field_vp tok rfl rfl (lt_ rfl) t28 rfl rfl t25 (nz_ rfl) rfl | exact r_field_pt tok rfl rfl (lt_ rfl) t28 rfl rfl t25 (nz_ rfl) rfl | exact r_field_ep tok rfl rfl (lt_ rfl) t28 rfl rfl t25 (nz_ rfl) rfl rfl (by first | rfl | simp))) ?_
      refine k_ (g_ rfl rfl (by first | exact r_load tok rfl rfl (lt_ rfl) t25 rfl rfl rfl rfl | exact r_load_pt tok rfl rfl (lt_ rfl) t25 rfl (le_ rfl) rfl | exact r_load_ep tok rfl rfl (lt_ rfl) t25 rfl rfl (by first | rfl | simp) (by first | assumption | rfl) (le_ rfl) rfl)) ?_
      refine k_ (g_ rfl rfl (by first | exact r_field_vp tok rfl rfl (lt_ rfl) t28 rfl rfl t25 (nz_ rfl) rfl | exact r_field_pt tok rfl rfl (lt_ rfl) t28 rfl rfl t25 (nz_ rfl) rfl | exact r_field_ep tok rfl rfl (lt_ rfl) t28 rfl rfl t25 (nz_ rfl) rfl rfl (by first | rfl | simp))) ?_
      refine k_ (g_ rfl rfl (by first | exact r_load tok rfl rfl (lt_ rfl) t25 rfl rfl rfl rfl | exact r_load_pt tok rfl rfl (lt_ rfl) t25 rfl (le_ rfl) rfl | exact r_load_ep tok rfl rfl (lt_ rfl) t25 rfl rfl (by first | rfl | simp) (by first | assumption | rfl) (le_ rfl) rfl)) ?_
      refine k_ (g_ rfl rfl (r_move rfl rfl (lt_ rfl) rfl)) ?_
      refine k_ (g_ rfl rfl (by first | exact r_index tok rfl rfl (lt_ rfl) t25 rfl t50 rfl rfl rfl rfl (by first | assumption | rfl) | exact r_index_hs tok rfl rfl (lt_ rfl) t25 rfl t50 rfl rfl rfl (by first | rfl | simp) rfl rfl (by first | decide | omega | (simp; done) | (simp; omega)))) ?_
      refine k_ (g_ rfl rfl (by first | exact r_load tok rfl rfl (lt_ rfl) t50 rfl rfl rfl rfl | exact r_load_pt tok rfl rfl (lt_ rfl) t50 rfl (le_ rfl) rfl | exact r_load_ep tok rfl rfl (lt_ rfl) t50 rfl rfl (by first | rfl | simp) (by first | assumption | rfl) (le_ rfl) rfl)) ?_
      refine k_ (g_ rfl rfl (by exact r_slice 39 tok rfl rfl (lt_ rfl) t25 rfl t50 (.cons rfl rfl (by first | exact .of_pure | (refine .c .refl ?_; refine .c .refl ?_; refine .c .refl ?_; (first | refine .hs rfl (by first | rfl | simp) (by first | rfl | (simp; done) | (simp [Go.AM.take_map]; done) | exact Go.AM.take_map.symm) ?_ | refine .c .refl ?_ | refine .c (Cle.nl (es := 1)) ?_); (first | refine .hs rfl (by first | rfl | simp) (by first | rfl | (simp; done) | (simp [Go.AM.take_map]; done) | exact Go.AM.take_map.symm) ?_ | refine .c .refl ?_ | refine .c (Cle.nl (es := 5)) ?_); (first | refine .hs rfl (by first | rfl | simp) (by first | rfl | (simp; done) | (simp [Go.AM.take_map]; done) | exact Go.AM.take_map.symm) ?_ | refine .c .refl ?_ | refine .c (Cle.nl (es := 33)) ?_); exact .nil)) rfl (.nil)) rfl rfl rfl rfl)) ?_
      refine k_ (g_ rfl rfl (by exact r_append tok rfl rfl (lt_ rfl) t25 rfl t50 rfl rfl rfl rfl (by first | rfl | simp) rfl (by first | exact .all rfl (by first | rfl | simp) | exact .hs rfl (by first | rfl | simp) (by first | rfl | (simp; done) | (simp [Go.AM.take_map]; done) | exact Go.AM.take_map.symm) | exact .sl | exact .nl | exact .sn) (by first | (simp; done) | (simp; omega)))) ?_
      refine k_ (g_ rfl rfl (by first | exact r_field_vp tok rfl rfl (lt_ rfl) t28 rfl rfl t25 (nz_ rfl) rfl | exact r_field_pt tok rfl rfl (lt_ rfl) t28 rfl rfl t25 (nz_ rfl) rfl | exact r_field_ep tok rfl rfl (lt_ rfl) t28 rfl rfl t25 (nz_ rfl) rfl rfl (by first | rfl | simp))) ?_
      refine k_ (g_ rfl rfl (by first | exact r_store tok rfl rfl t25 rfl rfl rfl rfl rfl rfl | exact r_store_ep tok rfl rfl t25 rfl rfl rfl rfl rfl (by first | rfl | simp) (by first | assumption | rfl) rfl (le_ rfl))) ?_
      refine z_ rfl (by kernel_rfl) ?_
      refine awp_rg mixed ?_
      refine k_ (g_ rfl rfl (r_move rfl rfl (lt_ rfl) rfl)) ?_
      refine k_ (g_ rfl rfl (by exact r_subI rfl rfl (lt_ rfl) rfl rfl (by first | omega | (simp only [List.length_map]; omega)))) ?_
      refine k_ (g_ rfl rfl (r_assign rfl rfl (lt_ rfl) rfl)) ?_
      refine z_ rfl (by kernel_rfl) ?_
      exact ⟨i, Nat.le_of_lt hlt, by dsimp only; omega, .list (fun i => i) ⟨rfl, rfl, rfl, rfl, trivial⟩ ⟨⟨_, rfl, .var rfl⟩, ⟨_, rfl, .var rfl⟩, ⟨_, rfl, .var (by simp [R.renL, R.ren, splice]; omega)⟩, ⟨_, rfl, .arr1⟩, ⟨_, rfl, .arrE (by rw [rev_drop hx]; simp; rfl)⟩, trivial⟩ rfl⟩
  | succ i =>
    have e : (((i + 1 : Nat) : Int) - 1) = i := by omega
    rw [e]
    have hlt : i < p.classes.length := hj
    obtain ⟨x, hx⟩ := get_of_lt hlt
    have hx' := getEnc encCls hx
    refine awp_seq ?_
    refine awp_seq ?_
    refine awp_rg mixed ?_
    refine k_ (g_ rfl rfl (r_move rfl rfl (lt_ rfl) rfl)) ?_
    refine k_ (g_ rfl rfl (r_geq rfl rfl (lt_ rfl) rfl rfl)) ?_
    refine z_ rfl (by kernel_rfl) ?_
    refine awp_cond rfl (fun hb => ?_) (fun hb => by revert hb; simp)
    refine awp_skip ?_
    refine awp_seq ?_
    refine awp_block ?_   -- block 1
    refine awp_rg mixed ?_
    refine k_ (g_ rfl rfl (by first | exact r_field_vp tok rfl rfl (lt_ rfl) t28 rfl rfl t24 (nz_ rfl) rfl | exact r_field_pt tok rfl rfl (lt_ rfl) t28 rfl rfl t24 (nz_ rfl) rfl | exact r_field_ep tok rfl rfl (lt_ rfl) t28 rfl rfl t24 (nz_ rfl) rfl rfl (by first | rfl | simp))) ?_
    refine k_ (g_ rfl rfl (by first | exact r_load tok rfl rfl (lt_ rfl) t24 rfl rfl rfl rfl | exact r_load_pt tok rfl rfl (lt_ rfl) t24 rfl (le_ rfl) rfl | exact r_load_ep tok rfl rfl (lt_ rfl) t24 rfl rfl (by first | rfl | simp) (by first | assumption | rfl) (le_ rfl) rfl)) ?_
    refine k_ (g_ rfl rfl (by first | exact r_field_vp tok rfl rfl (lt_ rfl) t28 rfl rfl t24 (nz_ rfl) rfl | exact r_field_pt tok rfl rfl (lt_ rfl) t28 rfl rfl t24 (nz_ rfl) rfl | exact r_field_ep tok rfl rfl (lt_ rfl) t28 rfl rfl t24 (nz_ rfl) rfl rfl (by first | rfl | simp))) ?_
    refine k_ (g_ rfl rfl (by first | exact r_load tok rfl rfl (lt_ rfl) t24 rfl rfl rfl rfl | exact r_load_pt tok rfl rfl (lt_ rfl) t24 rfl (le_ rfl) rfl | exact r_load_ep tok rfl rfl (lt_ rfl) t24 rfl rfl (by first | rfl | simp) (by first | assumption | rfl) (le_ rfl) rfl)) ?_
    refine k_ (g_ rfl rfl (r_move rfl rfl (lt_ rfl) rfl)) ?_
    refine k_ (g_ rfl rfl (by first | exact r_index tok rfl rfl (lt_ rfl) t24 rfl t66 rfl rfl rfl rfl (by first | assumption | rfl) | exact r_index_hs tok rfl rfl (lt_ rfl) t24 rfl t66 rfl rfl rfl (by first | rfl | simp) rfl rfl (by first | decide | omega | (simp; done) | (simp; omega)))) ?_
    refine k_ (g_ rfl rfl (by first | exact r_load tok rfl rfl (lt_ rfl) t66 rfl rfl rfl rfl | exact r_load_pt tok rfl rfl (lt_ rfl) t66 rfl (le_ rfl) rfl | exact r_load_ep tok rfl rfl (lt_ rfl) t66 rfl rfl (by first | rfl | simp) (by first | assumption | rfl) (le_ rfl) rfl)) ?_
    refine k_ (g_ rfl rfl (by exact r_slice 21 tok rfl rfl (lt_ rfl) t24 rfl t66 (.cons rfl rfl (by first | exact .of_pure | (refine .c .refl ?_; refine .c .refl ?_; refine .c .refl ?_; (first | refine .hs rfl (by first | rfl | simp) (by first | rfl | (simp; done) | (simp [Go.AM.take_map]; done) | exact Go.AM.take_map.symm) ?_ | refine .c .refl ?_ | refine .c (Cle.nl (es := 1)) ?_); (first | refine .hs rfl (by first | rfl | simp) (by first | rfl | (simp; done) | (simp [Go.AM.take_map]; done) | exact Go.AM.take_map.symm) ?_ | refine .c .refl ?_ | refine .c (Cle.nl (es := 1)) ?_); (first | refine .hs rfl (by first | rfl | simp) (by first | rfl | (simp; done) | (simp [Go.AM.take_map]; done) | exact Go.AM.take_map.symm) ?_ | refine .c .refl ?_ | refine .c (Cle.nl (es := 9)) ?_); exact .nil)) rfl (.nil)) rfl rfl rfl rfl)) ?_
    refine k_ (g_ rfl rfl (by exact r_append tok rfl rfl (lt_ rfl) t24 rfl t66 rfl rfl rfl rfl (by first | rfl | simp) rfl (by first | exact .all rfl (by first | rfl | simp) | exact .hs rfl (by first | rfl | simp) (by first | rfl | (simp; done) | (simp [Go.AM.take_map]; done) | exact Go.AM.take_map.symm) | exact .sl | exact .nl | exact .sn) (by first | (simp; done) | (simp; omega)))) ?_
    refine k_ (g_ rfl rfl (by first | exact r_field_vp tok rfl rfl (lt_ rfl) t28 rfl rfl t24 (nz_ rfl) rfl | exact r_field_pt tok rfl rfl (lt_ rfl) t28 rfl rfl t24 (nz_ rfl) rfl | exact r_field_ep tok rfl rfl (lt_ rfl) t28 rfl rfl t24 (nz_ rfl) rfl rfl (by first | rfl | simp))) ?_
    refine k_ (g_ rfl rfl (by first | exact r_store tok rfl rfl t24 rfl rfl rfl rfl rfl rfl | exact r_store_ep tok rfl rfl t24 rfl rfl rfl rfl rfl (by first | rfl | simp) (by first | assumption | rfl) rfl (le_ rfl))) ?_
    refine z_ rfl (by kernel_rfl) ?_
    refine awp_rg mixed ?_
    refine k_ (g_ rfl rfl (r_move rfl rfl (lt_ rfl) rfl)) ?_
    refine k_ (g_ rfl rfl (by exact r_subI rfl rfl (lt_ rfl) rfl rfl (by first | omega | (simp only [List.length_map]; omega)))) ?_
    refine k_ (g_ rfl rfl (r_assign rfl rfl (lt_ rfl) rfl)) ?_
    refine z_ rfl (by kernel_rfl) ?_
    exact ⟨i, Nat.le_of_lt hlt, by dsimp only; omega, .list (fun i => i) ⟨rfl, rfl, rfl, rfl, trivial⟩ ⟨⟨_, rfl, .var rfl⟩, ⟨_, rfl, .var rfl⟩, ⟨_, rfl, .var (by simp [R.renL, R.ren, splice]; omega)⟩, ⟨_, rfl, .arrE (by rw [rev_drop hx]; simp; rfl)⟩, ⟨_, rfl, .arr1⟩, trivial⟩ rfl⟩
end Go.Proofs.Ythfeeaifddppoaa
