/-
  THE PROGRAM's queue.
-/
import Derived.Test.YthfeeaifddppoaaCl11
import Derived.Test.YthfeeaifddppoaaAm18
namespace Go.Proofs.Ythfeeaifddppoaa
open Go Go.AM
set_option maxRecDepth 20000
set_option maxHeartbeats 1000000

structure Way where
  cls : Str
  path : List Int
def encW (w : Way) : List C := [.str w.cls, .sl 1 (w.path.map encI)]

theorem b55 : bodied Try.prog 55 := ⟨Try.f55, Try.func55, by decide, rfl⟩
theorem b56 : bodied Try.prog 56 := ⟨Try.f56, Try.func56, by decide, rfl⟩

theorem c55 (l : List Way) (x : Way) (hl : Small l) : ImpC Try.prog 55 [.one (.vp 7 0), .pa (encW x)] [(7, .var 119 [.hs 700 0 l.length l.length]), (700, .arr 101 2 (l.map encW) 0)] (.tup []) [(7, .var 119 [.hs 700 0 (l ++ [x]).length (l ++ [x]).length]), (700, .arr 101 2 ((l ++ [x]).map encW) 0)] := by
  unfold Small at hl
  refine impC (n := 14) tok Try.func55 rfl rfl rfl ?_
  refine awp_seq ?_
  refine awp_rg mixed ?_
  refine k_ (g_ rfl rfl (r_box 3 rfl rfl (lt_ rfl) rfl rfl rfl)) ?_
  refine z_ rfl (by kernel_rfl) ?_
  refine awp_rg mixed ?_
  refine k_ (g_ rfl rfl (r_move rfl rfl (lt_ rfl) rfl)) ?_
  refine k_ (g_ rfl rfl (r_move rfl rfl (lt_ rfl) rfl)) ?_
  refine k_ (g_ rfl rfl (r_nilCheck rfl rfl (lt_ rfl) rfl rfl)) ?_
  refine k_ (g_ rfl rfl (by first | exact r_field_vp tok rfl rfl (lt_ rfl) t119 rfl rfl t117 (nz_ rfl) rfl | exact r_field_pt tok rfl rfl (lt_ rfl) t119 rfl rfl t117 (nz_ rfl) rfl | exact r_field_ep tok rfl rfl (lt_ rfl) t119 rfl rfl t117 (nz_ rfl) rfl rfl (by first | rfl | simp))) ?_
  refine k_ (g_ rfl rfl (by first | exact r_load tok rfl rfl (lt_ rfl) t117 rfl rfl rfl rfl | exact r_load_pt tok rfl rfl (lt_ rfl) t117 rfl (le_ rfl) rfl | exact r_load_ep tok rfl rfl (lt_ rfl) t117 rfl rfl (by first | rfl | simp) (by first | assumption | rfl) (le_ rfl) rfl)) ?_
  refine k_ (g_ rfl rfl (by first | exact r_load tok rfl rfl (lt_ rfl) t101 rfl rfl rfl rfl | exact r_load_pt tok rfl rfl (lt_ rfl) t101 rfl (le_ rfl) rfl | exact r_load_ep tok rfl rfl (lt_ rfl) t101 rfl rfl (by first | rfl | simp) (by first | assumption | rfl) (le_ rfl) rfl)) ?_
  refine k_ (g_ rfl rfl (by exact r_slice 10 tok rfl rfl (lt_ rfl) t117 rfl t101 (.cons rfl rfl (by first | exact .of_pure | (refine .c .refl ?_; (first | refine .hs rfl (by first | rfl | simp) (by first | rfl | (simp; done) | (simp [Go.AM.take_map]; done) | exact Go.AM.take_map.symm) ?_ | refine .c .refl ?_ | refine .c (Cle.nl (es := 1)) ?_); exact .nil)) rfl (.nil)) rfl rfl rfl rfl)) ?_
  refine k_ (g_ rfl rfl (by exact r_append tok rfl rfl (lt_ rfl) t117 rfl t101 rfl rfl rfl rfl (by first | rfl | simp) rfl (by first | exact .all rfl (by first | rfl | simp) | exact .hs rfl (by first | rfl | simp) (by first | rfl | (simp; done) | (simp [Go.AM.take_map]; done) | exact Go.AM.take_map.symm) | exact .sl | exact .nl | exact .sn) (by first | (simp; done) | (simp; omega)))) ?_
  refine k_ (g_ rfl rfl (r_nilCheck rfl rfl (lt_ rfl) rfl rfl)) ?_
  refine k_ (g_ rfl rfl (by first | exact r_field_vp tok rfl rfl (lt_ rfl) t119 rfl rfl t117 (nz_ rfl) rfl | exact r_field_pt tok rfl rfl (lt_ rfl) t119 rfl rfl t117 (nz_ rfl) rfl | exact r_field_ep tok rfl rfl (lt_ rfl) t119 rfl rfl t117 (nz_ rfl) rfl rfl (by first | rfl | simp))) ?_
  refine k_ (g_ rfl rfl (by first | exact r_store tok rfl rfl t117 rfl rfl rfl rfl rfl rfl | exact r_store_ep tok rfl rfl t117 rfl rfl rfl rfl rfl (by first | rfl | simp) (by first | assumption | rfl) rfl (le_ rfl))) ?_
  refine z_ rfl (by kernel_rfl) ?_
  exact ⟨.inl rfl, ⟨_, _, .nil, .nil, rfl⟩, ⟨⟨_, rfl, .var (by simp [R.renL, R.ren, splice])⟩, ⟨_, rfl, .arr0 (by simp; rfl)⟩, trivial⟩, rfl⟩

theorem c56n : ImpC Try.prog 56 [.one (.vp 7 0)] [(7, .var 119 [.hs 700 0 0 0]), (700, .arr 101 2 [] 0)] (.tup [.pa (encW ⟨[], []⟩), B false]) [(7, .var 119 [.hs 700 0 0 0]), (700, .arr 101 2 [] 0)] := by
  refine impC (n := 26) tok Try.func56 rfl rfl rfl ?_
  refine awp_seq ?_
  refine awp_rg mixed ?_
  refine k_ (g_ rfl rfl (r_alloc 2 tok rfl rfl (lt_ rfl) t101 rfl)) ?_
  refine k_ (g_ rfl rfl (r_assign rfl rfl (lt_ rfl) rfl)) ?_
  refine z_ rfl (by kernel_rfl) ?_
  refine awp_seq ?_
  refine awp_seq ?_
  refine awp_rg mixed ?_
  refine k_ (g_ rfl rfl (r_move rfl rfl (lt_ rfl) rfl)) ?_
  refine k_ (g_ rfl rfl (r_nilCheck rfl rfl (lt_ rfl) rfl rfl)) ?_
  refine k_ (g_ rfl rfl (by first | exact r_field_vp tok rfl rfl (lt_ rfl) t119 rfl rfl t117 (nz_ rfl) rfl | exact r_field_pt tok rfl rfl (lt_ rfl) t119 rfl rfl t117 (nz_ rfl) rfl | exact r_field_ep tok rfl rfl (lt_ rfl) t119 rfl rfl t117 (nz_ rfl) rfl rfl (by first | rfl | simp))) ?_
  refine k_ (g_ rfl rfl (by first | exact r_load tok rfl rfl (lt_ rfl) t117 rfl rfl rfl rfl | exact r_load_pt tok rfl rfl (lt_ rfl) t117 rfl (le_ rfl) rfl | exact r_load_ep tok rfl rfl (lt_ rfl) t117 rfl rfl (by first | rfl | simp) (by first | assumption | rfl) (le_ rfl) rfl)) ?_
  refine k_ (g_ rfl rfl (by first | exact r_len_sl tok rfl rfl (lt_ rfl) t117 rfl rfl | exact r_len_hs tok rfl rfl (lt_ rfl) t117 rfl rfl rfl (by first | rfl | simp) | exact r_len_nl tok rfl rfl (lt_ rfl) t117 rfl rfl | exact r_len_str tok rfl rfl (lt_ rfl) t117 rfl rfl)) ?_
  refine k_ (g_ rfl rfl (r_eql rfl rfl (lt_ rfl) rfl rfl)) ?_
  refine z_ rfl (by kernel_rfl) ?_
  refine awp_cond rfl (fun hb => ?_) (fun hb => by cases hb)
  refine awp_seq ?_
  refine awp_rg mixed ?_
  refine k_ (g_ rfl rfl (by first | exact r_load tok rfl rfl (lt_ rfl) t101 rfl rfl rfl rfl | exact r_load_pt tok rfl rfl (lt_ rfl) t101 rfl (le_ rfl) rfl | exact r_load_ep tok rfl rfl (lt_ rfl) t101 rfl rfl (by first | rfl | simp) (by first | assumption | rfl) (le_ rfl) rfl)) ?_
  refine k_ (g_ rfl rfl (by first | exact r_store tok rfl rfl t101 rfl rfl rfl rfl rfl rfl | exact r_store_ep tok rfl rfl t101 rfl rfl rfl rfl rfl (by first | rfl | simp) (by first | assumption | rfl) rfl (le_ rfl))) ?_
  refine k_ (g_ rfl rfl (r_assign rfl rfl (lt_ rfl) rfl)) ?_
  refine z_ rfl (by kernel_rfl) ?_
  refine awp_ret ?_
  exact ⟨.inr rfl, ⟨_, [.pa (encW ⟨[], []⟩), B false], .cell rfl t101 rfl rfl rfl (.tmp rfl .nil), .cons (.pa (.c .refl (.c .nl .nil))) (.cons .refl .nil), rfl⟩, ⟨⟨_, rfl, .var rfl⟩, ⟨_, rfl, .arr⟩, trivial⟩, rfl⟩

theorem c56c (x : Way) (l : List Way) (hl : Small l) : ImpC Try.prog 56 [.one (.vp 7 0)] [(7, .var 119 [.hs 700 0 (x :: l).length (x :: l).length]), (700, .arr 101 2 ((x :: l).map encW) 0)] (.tup [.pa (encW x), B true]) [(7, .var 119 [.hs 701 0 l.length l.length]), (701, .arr 101 2 (l.map encW) 0), (700, .dead)] := by
  unfold Small at hl
  refine impC (n := 26) tok Try.func56 rfl rfl rfl ?_
  refine awp_seq ?_
  refine awp_rg mixed ?_
  refine k_ (g_ rfl rfl (r_alloc 2 tok rfl rfl (lt_ rfl) t101 rfl)) ?_
  refine k_ (g_ rfl rfl (r_assign rfl rfl (lt_ rfl) rfl)) ?_
  refine z_ rfl (by kernel_rfl) ?_
  refine awp_seq ?_
  refine awp_seq ?_
  refine awp_rg mixed ?_
  refine k_ (g_ rfl rfl (r_move rfl rfl (lt_ rfl) rfl)) ?_
  refine k_ (g_ rfl rfl (r_nilCheck rfl rfl (lt_ rfl) rfl rfl)) ?_
  refine k_ (g_ rfl rfl (by first | exact r_field_vp tok rfl rfl (lt_ rfl) t119 rfl rfl t117 (nz_ rfl) rfl | exact r_field_pt tok rfl rfl (lt_ rfl) t119 rfl rfl t117 (nz_ rfl) rfl | exact r_field_ep tok rfl rfl (lt_ rfl) t119 rfl rfl t117 (nz_ rfl) rfl rfl (by first | rfl | simp))) ?_
  refine k_ (g_ rfl rfl (by first | exact r_load tok rfl rfl (lt_ rfl) t117 rfl rfl rfl rfl | exact r_load_pt tok rfl rfl (lt_ rfl) t117 rfl (le_ rfl) rfl | exact r_load_ep tok rfl rfl (lt_ rfl) t117 rfl rfl (by first | rfl | simp) (by first | assumption | rfl) (le_ rfl) rfl)) ?_
  refine k_ (g_ rfl rfl (by first | exact r_len_sl tok rfl rfl (lt_ rfl) t117 rfl rfl | exact r_len_hs tok rfl rfl (lt_ rfl) t117 rfl rfl rfl (by first | rfl | simp) | exact r_len_nl tok rfl rfl (lt_ rfl) t117 rfl rfl | exact r_len_str tok rfl rfl (lt_ rfl) t117 rfl rfl)) ?_
  refine k_ (g_ rfl rfl (r_eql rfl rfl (lt_ rfl) rfl rfl)) ?_
  refine z_ rfl (by kernel_rfl) ?_
  have hz : decide (((x :: l).length : Int) = 0) = false := by simp; omega
  refine awp_cond rfl (fun hb => by rw [hz] at hb; cases hb) (fun hb => ?_)
  refine awp_skip ?_
  have h0 : ((x :: l).map encW)[0 + 0]? = some (encW x) := rfl
  refine awp_seq ?_
  refine awp_rg mixed ?_
  refine k_ (g_ rfl rfl (r_move rfl rfl (lt_ rfl) rfl)) ?_
  refine k_ (g_ rfl rfl (r_move rfl rfl (lt_ rfl) rfl)) ?_
  refine k_ (g_ rfl rfl (r_nilCheck rfl rfl (lt_ rfl) rfl rfl)) ?_
  refine k_ (g_ rfl rfl (by first | exact r_field_vp tok rfl rfl (lt_ rfl) t119 rfl rfl t117 (nz_ rfl) rfl | exact r_field_pt tok rfl rfl (lt_ rfl) t119 rfl rfl t117 (nz_ rfl) rfl | exact r_field_ep tok rfl rfl (lt_ rfl) t119 rfl rfl t117 (nz_ rfl) rfl rfl (by first | rfl | simp))) ?_
  refine k_ (g_ rfl rfl (by first | exact r_load tok rfl rfl (lt_ rfl) t117 rfl rfl rfl rfl | exact r_load_pt tok rfl rfl (lt_ rfl) t117 rfl (le_ rfl) rfl | exact r_load_ep tok rfl rfl (lt_ rfl) t117 rfl rfl (by first | rfl | simp) (by first | assumption | rfl) (le_ rfl) rfl)) ?_
  refine k_ (g_ rfl rfl (by first | exact r_index tok rfl rfl (lt_ rfl) t117 rfl t101 rfl rfl rfl rfl (by first | assumption | rfl) | exact r_index_hs tok rfl rfl (lt_ rfl) t117 rfl t101 rfl rfl rfl (by first | rfl | simp) rfl rfl (by first | decide | omega | (simp; done) | (simp; omega)))) ?_
  refine k_ (g_ rfl rfl (by first | exact r_load tok rfl rfl (lt_ rfl) t101 rfl rfl rfl rfl | exact r_load_pt tok rfl rfl (lt_ rfl) t101 rfl (le_ rfl) rfl | exact r_load_ep tok rfl rfl (lt_ rfl) t101 rfl rfl (by first | rfl | simp) (by first | assumption | rfl) (le_ rfl) rfl)) ?_
  refine k_ (g_ rfl rfl (r_move rfl rfl (lt_ rfl) rfl)) ?_
  refine k_ (g_ rfl rfl (r_nilCheck rfl rfl (lt_ rfl) rfl rfl)) ?_
  refine k_ (g_ rfl rfl (by first | exact r_field_vp tok rfl rfl (lt_ rfl) t119 rfl rfl t117 (nz_ rfl) rfl | exact r_field_pt tok rfl rfl (lt_ rfl) t119 rfl rfl t117 (nz_ rfl) rfl | exact r_field_ep tok rfl rfl (lt_ rfl) t119 rfl rfl t117 (nz_ rfl) rfl rfl (by first | rfl | simp))) ?_
  refine k_ (g_ rfl rfl (by first | exact r_load tok rfl rfl (lt_ rfl) t117 rfl rfl rfl rfl | exact r_load_pt tok rfl rfl (lt_ rfl) t117 rfl (le_ rfl) rfl | exact r_load_ep tok rfl rfl (lt_ rfl) t117 rfl rfl (by first | rfl | simp) (by first | assumption | rfl) (le_ rfl) rfl)) ?_
  refine k_ (g_ rfl rfl (by exact r_tail 1 tok rfl rfl (lt_ rfl) t117 rfl t101 rfl rfl rfl (by first | rfl | assumption | simp) rfl (by first | exact rfl | rfl) (by first | omega | (simp; done)))) ?_
  refine k_ (g_ rfl rfl (by first | exact r_store tok rfl rfl t101 rfl rfl rfl rfl rfl rfl | exact r_store_ep tok rfl rfl t101 rfl rfl rfl rfl rfl (by first | rfl | simp) (by first | assumption | rfl) rfl (le_ rfl))) ?_
  refine k_ (g_ rfl rfl (r_nilCheck rfl rfl (lt_ rfl) rfl rfl)) ?_
  refine k_ (g_ rfl rfl (by first | exact r_field_vp tok rfl rfl (lt_ rfl) t119 rfl rfl t117 (nz_ rfl) rfl | exact r_field_pt tok rfl rfl (lt_ rfl) t119 rfl rfl t117 (nz_ rfl) rfl | exact r_field_ep tok rfl rfl (lt_ rfl) t119 rfl rfl t117 (nz_ rfl) rfl rfl (by first | rfl | simp))) ?_
  refine k_ (g_ rfl rfl (by first | exact r_store tok rfl rfl t117 rfl rfl rfl rfl rfl rfl | exact r_store_ep tok rfl rfl t117 rfl rfl rfl rfl rfl (by first | rfl | simp) (by first | assumption | rfl) rfl (le_ rfl))) ?_
  refine z_ rfl (by kernel_rfl) ?_
  refine AWp.sub (Sub.tail (x := 7) (k := 0) (id := 700) (id' := 701) rfl rfl rfl (by simp) rfl) ?_
  refine awp_seq ?_
  refine awp_rg mixed ?_
  refine k_ (g_ rfl rfl (by first | exact r_load tok rfl rfl (lt_ rfl) t101 rfl rfl rfl rfl | exact r_load_pt tok rfl rfl (lt_ rfl) t101 rfl (le_ rfl) rfl | exact r_load_ep tok rfl rfl (lt_ rfl) t101 rfl rfl (by first | rfl | simp) (by first | assumption | rfl) (le_ rfl) rfl)) ?_
  refine k_ (g_ rfl rfl (by first | exact r_store tok rfl rfl t101 rfl rfl rfl rfl rfl rfl | exact r_store_ep tok rfl rfl t101 rfl rfl rfl rfl rfl (by first | rfl | simp) (by first | assumption | rfl) rfl (le_ rfl))) ?_
  refine k_ (g_ rfl rfl (r_assign rfl rfl (lt_ rfl) rfl)) ?_
  refine z_ rfl (by kernel_rfl) ?_
  refine awp_ret ?_
  exact ⟨.inr rfl, ⟨_, [.pa (encW x), B true], .cell rfl t101 rfl rfl rfl (.tmp rfl .nil), .cons .refl (.cons .refl .nil), rfl⟩, ⟨⟨_, rfl, .var (by simp [R.renL, R.ren, splice])⟩, ⟨_, rfl, .arr0 (by simp)⟩, ⟨_, rfl, .dead⟩, trivial⟩, rfl⟩
end Go.Proofs.Ythfeeaifddppoaa
