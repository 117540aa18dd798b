/-
  Texts Lc10 in one.
-/
import Derived.Test.YtnookidjdjhfhaaGreatDoorM14
/- EraseTells: the walk. -/
namespace Go.Proofs.YtnookidjdjhfhaaGreatDoor
open Go Go.AM
set_option maxRecDepth 20000

/-- What the law makes of numbers. -/
structure MadeC (c : Core) : Prop where
  er : ImpC Tryz.prog 6 [.pa (encCore c)] [] (.pa (encCore (eraseR c))) []
  er24 : ImpC Tryz.prog 10 [.pa (encCore c)] [] (.pa (encCore (eraseR c))) []
  eq : ImpC Tryz.prog 9 [.pa (encCore (eraseR c)), .pa (encCore (eraseR c))] [] (B true) []
  erd : ImpC Tryz.prog 11 [.pa (encCore c)] [] (B (erdR c)) []
  erd24 : ImpC Tryz.prog 12 [.pa (encCore c)] [] (B (erdR c)) []
  erdE : ImpC Tryz.prog 11 [.pa (encCore (eraseR c))] [] (B true) []
theorem madeC (l : List Int) : MadeC (madeR l) := by
  obtain ⟨h1, h2⟩ := made_raw l
  have h3 := raw_tk _ h1
  have h4 := (erase_le (madeR l)).1
  have h5 := c_perd _ (eraseR (madeR l)) (Nat.le_refl _) (by omega)
  rw [erase_erd _ h3] at h5
  exact ⟨c_perase _ _ (Nat.le_refl _) (by omega) h3, c_erase _ _ (Nat.le_refl _) (by omega), c_eq18 _ _ (Nat.le_refl _) (erase_z0 _) (by omega), c_perd _ _ (Nat.le_refl _) (by omega), c_rerd _ _ (Nat.le_refl _) (by omega), h5⟩
def bsV (l : List Bind) : V := .one (.c (.sl 15 (encBinds l)))
theorem c_EraseTells (l m : List Int) (hl : Nums l) (hf : Fits l) (hl2 : Nums m) (hf2 : Fits m) : ImpC Tryz.prog 3 [intsV l, intsV m] [] (B true) [] := by
  have hma : ImpC Tryz.prog 5 [intsV l] [] (.pa (encCore (madeR l))) [] := c_made l hl hf
  have hmb : ImpC Tryz.prog 5 [intsV m] [] (.pa (encCore (madeR m))) [] := c_made m hl2 hf2
  have hpl := c_plain l hl hf
  have ha := madeC l
  have hb := madeC m
  have hlv := c_lives24
  generalize madeR l = a at hma ha
  generalize madeR m = b at hmb hb
  generalize (buildR 5 (l.take 24)).1 = T at hpl
  have hbi : ImpC Tryz.prog 8 [bsV [.mk [112] T a, .mk [113] zTy b]] [] (bsV [.mk [112] zTy (eraseR a), .mk [113] zTy (eraseR b)]) [] := by
    have := c_pebinds [.mk [112] T a, .mk [113] zTy b] (by simp) (fun x hx => by
      rcases List.mem_cons.1 hx with rfl | hx
      · exact ha.er
      · rw [List.mem_singleton.1 hx]; exact hb.er)
    rw [eraseBs, eraseBs, eraseBs] at this
    exact this
  have hbn : ImpC Tryz.prog 8 [bsV []] [] (bsV []) [] := by
    have := c_pebinds [] (by simp) (fun x hx => by simp at hx)
    rw [eraseBs] at this
    exact this
  obtain ⟨a1, a2, a3, a4, a5, a6⟩ := ha
  obtain ⟨b1, b2, b3, b4, b5, b6⟩ := hb
  clear b4 b5 b6
  generalize erdR a = e at a4 a5
  have hee : (e == e) = true := by simp
  generalize eraseR a = x at *
  generalize eraseR b = y at *
  refine impC (n := 92) tok Tryz.func3 rfl rfl rfl ?_
  refine awp_seq (ag [] rfl ?_)
  refine awp_seq (ag [(1, .pc (.pa (encCore a)))] rfl ?_)
  refine awp_seq (ag [(1, .pc (.pa (encCore b)))] rfl ?_)
  refine awp_seq (ag [(1, .pc (.pa (encCore x)))] rfl ?_)
  refine awp_seq (ag [(1, .pc (tyV T)), (6, .all)] rfl ?_)
  refine awp_seq (ag [(1, .pc (bsV [.mk [112] zTy x, .mk [113] zTy y]))] rfl ?_)
  refine awp_seq (awp_seq (ag [] rfl ?_))
  refine awp_cond rfl (fun hb => by cases hb) (fun _ => ?_)
  refine awp_skip ?_
  refine awp_seq (awp_seq (ag [] rfl ?_))
  refine awp_block ?_
  refine awp_loop (fun i : Nat => mk [(5, .one (.vp 5 0)), (7, .one (.vp 7 0)), (8, bsV [.mk [112] T a, .mk [113] zTy b]), (9, bsV [.mk [112] zTy x, .mk [113] zTy y]), (10, I .i64 i)] [(5, .var 30 (cellsC a)), (7, .var 30 (cellsC x))]) (fun i => i ≤ 2) (fun i => 2 - i) 0 (Nat.zero_le _) sl ?_
  intro i hi
  refine awp_seq (awp_seq (ag [] rfl ?_))
  refine awp_cond rfl (fun hb => ?_) (fun hb => ?_)
  · have hlt : i < 2 := by
      have : (i : Int) < 2 := of_decide_eq_true hb
      omega
    refine awp_skip ?_
    have h01 : i = 0 ∨ i = 1 := by omega
    rcases h01 with rfl | rfl
    · refine awp_seq (awp_block ?_)
      refine awp_seq (ag [(2, .row 0 (encBind (.mk [112] zTy x))), (7, .row 0 (encBind (.mk [112] T a))), (11, .bv false), (14, .row 0 (encBind (.mk [112] zTy x))), (19, .bv false), (20, .bv false), (23, .row 0 (encBind (.mk [112] zTy x))), (28, .row 0 (encBind (.mk [112] T a))), (31, .pc (.pa (encCore x))), (32, .pc (B true)), (34, .bv false)] rfl ?_)
      refine awp_cond rfl (fun hb => by cases hb) (fun _ => ?_)
      refine awp_skip ?_
      refine ag [] rfl ?_
      exact ⟨1, by omega, by dsimp only; omega, sl⟩
    · refine awp_seq (awp_block ?_)
      refine awp_seq (ag [(2, .row 1 (encBind (.mk [113] zTy y))), (7, .row 1 (encBind (.mk [113] zTy b))), (11, .bv false), (14, .row 1 (encBind (.mk [113] zTy y))), (19, .bv false), (20, .bv false), (23, .row 1 (encBind (.mk [113] zTy y))), (28, .row 1 (encBind (.mk [113] zTy b))), (31, .pc (.pa (encCore y))), (32, .pc (B true)), (34, .bv false)] rfl ?_)
      refine awp_cond rfl (fun hb => by cases hb) (fun _ => ?_)
      refine awp_skip ?_
      refine ag [] rfl ?_
      exact ⟨2, by omega, by dsimp only; omega, sl⟩
  have hge : i = 2 := by
    have : ¬ (i : Int) < 2 := of_decide_eq_false hb
    omega
  subst hge
  refine awp_exit ?_
  refine awp_seq (ag [(2, .pc (.pa (encCore x))), (3, .pc (B true)), (4, .bv true), (6, .pc (B e)), (8, .pc (B e)), (10, .bv true), (11, .bv true), (13, .pc (.pa (encCore x))), (14, .pc (B true)), (15, .bv true), (16, .bv true), (17, .pc (bsV [])), (20, .bv true), (21, .bv true), (22, .pc (B true)), (23, .bv true)] rfl ?_)
  exact awp_ret rtT
end Go.Proofs.YtnookidjdjhfhaaGreatDoor
