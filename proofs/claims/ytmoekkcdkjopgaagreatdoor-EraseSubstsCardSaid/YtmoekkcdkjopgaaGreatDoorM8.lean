/-
  Texts La6, La7, La8, La9, La10, Lz1, Am28, Am29, Am30, Lz2, Lb1 in one.
-/
import Derived.Test.YtmoekkcdkjopgaaGreatDoorM7
import Derived.Shelf.Spec.SlicesGrow
/- CORE, made of numbers: the walk. -/
namespace Go.Proofs.YtmoekkcdkjopgaaGreatDoor
open Go Go.AM
set_option maxRecDepth 20000
def gOf : Nat → List Int → Int → Mk
  | 0 => fun l left => (.mk 0 0 [] zTy [] [] [], l, left)
  | f + 1 => coreR f
theorem coreR_eq (f : Nat) (l : List Int) (left : Int) : coreR f l left = coreK (gOf f) (nextR l).1 (if f = 0 ∨ left - 1 < 1 then (nextR l).1 % 4 else (nextR l).1 % 14) (nextR l).2 (left - 1) := by
  cases f with
  | zero => simp [coreR, gOf]
  | succ f => simp [coreR, gOf]
/-- A maker's contract, so deep. -/
def MkSpec (g : List Int → Int → Mk) (dp : Int) (N : Nat) : Prop := ∀ l left, Nums l → Fits l → -9223372036854775808 + (N : Int) ≤ left → left ≤ 1000000 →
  ImpC Tryz.prog 35 [.one (.vp 700 0), I .i64 dp] (mkO l left) (.pa (encCore (g l left).1)) (mkO (g l left).2.1 (g l left).2.2)
theorem c_core_step (f : Nat) (dp : Int) (hd : dp + f = 6) (h0 : 0 ≤ dp) (ih : 1 ≤ f → MkSpec (gOf f) (dp + 1) (use (f - 1))) (hg : 1 ≤ f → MkOk (gOf f) (use (f - 1))) : MkSpec (coreR f) dp (use f) := by
  intro l left hl hf hlo hhi
  have hn := nextR_lt l
  have hl1 := hl.suf (nextR_suf l)
  have hf1 := hf.suf (nextR_suf l)
  have huse : 1 ≤ use f := by cases f <;> simp [use]
  refine impC (n := 211) tok Tryz.func35 rfl rfl rfl ?_
  refine awp_seq (ag [] rfl ?_)
  refine awp_seq (awp_rg mixed ?_)
  refine ak 1 [] rfl ?_
  refine kc (c_next l left hl hf) ?_
  refine ak 1 [] rfl ?_
  refine az ?_
  refine awp_seq (ag [] rfl ?_)
  refine awp_seq (ag [] rfl ?_)
  refine awp_seq (AWp.cut (mk [(0, .one (.vp 700 0)), (1, I .i64 dp), (4, .one (.vp 4 0)), (5, I .i64 (nextR l).1), (6, I .i64 (if f = 0 ∨ left - 1 < 1 then (nextR l).1 % 4 else (nextR l).1 % 14))] ((4, .var 37 [.c (.int .i64 0), .c (.int .i64 0), .c (.str []), .c (.int .i64 0), .c (.int .i64 0), .c (.str []), .c .nl, .c .nl, .c .nl, .c .nl]) :: mkO (nextR l).2 (left - 1))) ?_ ?_)
  · refine awp_seq (agF 3 [] rfl rfl rfl ?_)
    refine awp_cond rfl (fun hb => ?_) (fun hb => ?_)
    · have hb' : f = 0 ∨ left - 1 < 1 := by
        simp at hb
        omega
      refine ag [] rfl ?_
      rw [if_pos hb']
      exact .list (fun i => i) ⟨rfl, rfl, rfl, rfl, rfl, trivial⟩ ⟨⟨_, rfl, .var rfl⟩, ⟨_, rfl, .var rfl⟩, trivial⟩ rfl
    · have hb' : ¬ (f = 0 ∨ left - 1 < 1) := by
        simp at hb
        omega
      refine awp_skip ?_
      rw [if_neg hb']
      exact .list (fun i => i) ⟨rfl, rfl, rfl, rfl, rfl, trivial⟩ ⟨⟨_, rfl, .var rfl⟩, ⟨_, rfl, .var rfl⟩, trivial⟩ rfl
  have hr0 := coreR_eq f l left
  have hk0 : 0 ≤ (if f = 0 ∨ left - 1 < 1 then (nextR l).1 % 4 else (nextR l).1 % 14) := by split <;> omega
  have hkf : 4 ≤ (if f = 0 ∨ left - 1 < 1 then (nextR l).1 % 4 else (nextR l).1 % 14) → 1 ≤ f ∧ 1 ≤ left - 1 := by split <;> omega
  rw [hr0]
  clear hr0
  generalize (if f = 0 ∨ left - 1 < 1 then (nextR l).1 % 4 else (nextR l).1 % 14) = k at hk0 hkf ⊢
  generalize (nextR l).2 = l1 at hl1 hf1 ⊢
  generalize (nextR l).1 = n at hn ⊢
  have hlu : -9223372036854775808 + (use f : Int) ≤ left := hlo
  refine awp_seq (awp_seq (ag [] rfl ?_))

  refine awp_block (awp_seq (awp_seq (ag [] rfl ?_)))
  refine awp_cond rfl (fun hb => ?_) (fun hb => ?_)
  · have h0 : k = 0 := by simpa using hb
    refine awp_skip (awp_cond rfl (fun _ => ?_) (fun hb' => by rw [hb] at hb'; cases hb'))
    have hr : coreK (gOf f) n k l1 (left - 1) = (.mk 1 0 (oneOf nmL (n / 14)) zTy [] [] [], l1, left - 1) := by
      unfold coreK
      rw [if_pos (by omega)]
    rw [hr]
    refine awp_seq (awp_rg mixed ?_)
    refine ak 2 [] rfl ?_
    refine kc (c_name (n / 14) (by unfold i64; omega)) ?_
    refine ak 2 [] rfl ?_
    refine az ?_
    refine awp_ret ?_
    exact ⟨.inr rfl, ⟨_, _, .cell rfl (tg rfl) rfl rfl rfl .nil, .cons (by (first | apply Go.AM.Conv.pa | apply Go.AM.Conv.agg); repeat (first | exact .nil | apply Go.AM.PureL.c .refl | apply Go.AM.PureL.c .nl | (apply Go.AM.PureL.hs; rfl; (first | rfl | simp); (first | rfl | exact Go.AM.take_map.symm)))) .nil, rfl⟩, ⟨⟨_, rfl, .var rfl⟩, trivial⟩, rfl⟩
  · have h0 : ¬ k = 0 := by simpa using hb
    refine ag [] rfl ?_
    refine awp_cond rfl (fun hb1 => ?_) (fun hb1 => ?_)
    · have h1 : k = 1 := by simpa using hb1
      have hr : coreK (gOf f) n k l1 (left - 1) = (.mk 1 0 (oneOf nmL (n / 14)) zTy [] [] [], l1, left - 1) := by
        unfold coreK
        rw [if_pos (by omega)]
      rw [hr]
      refine awp_seq (awp_rg mixed ?_)
      refine ak 2 [] rfl ?_
      refine kc (c_name (n / 14) (by unfold i64; omega)) ?_
      refine ak 2 [] rfl ?_
      refine az ?_
      refine awp_ret ?_
      exact ⟨.inr rfl, ⟨_, _, .cell rfl (tg rfl) rfl rfl rfl .nil, .cons (by (first | apply Go.AM.Conv.pa | apply Go.AM.Conv.agg); repeat (first | exact .nil | apply Go.AM.PureL.c .refl | apply Go.AM.PureL.c .nl | (apply Go.AM.PureL.hs; rfl; (first | rfl | simp); (first | rfl | exact Go.AM.take_map.symm)))) .nil, rfl⟩, ⟨⟨_, rfl, .var rfl⟩, trivial⟩, rfl⟩
    · have h1 : ¬ k = 1 := by simpa using hb1
      have c1 : ¬ k < 2 := by omega
      refine awp_seq (ag [] rfl ?_)
      refine awp_cond rfl (fun hb2 => ?_) (fun hb2 => ?_)
      · have h2 : k = 2 := by simpa using hb2
        have hr : coreK (gOf f) n k l1 (left - 1) = (.mk 2 0 (oneOf conL (n / 14)) zTy [] [] [], l1, left - 1) := by
          unfold coreK
          rw [if_neg c1, if_pos h2]
        rw [hr]
        refine awp_seq (awp_rg mixed ?_)
        refine ak 2 [] rfl ?_
        refine kc (c_con (n / 14) (by unfold i64; omega)) ?_
        refine ak 2 [] rfl ?_
        refine az ?_
        refine awp_ret ?_
        exact ⟨.inr rfl, ⟨_, _, .cell rfl (tg rfl) rfl rfl rfl .nil, .cons (by (first | apply Go.AM.Conv.pa | apply Go.AM.Conv.agg); repeat (first | exact .nil | apply Go.AM.PureL.c .refl | apply Go.AM.PureL.c .nl | (apply Go.AM.PureL.hs; rfl; (first | rfl | simp); (first | rfl | exact Go.AM.take_map.symm)))) .nil, rfl⟩, ⟨⟨_, rfl, .var rfl⟩, trivial⟩, rfl⟩
      · have h2 : ¬ k = 2 := by simpa using hb2
        refine awp_seq (ag [] rfl ?_)
        refine awp_cond rfl (fun hb3 => ?_) (fun hb3 => ?_)
        · have h3 : k = 3 := by simpa using hb3
          have hr : coreK (gOf f) n k l1 (left - 1) = (.mk 3 (n / 14 - 3) [] zTy [] [] [], l1, left - 1) := by
            unfold coreK
            rw [if_neg c1, if_neg h2, if_pos h3]
          rw [hr]
          refine awp_seq (ag [] rfl ?_)
          refine awp_ret ?_
          exact ⟨.inr rfl, ⟨_, _, .cell rfl (tg rfl) rfl rfl rfl .nil, .cons (by (first | apply Go.AM.Conv.pa | apply Go.AM.Conv.agg); repeat (first | exact .nil | apply Go.AM.PureL.c .refl | apply Go.AM.PureL.c .nl | (apply Go.AM.PureL.hs; rfl; (first | rfl | simp); (first | rfl | exact Go.AM.take_map.symm)))) .nil, rfl⟩, ⟨⟨_, rfl, .var rfl⟩, trivial⟩, rfl⟩
        · have h3 : ¬ k = 3 := by simpa using hb3
          refine awp_seq (awp_seq (ag [] rfl ?_))
          refine awp_cond rfl (fun hb4 => ?_) (fun hb4 => ?_)
          · have h4 : k = 4 := by simpa using hb4
            refine awp_skip (awp_cond rfl (fun _ => ?_) (fun hb' => by rw [hb4] at hb'; cases hb'))
            obtain ⟨hf0, hl0⟩ := hkf (by omega)
            have ho := hg hf0
            have hu : use f = 1 + 4 * use (f - 1) := by cases f with | zero => omega | succ f => rfl
            have g1 := ho.suf l1 (left - 1)
            have g2 := ho.le l1 (left - 1)
            have g3 := ho.ge l1 (left - 1)
            have ih1 := ih hf0 l1 (left - 1) hl1 hf1 (by omega) (by omega)
            have ih2 := ih hf0 (gOf f l1 (left - 1)).2.1 (gOf f l1 (left - 1)).2.2 (hl1.suf g1) (hf1.suf g1) (by omega) (by omega)
            have hr : coreK (gOf f) n k l1 (left - 1) = (.mk 4 0 [] zTy [(gOf f l1 (left - 1)).1, (gOf f (gOf f l1 (left - 1)).2.1 (gOf f l1 (left - 1)).2.2).1] [] [], (gOf f (gOf f l1 (left - 1)).2.1 (gOf f l1 (left - 1)).2.2).2) := by
              unfold coreK
              rw [if_neg c1, if_neg h2, if_neg h3, if_pos (by omega)]
            rw [hr]
            refine awp_seq (awp_rg mixed ?_)
            refine ak 3 [] rfl ?_
            refine kc ih1 ?_
            refine ak 2 [] rfl ?_
            refine az ?_
            refine awp_seq (awp_rg mixed ?_)
            refine ak 4 [] rfl ?_
            refine kc ih2 ?_
            refine ak 3 [] rfl ?_
            refine az ?_
            refine AWp.sub (Sub.freeze (id := 72) rfl) (awp_ret ?_)
            exact ⟨.inr rfl, ⟨_, _, .cell rfl (tg rfl) rfl rfl rfl .nil, .cons (by (first | apply Go.AM.Conv.pa | apply Go.AM.Conv.agg); repeat (first | exact .nil | apply Go.AM.PureL.c .refl | apply Go.AM.PureL.c .nl | (apply Go.AM.PureL.hs; rfl; (first | rfl | simp); (first | rfl | exact Go.AM.take_map.symm)))) .nil, rfl⟩, ⟨⟨_, rfl, .var rfl⟩, trivial⟩, rfl⟩
          · have h4 : ¬ k = 4 := by simpa using hb4
            refine ag [] rfl ?_
            refine awp_cond rfl (fun hb5 => ?_) (fun hb5 => ?_)
            · have h5 : k = 5 := by simpa using hb5
              obtain ⟨hf0, hl0⟩ := hkf (by omega)
              have ho := hg hf0
              have hu : use f = 1 + 4 * use (f - 1) := by cases f with | zero => omega | succ f => rfl
              have g1 := ho.suf l1 (left - 1)
              have g2 := ho.le l1 (left - 1)
              have g3 := ho.ge l1 (left - 1)
              have ih1 := ih hf0 l1 (left - 1) hl1 hf1 (by omega) (by omega)
              have ih2 := ih hf0 (gOf f l1 (left - 1)).2.1 (gOf f l1 (left - 1)).2.2 (hl1.suf g1) (hf1.suf g1) (by omega) (by omega)
              have hr : coreK (gOf f) n k l1 (left - 1) = (.mk 4 0 [] zTy [(gOf f l1 (left - 1)).1, (gOf f (gOf f l1 (left - 1)).2.1 (gOf f l1 (left - 1)).2.2).1] [] [], (gOf f (gOf f l1 (left - 1)).2.1 (gOf f l1 (left - 1)).2.2).2) := by
                unfold coreK
                rw [if_neg c1, if_neg h2, if_neg h3, if_pos (by omega)]
              rw [hr]
              refine awp_seq (awp_rg mixed ?_)
              refine ak 3 [] rfl ?_
              refine kc ih1 ?_
              refine ak 2 [] rfl ?_
              refine az ?_
              refine awp_seq (awp_rg mixed ?_)
              refine ak 4 [] rfl ?_
              refine kc ih2 ?_
              refine ak 3 [] rfl ?_
              refine az ?_
              refine AWp.sub (Sub.freeze (id := 72) rfl) (awp_ret ?_)
              exact ⟨.inr rfl, ⟨_, _, .cell rfl (tg rfl) rfl rfl rfl .nil, .cons (by (first | apply Go.AM.Conv.pa | apply Go.AM.Conv.agg); repeat (first | exact .nil | apply Go.AM.PureL.c .refl | apply Go.AM.PureL.c .nl | (apply Go.AM.PureL.hs; rfl; (first | rfl | simp); (first | rfl | exact Go.AM.take_map.symm)))) .nil, rfl⟩, ⟨⟨_, rfl, .var rfl⟩, trivial⟩, rfl⟩
            · have h5 : ¬ k = 5 := by simpa using hb5
              have c2 : ¬ k < 6 := by omega
              refine awp_seq (awp_seq (ag [] rfl ?_))
              refine awp_cond rfl (fun hb6 => ?_) (fun hb6 => ?_)
              · have h6 : k = 6 := by simpa using hb6
                refine awp_skip (awp_cond rfl (fun _ => ?_) (fun hb' => by rw [hb6] at hb'; cases hb'))
                obtain ⟨hf0, hl0⟩ := hkf (by omega)
                have ho := hg hf0
                have hu : use f = 1 + 4 * use (f - 1) := by cases f with | zero => omega | succ f => rfl
                have ht := typR_suf 2 l1
                have iht := ih hf0 (typR 2 l1).2 (left - 1) (hl1.suf ht) (hf1.suf ht) (by omega) (by omega)
                have hty := c_typ (left - 1) 2 l1 1 hl1 hf1 (by omega) (by omega)
                have hr : coreK (gOf f) n k l1 (left - 1) = (.mk 5 0 (oneOf nmL (n / 14)) (typR 2 l1).1 [(gOf f (typR 2 l1).2 (left - 1)).1] [] [], (gOf f (typR 2 l1).2 (left - 1)).2) := by
                  unfold coreK
                  rw [if_neg c1, if_neg h2, if_neg h3, if_neg c2, if_pos (by omega)]
                rw [hr]
                refine awp_seq (awp_rg mixed ?_)
                refine ak 1 [] rfl ?_
                refine kc hty ?_
                refine ak 2 [] rfl ?_
                refine az ?_
                refine awp_seq (awp_rg mixed ?_)
                refine ak 2 [] rfl ?_
                refine kc (c_name (n / 14) (by unfold i64; omega)) ?_
                refine ak 4 [] rfl ?_
                refine kc iht ?_
                refine ak 3 [] rfl ?_
                refine az ?_
                refine AWp.sub (Sub.freeze (id := 87) rfl) (awp_ret ?_)
                exact ⟨.inr rfl, ⟨_, _, .cell rfl (tg rfl) rfl rfl rfl .nil, .cons (by (first | apply Go.AM.Conv.pa | apply Go.AM.Conv.agg); repeat (first | exact .nil | apply Go.AM.PureL.c .refl | apply Go.AM.PureL.c .nl | (apply Go.AM.PureL.hs; rfl; (first | rfl | simp); (first | rfl | exact Go.AM.take_map.symm)))) .nil, rfl⟩, ⟨⟨_, rfl, .var rfl⟩, trivial⟩, rfl⟩
              · have h6 : ¬ k = 6 := by simpa using hb6
                refine ag [] rfl ?_
                refine awp_cond rfl (fun hb7 => ?_) (fun hb7 => ?_)
                · have h7 : k = 7 := by simpa using hb7
                  obtain ⟨hf0, hl0⟩ := hkf (by omega)
                  have ho := hg hf0
                  have hu : use f = 1 + 4 * use (f - 1) := by cases f with | zero => omega | succ f => rfl
                  have ht := typR_suf 2 l1
                  have iht := ih hf0 (typR 2 l1).2 (left - 1) (hl1.suf ht) (hf1.suf ht) (by omega) (by omega)
                  have hty := c_typ (left - 1) 2 l1 1 hl1 hf1 (by omega) (by omega)
                  have hr : coreK (gOf f) n k l1 (left - 1) = (.mk 5 0 (oneOf nmL (n / 14)) (typR 2 l1).1 [(gOf f (typR 2 l1).2 (left - 1)).1] [] [], (gOf f (typR 2 l1).2 (left - 1)).2) := by
                    unfold coreK
                    rw [if_neg c1, if_neg h2, if_neg h3, if_neg c2, if_pos (by omega)]
                  rw [hr]
                  refine awp_seq (awp_rg mixed ?_)
                  refine ak 1 [] rfl ?_
                  refine kc hty ?_
                  refine ak 2 [] rfl ?_
                  refine az ?_
                  refine awp_seq (awp_rg mixed ?_)
                  refine ak 2 [] rfl ?_
                  refine kc (c_name (n / 14) (by unfold i64; omega)) ?_
                  refine ak 4 [] rfl ?_
                  refine kc iht ?_
                  refine ak 3 [] rfl ?_
                  refine az ?_
                  refine AWp.sub (Sub.freeze (id := 87) rfl) (awp_ret ?_)
                  exact ⟨.inr rfl, ⟨_, _, .cell rfl (tg rfl) rfl rfl rfl .nil, .cons (by (first | apply Go.AM.Conv.pa | apply Go.AM.Conv.agg); repeat (first | exact .nil | apply Go.AM.PureL.c .refl | apply Go.AM.PureL.c .nl | (apply Go.AM.PureL.hs; rfl; (first | rfl | simp); (first | rfl | exact Go.AM.take_map.symm)))) .nil, rfl⟩, ⟨⟨_, rfl, .var rfl⟩, trivial⟩, rfl⟩
                · have h7 : ¬ k = 7 := by simpa using hb7
                  have c3 : ¬ k < 8 := by omega
                  refine awp_seq (ag [] rfl ?_)
                  refine awp_cond rfl (fun hb8 => ?_) (fun hb8 => ?_)
                  · have h8 : k = 8 := by simpa using hb8
                    obtain ⟨hf0, hl0⟩ := hkf (by omega)
                    have ho := hg hf0
                    have hu : use f = 1 + 4 * use (f - 1) := by cases f with | zero => omega | succ f => rfl
                    have ht := typR_suf 2 l1
                    have iht := ih hf0 (typR 2 l1).2 (left - 1) (hl1.suf ht) (hf1.suf ht) (by omega) (by omega)
                    have hty := c_typ (left - 1) 2 l1 1 hl1 hf1 (by omega) (by omega)
                    have hr : coreK (gOf f) n k l1 (left - 1) = (.mk 6 0 [] (typR 2 l1).1 [(gOf f (typR 2 l1).2 (left - 1)).1] [] [], (gOf f (typR 2 l1).2 (left - 1)).2) := by
                      unfold coreK
                      rw [if_neg c1, if_neg h2, if_neg h3, if_neg c2, if_neg c3, if_pos h8]
                    rw [hr]
                    refine awp_seq (awp_rg mixed ?_)
                    refine ak 1 [] rfl ?_
                    refine kc hty ?_
                    refine ak 2 [] rfl ?_
                    refine az ?_
                    refine awp_seq (awp_rg mixed ?_)
                    refine ak 4 [] rfl ?_
                    refine kc iht ?_
                    refine ak 3 [] rfl ?_
                    refine az ?_
                    refine AWp.sub (Sub.freeze (id := 98) rfl) (awp_ret ?_)
                    exact ⟨.inr rfl, ⟨_, _, .cell rfl (tg rfl) rfl rfl rfl .nil, .cons (by (first | apply Go.AM.Conv.pa | apply Go.AM.Conv.agg); repeat (first | exact .nil | apply Go.AM.PureL.c .refl | apply Go.AM.PureL.c .nl | (apply Go.AM.PureL.hs; rfl; (first | rfl | simp); (first | rfl | exact Go.AM.take_map.symm)))) .nil, rfl⟩, ⟨⟨_, rfl, .var rfl⟩, trivial⟩, rfl⟩
                  · have h8 : ¬ k = 8 := by simpa using hb8
                    refine awp_seq (ag [] rfl ?_)
                    refine awp_cond rfl (fun hb9 => ?_) (fun hb9 => ?_)
                    · have h9 : k = 9 := by simpa using hb9
                      obtain ⟨hf0, hl0⟩ := hkf (by omega)
                      have ho := hg hf0
                      have hu : use f = 1 + 4 * use (f - 1) := by cases f with | zero => omega | succ f => rfl
                      have g1 := ho.suf l1 (left - 1)
                      have g2 := ho.le l1 (left - 1)
                      have g3 := ho.ge l1 (left - 1)
                      have ih1 := ih hf0 l1 (left - 1) hl1 hf1 (by omega) (by omega)
                      have ih2 := ih hf0 (gOf f l1 (left - 1)).2.1 (gOf f l1 (left - 1)).2.2 (hl1.suf g1) (hf1.suf g1) (by omega) (by omega)
                      have hr : coreK (gOf f) n k l1 (left - 1) = (.mk 7 0 (oneOf tnmL (n / 14)) zTy [(gOf f l1 (left - 1)).1] [] [], (gOf f l1 (left - 1)).2) := by
                        unfold coreK
                        rw [if_neg c1, if_neg h2, if_neg h3, if_neg c2, if_neg c3, if_neg h8, if_pos h9]
                      rw [hr]
                      refine awp_seq (awp_rg mixed ?_)
                      refine ak 2 [] rfl ?_
                      refine kc (c_tname (n / 14) (by unfold i64; omega)) ?_
                      refine ak 3 [] rfl ?_
                      refine kc ih1 ?_
                      refine ak 3 [] rfl ?_
                      refine az ?_
                      refine AWp.sub (Sub.freeze (id := 109) rfl) (awp_ret ?_)
                      exact ⟨.inr rfl, ⟨_, _, .cell rfl (tg rfl) rfl rfl rfl .nil, .cons (by (first | apply Go.AM.Conv.pa | apply Go.AM.Conv.agg); repeat (first | exact .nil | apply Go.AM.PureL.c .refl | apply Go.AM.PureL.c .nl | (apply Go.AM.PureL.hs; rfl; (first | rfl | simp); (first | rfl | exact Go.AM.take_map.symm)))) .nil, rfl⟩, ⟨⟨_, rfl, .var rfl⟩, trivial⟩, rfl⟩
                    · have h9 : ¬ k = 9 := by simpa using hb9
                      refine awp_seq (ag [] rfl ?_)
                      refine awp_cond rfl (fun hb10 => ?_) (fun hb10 => ?_)
                      · have h10 : k = 10 := by simpa using hb10
                        obtain ⟨hf0, hl0⟩ := hkf (by omega)
                        have ho := hg hf0
                        have hu : use f = 1 + 4 * use (f - 1) := by cases f with | zero => omega | succ f => rfl
                        have hnm := namesR_len l1
                        have hr : coreK (gOf f) n k l1 (left - 1) = (.mk 8 0 [] zTy [(gOf f (bindsTo (gOf f) (namesR l1).1 (namesR l1).2 (left - 1) (namesR l1).1.length).2.1 (bindsTo (gOf f) (namesR l1).1 (namesR l1).2 (left - 1) (namesR l1).1.length).2.2).1] (bindsTo (gOf f) (namesR l1).1 (namesR l1).2 (left - 1) (namesR l1).1.length).1 [], (gOf f (bindsTo (gOf f) (namesR l1).1 (namesR l1).2 (left - 1) (namesR l1).1.length).2.1 (bindsTo (gOf f) (namesR l1).1 (namesR l1).2 (left - 1) (namesR l1).1.length).2.2).2) := by
                          unfold coreK
                          rw [if_neg c1, if_neg h2, if_neg h3, if_neg c2, if_neg c3, if_neg h8, if_neg h9, if_pos h10]
                        rw [hr]
                        refine awp_seq (awp_rg mixed ?_)
                        refine ak 1 [] rfl ?_
                        refine kc (c_names (left - 1) l1 hl1 hf1) ?_
                        refine ak 1 [] rfl ?_
                        refine az ?_
                        have hl2 := hl1.suf (namesR_suf l1)
                        have hf2 := hf1.suf (namesR_suf l1)
                        generalize (namesR l1).1 = ns at hnm ⊢
                        generalize (namesR l1).2 = l2 at hl2 hf2 ⊢
                        refine awp_seq (ag [] rfl ?_)
                        refine awp_seq (awp_seq (ag [] rfl ?_))
                        refine AWp.sub (Sub.ownCell (x := 11) (k := 8) (id := 800) 73 15 rfl rfl rfl) ?_
                        have hB := bindsTo_ok ho ns l2 (left - 1)
                        generalize hBd : bindsTo (gOf f) ns l2 (left - 1) = B at hB ⊢
                        refine awp_block (awp_loop (fun i : Nat => mk [(0, .one (.vp 700 0)), (1, I .i64 dp), (4, .one (.vp 4 0)), (10, .one (.c (.sl 1 (ns.map encS)))), (11, .one (.vp 11 0)), (12, I .i64 i)] ((4, .var 37 [.c (.int .i64 0), .c (.int .i64 0), .c (.str []), .c (.int .i64 0), .c (.int .i64 0), .c (.str []), .c .nl, .c .nl, .c .nl, .c .nl]) :: (11, .var 37 [.c (.int .i64 8), .c (.int .i64 0), .c (.str []), .c (.int .i64 0), .c (.int .i64 0), .c (.str []), .c .nl, .c .nl, .hs 800 0 (B i).1.length (B i).1.length, .c .nl]) :: (800, .arr 73 15 (encBinds (B i).1) 0) :: mkO (B i).2.1 (B i).2.2)) (fun i => i ≤ ns.length) (fun i => ns.length - i) 0 (Nat.zero_le _) (by rw [← hBd]; exact .list (fun i => i) ⟨rfl, rfl, rfl, rfl, rfl, rfl, trivial⟩ ⟨⟨_, rfl, .var rfl⟩, ⟨_, rfl, .var rfl⟩, ⟨_, rfl, .arr⟩, ⟨_, rfl, .var rfl⟩, trivial⟩ rfl) ?_)
                        intro i hi
                        obtain ⟨b1, b2, b3, b4⟩ := hB i
                        have hsz : (B i).1.length = (encBinds (B i).1).length := by rw [encBinds_map, List.length_map]
                        have hbl : (encBinds (B i).1).length ≤ 3 := by omega
                        have hm : (i : Int) * (use (f - 1) : Int) ≤ 3 * (use (f - 1) : Int) := Int.mul_le_mul_of_nonneg_right (by omega) (by omega)
                        have hlB := hl2.suf b1
                        have hfB := hf2.suf b1
                        refine awp_seq (awp_seq (ag [] rfl ?_))
                        refine awp_cond rfl (fun hb => ?_) (fun hb => ?_)
                        · refine awp_skip ?_
                          have hlt : i < ns.length := by simpa using hb
                          obtain ⟨s, hs⟩ := get_of_lt hlt
                          have hs' := getEnc encS hs
                          have hty := c_typ (B i).2.2 2 (B i).2.1 1 hlB hfB (by omega) (by omega)
                          have htS := typR_suf 2 (B i).2.1
                          have ihB := ih hf0 (typR 2 (B i).2.1).2 (B i).2.2 (hlB.suf htS) (hfB.suf htS) (by omega) (by omega)
                          have he : B (i + 1) = ((B i).1 ++ [.mk s (typR 2 (B i).2.1).1 (gOf f (typR 2 (B i).2.1).2 (B i).2.2).1], (gOf f (typR 2 (B i).2.1).2 (B i).2.2).2) := by
                            rw [← hBd, bindsTo, hs]
                            rfl
                          refine awp_seq (awp_block (awp_seq (awp_rg mixed ?_)))
                          refine ak 1 [] rfl ?_
                          refine kc hty ?_
                          refine ak 2 [] rfl ?_
                          refine az ?_
                          refine awp_rg mixed ?_
                          refine ak 10 [(4, .row i (encS s))] rfl ?_
                          refine kc ihB ?_
                          refine ak 5 [] rfl ?_
                          refine az ?_
                          refine ag [] rfl ?_
                          refine ⟨i + 1, hlt, by dsimp only; omega, ?_⟩
                          dsimp only
                          rw [he]
                          exact .list (fun i => i) ⟨rfl, rfl, rfl, rfl, rfl, rfl, trivial⟩ ⟨⟨_, rfl, .var rfl⟩, ⟨_, rfl, .var (by simp [R.renL, R.ren, encBinds_map])⟩, ⟨_, rfl, by rw [encBinds_map ((B i).1 ++ _), List.map_append, ← encBinds_map]; exact .arr⟩, ⟨_, rfl, .var rfl⟩, trivial⟩ rfl
                        · have hie : i = ns.length := by
                            have : ¬ i < ns.length := by simpa using hb
                            omega
                          rw [← hie]
                          have ihB := ih hf0 (B i).2.1 (B i).2.2 hlB hfB (by omega) (by omega)
                          have hE : encBinds (B i).1 = ((encBinds (B i).1).drop 0).take (B i).1.length := by rw [List.drop_zero, hsz, List.take_length]
                          refine awp_exit (awp_seq (awp_rg mixed ?_))
                          refine ak 3 [] rfl ?_
                          refine kc ihB ?_
                          refine ak 3 [] rfl ?_
                          refine az ?_
                          refine awp_seq (ag [] rfl ?_)
                          refine AWp.sub (Sub.freeze (id := 800) rfl) (AWp.sub (Sub.freeze (id := 143) rfl) (awp_ret ?_))
                          exact ⟨.inr rfl, ⟨_, _, .cell rfl (tg rfl) rfl rfl rfl .nil, .cons (by (first | apply Go.AM.Conv.pa | apply Go.AM.Conv.agg); repeat (first | exact .nil | apply Go.AM.PureL.c .refl | apply Go.AM.PureL.c .nl | (apply Go.AM.PureL.hs; rfl; (first | rfl | assumption | simp); (first | exact hE | rfl)))) .nil, rfl⟩, ⟨⟨_, rfl, .var rfl⟩, trivial⟩, rfl⟩
                      · have h10 : ¬ k = 10 := by simpa using hb10
                        refine awp_seq (ag [] rfl ?_)
                        refine awp_cond rfl (fun hb11 => ?_) (fun hb11 => ?_)
                        · have h11 : k = 11 := by simpa using hb11
                          obtain ⟨hf0, hl0⟩ := hkf (by omega)
                          have ho := hg hf0
                          have hu : use f = 1 + 4 * use (f - 1) := by cases f with | zero => omega | succ f => rfl
                          have ht := typR_suf 2 l1
                          have iht := ih hf0 (typR 2 l1).2 (left - 1) (hl1.suf ht) (hf1.suf ht) (by omega) (by omega)
                          have hty := c_typ (left - 1) 2 l1 1 hl1 hf1 (by omega) (by omega)
                          have hr : coreK (gOf f) n k l1 (left - 1) = (.mk 9 0 [] (typR 2 l1).1 [(gOf f (typR 2 l1).2 (left - 1)).1] [] (altsTo (gOf f) n (gOf f (typR 2 l1).2 (left - 1)).2.1 (gOf f (typR 2 l1).2 (left - 1)).2.2 (n / 14 % 4).toNat).1, (altsTo (gOf f) n (gOf f (typR 2 l1).2 (left - 1)).2.1 (gOf f (typR 2 l1).2 (left - 1)).2.2 (n / 14 % 4).toNat).2) := by
                            unfold coreK
                            rw [if_neg c1, if_neg h2, if_neg h3, if_neg c2, if_neg c3, if_neg h8, if_neg h9, if_neg h10, if_pos h11]
                          rw [hr]
                          refine awp_seq (awp_rg mixed ?_)
                          refine ak 1 [] rfl ?_
                          refine kc hty ?_
                          refine ak 3 [] rfl ?_
                          refine az ?_
                          refine awp_seq (awp_rg mixed ?_)
                          refine ak 3 [] rfl ?_
                          refine kc iht ?_
                          refine ak 3 [] rfl ?_
                          refine az ?_
                          have g1 := (ho.suf (typR 2 l1).2 (left - 1)).trans ht
                          have g2 := ho.le (typR 2 l1).2 (left - 1)
                          have g3 := ho.ge (typR 2 l1).2 (left - 1)
                          have hl2 := hl1.suf g1
                          have hf2 := hf1.suf g1
                          generalize gOf f (typR 2 l1).2 (left - 1) = c at g2 g3 hl2 hf2 ⊢
                          generalize (typR 2 l1).1 = t
                          refine awp_seq (awp_seq (ag [] rfl ?_))
                          refine AWp.sub (Sub.freeze (id := 155) rfl) (AWp.sub (Sub.ownCell (x := 14) (k := 9) (id := 900) 78 14 rfl rfl rfl) ?_)
                          have hA := altsTo_ok ho n c.2.1 c.2.2
                          generalize hAd : altsTo (gOf f) n c.2.1 c.2.2 = A at hA ⊢
                          refine awp_block (awp_loop (fun i : Nat => mk [(0, .one (.vp 700 0)), (1, I .i64 dp), (4, .one (.vp 4 0)), (5, I .i64 n), (14, .one (.vp 14 0)), (15, I .i64 i)] ((4, .var 37 [.c (.int .i64 0), .c (.int .i64 0), .c (.str []), .c (.int .i64 0), .c (.int .i64 0), .c (.str []), .c .nl, .c .nl, .c .nl, .c .nl]) :: (14, .var 37 [.c (.int .i64 9), .c (.int .i64 0), .c (.str []), .c (.int .i64 t.form), .c (.int .i64 t.n), .c (.str t.name), .c (.sl 4 (encArgs t)), .hs 155 0 1 1, .c .nl, .hs 900 0 (A i).1.length (A i).1.length]) :: (155, .arr 37 10 [encCore c.1] 2) :: (900, .arr 78 14 (encAlts (A i).1) 0) :: mkO (A i).2.1 (A i).2.2)) (fun i => (i : Int) ≤ n / 14 % 4) (fun i => 4 - i) 0 (by simp; omega) (by rw [← hAd]; exact .list (fun i => i) ⟨rfl, rfl, rfl, rfl, rfl, rfl, trivial⟩ ⟨⟨_, rfl, .var rfl⟩, ⟨_, rfl, .var rfl⟩, ⟨_, rfl, .arr⟩, ⟨_, rfl, .arr⟩, ⟨_, rfl, .var rfl⟩, trivial⟩ rfl) ?_)
                          intro i hi
                          obtain ⟨b1, b2, b3, b4⟩ := hA i
                          have hsz : (A i).1.length = (encAlts (A i).1).length := by rw [encAlts_map, List.length_map]
                          have hbl : (encAlts (A i).1).length ≤ 3 := by omega
                          have hm : (i : Int) * (use (f - 1) : Int) ≤ 3 * (use (f - 1) : Int) := Int.mul_le_mul_of_nonneg_right (by omega) (by omega)
                          have hlA := hl2.suf b1
                          have hfA := hf2.suf b1
                          refine awp_seq (awp_seq (ag [] rfl ?_))
                          refine awp_cond rfl (fun hb => ?_) (fun hb => ?_)
                          · refine awp_skip ?_
                            have hlt : (i : Int) < n / 14 % 4 := by simpa using hb
                            have hm2 : (i : Int) * (use (f - 1) : Int) ≤ 2 * (use (f - 1) : Int) := Int.mul_le_mul_of_nonneg_right (by omega) (by omega)
                            have hnames := c_names (A i).2.2 (A i).2.1 hlA hfA
                            have hnS := namesR_suf (A i).2.1
                            have ihA := ih hf0 (namesR (A i).2.1).2 (A i).2.2 (hlA.suf hnS) (hfA.suf hnS) (by omega) (by omega)
                            have hi3 : i = 0 ∨ i = 1 ∨ i = 2 := by omega
                            rcases hi3 with rfl | rfl | rfl
                            · -- 0
                              have he : A (0 + 1) = ((A 0).1 ++ [.mk 1 0 (oneOf conL (n / 14 + ((0 : Nat) : Int))) (namesR (A 0).2.1).1 (gOf f (namesR (A 0).2.1).2 (A 0).2.2).1], (gOf f (namesR (A 0).2.1).2 (A 0).2.2).2) := by
                                rw [← hAd, altsTo]
                                rfl
                              refine awp_seq (awp_block (awp_seq (awp_rg mixed ?_)))
                              refine ak 4 [] rfl ?_
                              refine kc (c_con (n / 14 + ((0 : Nat) : Int)) (by unfold i64; omega)) ?_
                              refine ak 1 [] rfl ?_
                              refine kc hnames ?_
                              refine ak 3 [] rfl ?_
                              refine az ?_
                              refine awp_seq (awp_seq (ag [] rfl ?_))
                              refine awp_cond rfl (fun hb => by simp at hb) (fun _ => ?_)
                              refine awp_skip ?_
                              refine awp_seq (awp_seq (ag [] rfl ?_))
                              refine awp_cond rfl (fun hb => by simp at hb) (fun _ => ?_)
                              refine awp_skip ?_
                              refine awp_seq (awp_rg mixed ?_)
                              refine ak 3 [] rfl ?_
                              refine kc ihA ?_
                              refine ak 2 [] rfl ?_
                              refine az ?_
                              refine ag [] rfl ?_
                              refine ag [] rfl ?_
                              refine ⟨0 + 1, by omega, by dsimp only; omega, ?_⟩
                              dsimp only
                              rw [he]
                              exact .list (fun i => i) ⟨rfl, rfl, rfl, rfl, rfl, rfl, trivial⟩ ⟨⟨_, rfl, .var rfl⟩, ⟨_, rfl, .var (by simp [R.renL, R.ren, encAlts_map])⟩, ⟨_, rfl, .arr⟩, ⟨_, rfl, by rw [encAlts_map ((A 0).1 ++ _), List.map_append, ← encAlts_map]; exact .arr⟩, ⟨_, rfl, .var rfl⟩, trivial⟩ rfl
                            · -- 1
                              have he : A (1 + 1) = ((A 1).1 ++ [.mk 2 (n / 14) [] [] (gOf f (namesR (A 1).2.1).2 (A 1).2.2).1], (gOf f (namesR (A 1).2.1).2 (A 1).2.2).2) := by
                                rw [← hAd, altsTo]
                                rfl
                              refine awp_seq (awp_block (awp_seq (awp_rg mixed ?_)))
                              refine ak 4 [] rfl ?_
                              refine kc (c_con (n / 14 + ((1 : Nat) : Int)) (by unfold i64; omega)) ?_
                              refine ak 1 [] rfl ?_
                              refine kc hnames ?_
                              refine ak 3 [] rfl ?_
                              refine az ?_
                              refine awp_seq (awp_seq (ag [] rfl ?_))
                              refine awp_cond rfl (fun _ => ?_) (fun hb => by simp at hb)
                              refine ag [] rfl ?_
                              refine awp_seq (awp_seq (ag [] rfl ?_))
                              refine awp_cond rfl (fun hb => by simp at hb) (fun _ => ?_)
                              refine awp_skip ?_
                              refine awp_seq (awp_rg mixed ?_)
                              refine ak 3 [] rfl ?_
                              refine kc ihA ?_
                              refine ak 2 [] rfl ?_
                              refine az ?_
                              refine ag [] rfl ?_
                              refine ag [] rfl ?_
                              refine ⟨1 + 1, by omega, by dsimp only; omega, ?_⟩
                              dsimp only
                              rw [he]
                              exact .list (fun i => i) ⟨rfl, rfl, rfl, rfl, rfl, rfl, trivial⟩ ⟨⟨_, rfl, .var rfl⟩, ⟨_, rfl, .var (by simp [R.renL, R.ren, encAlts_map])⟩, ⟨_, rfl, .arr⟩, ⟨_, rfl, by rw [encAlts_map ((A 1).1 ++ _), List.map_append, ← encAlts_map]; exact .arr⟩, ⟨_, rfl, .var rfl⟩, trivial⟩ rfl
                            · -- 2
                              have he : A (2 + 1) = ((A 2).1 ++ [.mk 3 0 [] [] (gOf f (namesR (A 2).2.1).2 (A 2).2.2).1], (gOf f (namesR (A 2).2.1).2 (A 2).2.2).2) := by
                                rw [← hAd, altsTo]
                                rfl
                              refine awp_seq (awp_block (awp_seq (awp_rg mixed ?_)))
                              refine ak 4 [] rfl ?_
                              refine kc (c_con (n / 14 + ((2 : Nat) : Int)) (by unfold i64; omega)) ?_
                              refine ak 1 [] rfl ?_
                              refine kc hnames ?_
                              refine ak 3 [] rfl ?_
                              refine az ?_
                              refine awp_seq (awp_seq (ag [] rfl ?_))
                              refine awp_cond rfl (fun hb => by simp at hb) (fun _ => ?_)
                              refine awp_skip ?_
                              refine awp_seq (awp_seq (ag [] rfl ?_))
                              refine awp_cond rfl (fun _ => ?_) (fun hb => by simp at hb)
                              refine ag [] rfl ?_
                              refine awp_seq (awp_rg mixed ?_)
                              refine ak 3 [] rfl ?_
                              refine kc ihA ?_
                              refine ak 2 [] rfl ?_
                              refine az ?_
                              refine ag [] rfl ?_
                              refine ag [] rfl ?_
                              refine ⟨2 + 1, by omega, by dsimp only; omega, ?_⟩
                              dsimp only
                              rw [he]
                              exact .list (fun i => i) ⟨rfl, rfl, rfl, rfl, rfl, rfl, trivial⟩ ⟨⟨_, rfl, .var rfl⟩, ⟨_, rfl, .var (by simp [R.renL, R.ren, encAlts_map])⟩, ⟨_, rfl, .arr⟩, ⟨_, rfl, by rw [encAlts_map ((A 2).1 ++ _), List.map_append, ← encAlts_map]; exact .arr⟩, ⟨_, rfl, .var rfl⟩, trivial⟩ rfl
                          · have hie : (n / 14 % 4).toNat = i := by
                              have : ¬ (i : Int) < n / 14 % 4 := by simpa using hb
                              omega
                            rw [hie]
                            have hE : encAlts (A i).1 = ((encAlts (A i).1).drop 0).take (A i).1.length := by rw [List.drop_zero, hsz, List.take_length]
                            refine awp_exit (awp_seq (ag [] rfl ?_))
                            refine AWp.sub (Sub.freeze (id := 900) rfl) (awp_ret ?_)
                            exact ⟨.inr rfl, ⟨_, _, .cell rfl (tg rfl) rfl rfl rfl .nil, .cons (by (first | apply Go.AM.Conv.pa | apply Go.AM.Conv.agg); repeat (first | exact .nil | apply Go.AM.PureL.c .refl | apply Go.AM.PureL.c .nl | (apply Go.AM.PureL.hs; rfl; (first | rfl | assumption | simp); (first | exact hE | rfl)))) .nil, rfl⟩, ⟨⟨_, rfl, .var rfl⟩, trivial⟩, rfl⟩
                        · have h11 : ¬ k = 11 := by simpa using hb11
                          refine awp_seq (ag [] rfl ?_)
                          refine awp_cond rfl (fun hb12 => ?_) (fun hb12 => ?_)
                          · have h12 : k = 12 := by simpa using hb12
                            obtain ⟨hf0, hl0⟩ := hkf (by omega)
                            have ho := hg hf0
                            have hu : use f = 1 + 4 * use (f - 1) := by cases f with | zero => omega | succ f => rfl
                            have g1 := ho.suf l1 (left - 1)
                            have g2 := ho.le l1 (left - 1)
                            have g3 := ho.ge l1 (left - 1)
                            have ih1 := ih hf0 l1 (left - 1) hl1 hf1 (by omega) (by omega)
                            have ih2 := ih hf0 (gOf f l1 (left - 1)).2.1 (gOf f l1 (left - 1)).2.2 (hl1.suf g1) (hf1.suf g1) (by omega) (by omega)
                            have hr : coreK (gOf f) n k l1 (left - 1) = (.mk 10 0 (oneOf primL (n / 14)) zTy [(gOf f l1 (left - 1)).1, (gOf f (gOf f l1 (left - 1)).2.1 (gOf f l1 (left - 1)).2.2).1] [] [], (gOf f (gOf f l1 (left - 1)).2.1 (gOf f l1 (left - 1)).2.2).2) := by
                              unfold coreK
                              rw [if_neg c1, if_neg h2, if_neg h3, if_neg c2, if_neg c3, if_neg h8, if_neg h9, if_neg h10, if_neg h11, if_pos h12]
                            rw [hr]
                            refine awp_seq (awp_rg mixed ?_)
                            refine ak 3 [] rfl ?_
                            refine kc ih1 ?_
                            refine ak 2 [] rfl ?_
                            refine az ?_
                            refine awp_seq (awp_rg mixed ?_)
                            refine ak 2 [] rfl ?_
                            refine kc (c_prim (n / 14) (by unfold i64; omega)) ?_
                            refine ak 4 [] rfl ?_
                            refine kc ih2 ?_
                            refine ak 3 [] rfl ?_
                            refine az ?_
                            refine AWp.sub (Sub.freeze (id := 206) rfl) (awp_ret ?_)
                            exact ⟨.inr rfl, ⟨_, _, .cell rfl (tg rfl) rfl rfl rfl .nil, .cons (by (first | apply Go.AM.Conv.pa | apply Go.AM.Conv.agg); repeat (first | exact .nil | apply Go.AM.PureL.c .refl | apply Go.AM.PureL.c .nl | (apply Go.AM.PureL.hs; rfl; (first | rfl | simp); (first | rfl | exact Go.AM.take_map.symm)))) .nil, rfl⟩, ⟨⟨_, rfl, .var rfl⟩, trivial⟩, rfl⟩
                          · have h12 : ¬ k = 12 := by simpa using hb12
                            have hty := c_typ (left - 1) 2 l1 1 hl1 hf1 (by omega) (by omega)
                            have hr : coreK (gOf f) n k l1 (left - 1) = (.mk 11 0 [] (typR 2 l1).1 [] [] [], (typR 2 l1).2, left - 1) := by
                              unfold coreK
                              rw [if_neg c1, if_neg h2, if_neg h3, if_neg c2, if_neg c3, if_neg h8, if_neg h9, if_neg h10, if_neg h11, if_neg h12]
                            rw [hr]
                            refine awp_skip (awp_seq (awp_rg mixed ?_))
                            refine ak 1 [] rfl ?_
                            refine kc hty ?_
                            refine ak 2 [] rfl ?_
                            refine az ?_
                            refine awp_ret ?_
                            exact ⟨.inr rfl, ⟨_, _, .cell rfl (tg rfl) rfl rfl rfl .nil, .cons (by (first | apply Go.AM.Conv.pa | apply Go.AM.Conv.agg); repeat (first | exact .nil | apply Go.AM.PureL.c .refl | apply Go.AM.PureL.c .nl | (apply Go.AM.PureL.hs; rfl; (first | rfl | simp); (first | rfl | exact Go.AM.take_map.symm)))) .nil, rfl⟩, ⟨⟨_, rfl, .var rfl⟩, trivial⟩, rfl⟩
end Go.Proofs.YtmoekkcdkjopgaaGreatDoor

/- CORE, made of numbers: the contracts. -/
namespace Go.Proofs.YtmoekkcdkjopgaaGreatDoor
open Go Go.AM
set_option maxRecDepth 20000
theorem c_core : ∀ f : Nat, f ≤ 6 → MkSpec (coreR f) (6 - (f : Int)) (use f)
  | 0, _ => c_core_step 0 _ (by omega) (by omega) (fun h => by omega) (fun h => by omega)
  | f + 1, hf => by
    refine c_core_step (f + 1) _ (by omega) (by omega) (fun _ => ?_) (fun _ => coreR_ok f)
    have := c_core f (by omega)
    rwa [show (6 : Int) - ((f + 1 : Nat) : Int) + 1 = 6 - (f : Int) by omega]
theorem c_ints (l : List Int) (k : Nat) (hf : Fits l) (hk : k ≤ 1000) : ImpC Tryz.prog 20 [.one (.c (.sl 1 (l.map encI))), I .i64 k] [] (.one (.c (.sl 1 ((l.take k).map encI)))) [] := by
  unfold Fits at hf
  refine impC (n := 14) tok Tryz.func20 rfl rfl rfl ?_
  refine awp_seq (ag [] rfl ?_)
  refine awp_seq (ag [] rfl ?_)
  refine awp_seq (awp_rg mixed ?_)
  refine ak 6 [] rfl ?_
  have hm : (if (k : Int) < (((l.map encI).length : Nat) : Int) then (k : Int) else (((l.map encI).length : Nat) : Int)) = ((min l.length k : Nat) : Int) := by
    rw [List.length_map]
    split <;> omega
  rw [hm]
  have ht : (l.map encI).take (min l.length k) = (l.take k).map encI := by
    rw [← List.map_take]
    congr 1
    by_cases h : k ≤ l.length
    · rw [Nat.min_eq_right h]
    · rw [Nat.min_eq_left (by omega), List.take_of_length_le (Nat.le_refl _), List.take_of_length_le (by omega)]
  have hl : ((l.map encI).take (min l.length k)).length ≤ 1000 := by rw [List.length_take]; omega
  refine akN 3 [] rfl ?_ (hc := ⟨by omega, by rw [List.length_map]; omega, by omega, trivial⟩)
  refine az ?_
  refine AWp.sub (Sub.freeze (id := 13) rfl) (awp_ret ?_)
  rw [← ht]
  exact ⟨.inr rfl, ⟨_, _, .tmp rfl .nil, .cons (.one (.hs rfl rfl (by rw [List.drop_zero, List.take_length]) .nil)) .nil, rfl⟩, trivial, rfl⟩
/-- Core, made of numbers. -/
def madeR (l : List Int) : Core := (coreR 6 (l.take 60) 30).1
theorem c_made (l : List Int) (hl : Nums l) (hf : Fits l) : ImpC Tryz.prog 9 [.one (.c (.sl 1 (l.map encI)))] [] (.pa (encCore (madeR l))) [] := by
  have hl' : Nums (l.take 60) := fun x hx => hl x (List.mem_of_mem_take hx)
  have hf' : Fits (l.take 60) := by
    unfold Fits at *
    rw [List.length_take]
    omega
  have hc := c_core 6 (by omega) (l.take 60) 30 hl' hf' (by decide) (by decide)
  refine impC (n := 10) tok Tryz.func9 rfl rfl rfl ?_
  refine awp_seq (ag [] rfl ?_)
  refine awp_seq (awp_rg mixed ?_)
  refine ak 1 [] rfl ?_
  refine kc (c_ints l 60 hf (by omega)) ?_
  refine ak 3 [(3, .id 700)] rfl ?_
  refine az ?_
  refine awp_seq (awp_rg mixed ?_)
  refine ak 1 [] rfl ?_
  refine kc hc ?_
  refine ak 1 [] rfl ?_
  refine az ?_
  refine awp_ret ?_
  exact ⟨.inr rfl, ⟨_, _, .cell rfl (tg rfl) rfl rfl rfl .nil, .cons .refl .nil, rfl⟩, trivial, rfl⟩
end Go.Proofs.YtmoekkcdkjopgaaGreatDoor

/- CORE WITHOUT TYPES (the reference's Erase). -/
namespace Go.Proofs.YtmoekkcdkjopgaaGreatDoor
open Go Go.AM
set_option maxRecDepth 20000
mutual
def eraseR : Core → Core
  | .mk f n s _ ks bs al => if (f = 6 ∨ f = 7) ∧ 1 ≤ ks.length then (eraseCs ks).headD (.mk 0 0 [] zTy [] [] []) else .mk f n s zTy (eraseCs ks) (eraseBs bs) (eraseAs al)
def eraseCs : List Core → List Core
  | [] => []
  | c :: l => eraseR c :: eraseCs l
def eraseB : Bind → Bind
  | .mk s _ c => .mk s zTy (eraseR c)
def eraseBs : List Bind → List Bind
  | [] => []
  | b :: l => eraseB b :: eraseBs l
def eraseA : Alt → Alt
  | .mk f n s vs c => .mk f n s vs (eraseR c)
def eraseAs : List Alt → List Alt
  | [] => []
  | a :: l => eraseA a :: eraseAs l
end
theorem eraseCs_map : ∀ l : List Core, eraseCs l = l.map eraseR
  | [] => by simp [eraseCs]
  | c :: l => by rw [eraseCs, eraseCs_map l]; rfl
theorem eraseBs_map : ∀ l : List Bind, eraseBs l = l.map eraseB
  | [] => by simp [eraseBs]
  | c :: l => by rw [eraseBs, eraseBs_map l]; rfl
theorem eraseAs_map : ∀ l : List Alt, eraseAs l = l.map eraseA
  | [] => by simp [eraseAs]
  | c :: l => by rw [eraseAs, eraseAs_map l]; rfl
/-! ### How great core is: nodes, names and all -/
mutual
def csize : Core → Nat
  | .mk _ _ s _ ks bs al => 1 + s.length + csizes ks + bsizes bs + asizes al
def csizes : List Core → Nat
  | [] => 0
  | c :: l => csize c + csizes l
def bsize : Bind → Nat
  | .mk s _ c => 1 + s.length + csize c
def bsizes : List Bind → Nat
  | [] => 0
  | b :: l => bsize b + bsizes l
def asize : Alt → Nat
  | .mk _ _ s vs c => 1 + s.length + (vs.map (fun v => 1 + v.length)).sum + csize c
def asizes : List Alt → Nat
  | [] => 0
  | a :: l => asize a + asizes l
end
theorem csize_pos (c : Core) : 1 ≤ csize c := by cases c; rw [csize]; omega
theorem csizes_len : ∀ l : List Core, l.length ≤ csizes l
  | [] => Nat.zero_le _
  | c :: l => by rw [csizes, List.length_cons]; have := csizes_len l; have := csize_pos c; omega
theorem csizes_mem : ∀ {l : List Core} {c : Core}, c ∈ l → csize c ≤ csizes l
  | d :: l, c, h => by
    rw [csizes]
    rcases List.mem_cons.1 h with rfl | h
    · omega
    · have := csizes_mem h; omega
theorem bsizes_len : ∀ l : List Bind, l.length ≤ bsizes l
  | [] => Nat.zero_le _
  | .mk s t c :: l => by rw [bsizes, bsize, List.length_cons]; have := bsizes_len l; omega
theorem bsizes_mem : ∀ {l : List Bind} {c : Bind}, c ∈ l → bsize c ≤ bsizes l
  | d :: l, c, h => by
    rw [bsizes]
    rcases List.mem_cons.1 h with rfl | h
    · omega
    · have := bsizes_mem h; omega
theorem asizes_len : ∀ l : List Alt, l.length ≤ asizes l
  | [] => Nat.zero_le _
  | .mk f n s vs c :: l => by rw [asizes, asize, List.length_cons]; have := asizes_len l; omega
theorem asizes_mem : ∀ {l : List Alt} {c : Alt}, c ∈ l → asize c ≤ asizes l
  | d :: l, c, h => by
    rw [asizes]
    rcases List.mem_cons.1 h with rfl | h
    · omega
    · have := asizes_mem h; omega
end Go.Proofs.YtmoekkcdkjopgaaGreatDoor

/- THE REFERENCE's Erase: the walk. -/
namespace Go.Proofs.YtmoekkcdkjopgaaGreatDoor
open Go Go.AM
set_option maxRecDepth 20000
theorem encBinds_at {l : List Bind} {k : Nat} {x : Bind} (h : l[k]? = some x) : (encBinds l)[k]? = some (encBind x) := by rw [encBinds_map]; exact getEnc encBind h
theorem encCores_at {l : List Core} {k : Nat} {x : Core} (h : l[k]? = some x) : (encCores l)[k]? = some (encCore x) := by rw [encCores_map]; exact getEnc encCore h
theorem encAlts_at {l : List Alt} {k : Nat} {x : Alt} (h : l[k]? = some x) : (encAlts l)[k]? = some (encAlt x) := by rw [encAlts_map]; exact getEnc encAlt h
theorem take_step {α : Type} {l : List α} {k : Nat} {x : α} (h : l[k]? = some x) : l.take (k + 1) = l.take k ++ [x] := by rw [List.take_add_one, h]; rfl
end Go.Proofs.YtmoekkcdkjopgaaGreatDoor

/- THE REFERENCE's Erase: the walk (2). -/
namespace Go.Proofs.YtmoekkcdkjopgaaGreatDoor
open Go Go.AM
set_option maxRecDepth 20000
/-- The cells of no core. -/
def zCells : List R := [.c (.int .i64 0), .c (.int .i64 0), .c (.str []), .c (.int .i64 0), .c (.int .i64 0), .c (.str []), .c .nl, .c .nl, .c .nl, .c .nl]
/-- The cells of core, as an object has them. -/
def cellsC (c : Core) : List R := (encCore c).map R.c
theorem size_in {f n : Int} {s : Str} {t : Ty} {ks : List Core} {bs : List Bind} {al : List Alt} : (∀ x ∈ ks, csize x < csize (.mk f n s t ks bs al)) ∧ (∀ x ∈ bs, csize x.body < csize (.mk f n s t ks bs al)) ∧ (∀ x ∈ al, csize x.body < csize (.mk f n s t ks bs al)) ∧
    ks.length < csize (.mk f n s t ks bs al) ∧ bs.length < csize (.mk f n s t ks bs al) ∧ al.length < csize (.mk f n s t ks bs al) := by
  rw [csize]
  have hkl := csizes_len ks
  have hbl := bsizes_len bs
  have hal := asizes_len al
  refine ⟨fun x hx => ?_, fun x hx => ?_, fun x hx => ?_, by omega, by omega, by omega⟩
  · have := csizes_mem hx; omega
  · have := bsizes_mem hx
    obtain ⟨s', t', c'⟩ := x
    rw [bsize] at this
    show csize c' < _
    omega
  · have := asizes_mem hx
    obtain ⟨f', n', s', v', c'⟩ := x
    rw [asize] at this
    show csize c' < _
    omega
theorem take_map1 {α β : Type} (f : α → β) {l : List α} {i : Nat} {x : α} (h : l[i]? = some x) : (l.take i).map f ++ [f x] = (l.take (i + 1)).map f := by rw [take_step h, List.map_append]; rfl
end Go.Proofs.YtmoekkcdkjopgaaGreatDoor

/- WHAT IS MADE OF NUMBERS: its shape, and how much of it there is (as in La15, La19, La27, La37, La38, for seats without lift). -/
namespace Go.Proofs.YtmoekkcdkjopgaaGreatDoor
open Go Go.AM
set_option maxRecDepth 20000
/-- No type. -/
def tz (t : Ty) : Bool := decide (t.form = 0) && (decide (t.n = 0) && (t.name.isEmpty && t.args.isEmpty))
theorem tz_eq {t : Ty} (h : tz t = true) : t = zTy := by
  obtain ⟨f, n, s, a⟩ := t
  simp only [tz, Bool.and_eq_true, decide_eq_true_eq, List.isEmpty_iff] at h
  obtain ⟨h1, h2, h3, h4⟩ := h
  simp only [Ty.form, Ty.n, Ty.name, Ty.args] at h1 h2 h3 h4
  subst h1 h2 h3 h4
  rfl
mutual
def lamsN : Core → Nat
  | .mk f _ _ _ ks bs al => (if f = 5 then 1 else 0) + lamsCs ks + lamsBs bs + lamsAs al
def lamsCs : List Core → Nat
  | [] => 0
  | c :: l => lamsN c + lamsCs l
def lamsBs : List Bind → Nat
  | [] => 0
  | .mk _ _ c :: l => lamsN c + lamsBs l
def lamsAs : List Alt → Nat
  | [] => 0
  | .mk _ _ _ _ c :: l => lamsN c + lamsAs l
end
mutual
/-- No types. -/
def z0R : Core → Bool
  | .mk _ _ _ t ks bs al => tz t && (z0Cs ks && (z0Bs bs && z0As al))
def z0Cs : List Core → Bool
  | [] => true
  | c :: l => z0R c && z0Cs l
def z0Bs : List Bind → Bool
  | [] => true
  | .mk _ t c :: l => (tz t && z0R c) && z0Bs l
def z0As : List Alt → Bool
  | [] => true
  | .mk _ _ _ _ c :: l => z0R c && z0As l
end
theorem z0Cs_mem : ∀ {l : List Core}, z0Cs l = true → ∀ x ∈ l, z0R x = true
  | c :: l, h, x, hx => by
    rw [z0Cs, Bool.and_eq_true] at h
    rcases List.mem_cons.1 hx with rfl | hx
    · exact h.1
    · exact z0Cs_mem h.2 x hx
theorem z0Bs_mem : ∀ {l : List Bind}, z0Bs l = true → ∀ x ∈ l, x.ty = zTy ∧ z0R x.body = true
  | .mk s t c :: l, h, x, hx => by
    simp only [z0Bs, Bool.and_eq_true] at h
    rcases List.mem_cons.1 hx with rfl | hx
    · exact ⟨tz_eq h.1.1, h.1.2⟩
    · exact z0Bs_mem h.2 x hx
theorem z0As_mem : ∀ {l : List Alt}, z0As l = true → ∀ x ∈ l, z0R x.body = true
  | .mk f n s v c :: l, h, x, hx => by
    rw [z0As, Bool.and_eq_true] at h
    rcases List.mem_cons.1 hx with rfl | hx
    · exact h.1
    · exact z0As_mem h.2 x hx
def nmB (s : Str) : Bool := decide (s ∈ nmL)
mutual
/-- Core as it is made. -/
def rawR : Core → Bool
  | .mk f _ s _ ks bs al => (if f = 5 then nmB s && (!ks.isEmpty && bs.isEmpty) else if f = 6 ∨ f = 7 then !ks.isEmpty else if f = 1 then nmB s && (ks.isEmpty && (bs.isEmpty && al.isEmpty)) else true) && (rawCs ks && (rawBs bs && rawAs al))
def rawCs : List Core → Bool
  | [] => true
  | c :: l => rawR c && rawCs l
def rawBs : List Bind → Bool
  | [] => true
  | .mk s _ c :: l => (nmB s && rawR c) && rawBs l
def rawAs : List Alt → Bool
  | [] => true
  | .mk _ _ _ v c :: l => (v.all nmB && rawR c) && rawAs l
end
mutual
/-- Core as it is erased. -/
def gR : Core → Bool
  | .mk f _ s t ks bs al => (decide (f ≠ 6) && (decide (f ≠ 7) && tz t)) && ((if f = 5 then nmB s && (!ks.isEmpty && bs.isEmpty) else if f = 1 then nmB s && (ks.isEmpty && (bs.isEmpty && al.isEmpty)) else true) && (gCs ks && (gBs bs && gAs al)))
def gCs : List Core → Bool
  | [] => true
  | c :: l => gR c && gCs l
def gBs : List Bind → Bool
  | [] => true
  | .mk s t c :: l => ((nmB s && tz t) && gR c) && gBs l
def gAs : List Alt → Bool
  | [] => true
  | .mk _ _ _ v c :: l => (v.all nmB && gR c) && gAs l
end
mutual
theorem raw_g : ∀ c, rawR c = true → gR (eraseR c) = true
  | .mk f n s t ks bs al, h => by
    rw [rawR] at h
    simp only [Bool.and_eq_true] at h
    obtain ⟨h1, h2, h3, h4⟩ := h
    have k2 := raw_gs ks h2
    rw [eraseR]
    by_cases h67 : f = 6 ∨ f = 7
    · have h5 : ¬ f = 5 := by omega
      rw [if_neg h5, if_pos h67] at h1
      cases ks with
      | nil => simp at h1
      | cons k ks =>
        rw [if_pos ⟨h67, by simp⟩]
        rw [eraseCs, gCs, Bool.and_eq_true] at k2
        rw [eraseCs]
        exact k2.1
    · rw [if_neg (fun h => h67 h.1), gR]
      rw [if_neg h67] at h1
      have e1 : decide (f ≠ 6) = true := decide_eq_true fun e => h67 (.inl e)
      have e2 : decide (f ≠ 7) = true := decide_eq_true fun e => h67 (.inr e)
      have e3 : tz zTy = true := rfl
      simp only [e1, e2, e3, Bool.and_eq_true, true_and]
      refine ⟨?_, k2, raw_gb bs h3, raw_ga al h4⟩
      have n1 : (eraseCs ks).isEmpty = ks.isEmpty := by cases ks <;> simp [eraseCs]
      have n2 : (eraseBs bs).isEmpty = bs.isEmpty := by cases bs <;> simp [eraseBs]
      have n3 : (eraseAs al).isEmpty = al.isEmpty := by cases al <;> simp [eraseAs]
      rw [n1, n2, n3]
      exact h1
theorem raw_gs : ∀ l, rawCs l = true → gCs (eraseCs l) = true
  | [], _ => by rw [eraseCs, gCs]
  | c :: l, h => by
    rw [rawCs, Bool.and_eq_true] at h
    rw [eraseCs, gCs, raw_g c h.1, raw_gs l h.2]; rfl
theorem raw_gb : ∀ l, rawBs l = true → gBs (eraseBs l) = true
  | [], _ => by rw [eraseBs, gBs]
  | .mk s t c :: l, h => by
    simp only [rawBs, Bool.and_eq_true] at h
    rw [eraseBs, eraseB, gBs, raw_g c h.1.2, raw_gb l h.2, h.1.1]; rfl
theorem raw_ga : ∀ l, rawAs l = true → gAs (eraseAs l) = true
  | [], _ => by rw [eraseAs, gAs]
  | .mk f n s v c :: l, h => by
    simp only [rawAs, Bool.and_eq_true] at h
    rw [eraseAs, eraseA, gAs, raw_g c h.1.2, raw_ga l h.2, h.1.1]; rfl
end
theorem nm_len : ∀ s ∈ nmL, s.length ≤ 3 := by decide
mutual
theorem erase_le : ∀ c, csize (eraseR c) ≤ csize c ∧ lamsN (eraseR c) ≤ lamsN c
  | .mk f n s t ks bs al => by
    obtain ⟨a1, a2⟩ := erase_les ks
    obtain ⟨b1, b2⟩ := erase_leb bs
    obtain ⟨d1, d2⟩ := erase_lea al
    rw [eraseR]
    split
    · rename_i h
      have h5 : ¬ f = 5 := by omega
      cases ks with
      | nil => simp at h
      | cons k ks =>
        rw [eraseCs, csizes, csizes] at a1
        rw [eraseCs, lamsCs, lamsCs] at a2
        rw [eraseCs]
        obtain ⟨k1, k2⟩ := erase_le k
        rw [csize, csizes, lamsN, lamsCs]
        show csize (eraseR k) ≤ _ ∧ lamsN (eraseR k) ≤ _
        omega
    · rw [csize, csize, lamsN, lamsN]
      omega
theorem erase_les : ∀ l, csizes (eraseCs l) ≤ csizes l ∧ lamsCs (eraseCs l) ≤ lamsCs l
  | [] => by rw [eraseCs]; exact ⟨Nat.le_refl _, Nat.le_refl _⟩
  | c :: l => by
    obtain ⟨h1, h2⟩ := erase_le c
    obtain ⟨h3, h4⟩ := erase_les l
    rw [eraseCs, csizes, csizes, lamsCs, lamsCs]; omega
theorem erase_leb : ∀ l, bsizes (eraseBs l) ≤ bsizes l ∧ lamsBs (eraseBs l) ≤ lamsBs l
  | [] => by rw [eraseBs]; exact ⟨Nat.le_refl _, Nat.le_refl _⟩
  | .mk s t c :: l => by
    obtain ⟨h1, h2⟩ := erase_le c
    obtain ⟨h3, h4⟩ := erase_leb l
    rw [eraseBs, eraseB, bsizes, bsizes, bsize, bsize, lamsBs, lamsBs]; omega
theorem erase_lea : ∀ l, asizes (eraseAs l) ≤ asizes l ∧ lamsAs (eraseAs l) ≤ lamsAs l
  | [] => by rw [eraseAs]; exact ⟨Nat.le_refl _, Nat.le_refl _⟩
  | .mk f n s v c :: l => by
    obtain ⟨h1, h2⟩ := erase_le c
    obtain ⟨h3, h4⟩ := erase_lea l
    rw [eraseAs, eraseA, asizes, asizes, asize, asize, lamsAs, lamsAs]; omega
end
theorem oneOf_in {l : List Str} {n : Int} (hl : 0 < l.length) : oneOf l n ∈ l := by
  obtain ⟨k, hk⟩ := Int.eq_ofNat_of_zero_le (around_lt n (k := l.length) (by omega)).1
  have hlt := (around_lt n (k := l.length) (by omega)).2
  have h1 : k < l.length := by omega
  have : oneOf l n = l[k] := by
    unfold oneOf
    rw [hk]
    simp [h1]
  rw [this]
  exact List.getElem_mem h1
theorem nm_in (n : Int) : oneOf nmL n ∈ nmL := oneOf_in (by decide)
theorem con_len (n : Int) : (oneOf conL n).length ≤ 4 := (by decide : ∀ s ∈ conL, s.length ≤ 4) _ (oneOf_in (by decide))
theorem prim_len (n : Int) : (oneOf primL n).length ≤ 4 := (by decide : ∀ s ∈ primL, s.length ≤ 4) _ (oneOf_in (by decide))
theorem tnm_len (n : Int) : (oneOf tnmL n).length ≤ 4 := (by decide : ∀ s ∈ tnmL, s.length ≤ 4) _ (oneOf_in (by decide))
theorem nmB_in (n : Int) : nmB (oneOf nmL n) = true := decide_eq_true (nm_in n)
theorem namesTo_in (n : Int) : ∀ i : Nat, ∀ s ∈ namesTo n i, s ∈ nmL
  | 0, s, h => by simp [namesTo] at h
  | i + 1, s, h => by
    rw [namesTo, addN] at h
    split at h
    · exact namesTo_in n i s h
    · rcases List.mem_append.1 h with h | h
      · exact namesTo_in n i s h
      · rw [List.mem_singleton.1 h]; exact nm_in _
theorem vsum_nm : ∀ l : List Str, (∀ s ∈ l, s ∈ nmL) → (l.map fun v => 1 + v.length).sum ≤ 4 * l.length
  | [], _ => by simp
  | s :: l, h => by
    have h1 := vsum_nm l fun x hx => h x (List.mem_cons_of_mem _ hx)
    have h2 := nm_len s (h s List.mem_cons_self)
    rw [List.map_cons, List.sum_cons, List.length_cons]
    omega
/-- What may be left: of the nodes that are not leaves. -/
def lf (left : Int) : Nat := (left - 1).toNat
/-- Core that is made of what was left: as it is made, and little. -/
structure MkG (c : Core) (left left' : Int) : Prop where
  raw : rawR c = true
  lams : lamsN c + lf left' ≤ lf left
  size : csize c + 100 * lf left' ≤ 100 * lf left + 7
def MkGs (g : List Int → Int → Mk) : Prop := ∀ l left, MkG (g l left).1 left (g l left).2.2
theorem rawBs_app : ∀ a b, rawBs (a ++ b) = (rawBs a && rawBs b)
  | [], b => by rw [List.nil_append, rawBs, Bool.true_and]
  | .mk s t c :: a, b => by rw [List.cons_append, rawBs, rawBs, rawBs_app a b]; simp only [Bool.and_assoc]
theorem rawAs_app : ∀ a b, rawAs (a ++ b) = (rawAs a && rawAs b)
  | [], b => by rw [List.nil_append, rawAs, Bool.true_and]
  | .mk f n s v c :: a, b => by rw [List.cons_append, rawAs, rawAs, rawAs_app a b]; simp only [Bool.and_assoc]
theorem bsizes_app : ∀ a b, bsizes (a ++ b) = bsizes a + bsizes b
  | [], b => by rw [List.nil_append, bsizes, Nat.zero_add]
  | x :: a, b => by rw [List.cons_append, bsizes, bsizes, bsizes_app a b, Nat.add_assoc]
theorem asizes_app : ∀ a b, asizes (a ++ b) = asizes a + asizes b
  | [], b => by rw [List.nil_append, asizes, Nat.zero_add]
  | x :: a, b => by rw [List.cons_append, asizes, asizes, asizes_app a b, Nat.add_assoc]
theorem lamsBs_app : ∀ a b, lamsBs (a ++ b) = lamsBs a + lamsBs b
  | [], b => by rw [List.nil_append, lamsBs, Nat.zero_add]
  | .mk s t c :: a, b => by rw [List.cons_append, lamsBs, lamsBs, lamsBs_app a b, Nat.add_assoc]
theorem lamsAs_app : ∀ a b, lamsAs (a ++ b) = lamsAs a + lamsAs b
  | [], b => by rw [List.nil_append, lamsAs, Nat.zero_add]
  | .mk f n s v c :: a, b => by rw [List.cons_append, lamsAs, lamsAs, lamsAs_app a b, Nat.add_assoc]
theorem bindsTo_g {g : List Int → Int → Mk} (h : MkGs g) (ns : List Str) (hns : ∀ s ∈ ns, s ∈ nmL) (l : List Int) (left : Int) : ∀ i : Nat, i ≤ ns.length → rawBs (bindsTo g ns l left i).1 = true ∧ lamsBs (bindsTo g ns l left i).1 + lf (bindsTo g ns l left i).2.2 ≤ lf left ∧ bsizes (bindsTo g ns l left i).1 + 100 * lf (bindsTo g ns l left i).2.2 ≤ 100 * lf left + 11 * i
  | 0, _ => by simp [bindsTo, rawBs, lamsBs, bsizes]
  | i + 1, hi => by
    obtain ⟨h1, h2, h3⟩ := bindsTo_g h ns hns l left i (by omega)
    obtain ⟨k1, k2, k3⟩ := h (typR 2 (bindsTo g ns l left i).2.1).2 (bindsTo g ns l left i).2.2
    have hs : (ns[i]?.getD []) ∈ nmL := by
      obtain ⟨s, hs⟩ := get_of_lt (l := ns) (by omega : i < ns.length)
      rw [hs]; exact hns s (List.mem_of_getElem? hs)
    have hsl := nm_len _ hs
    have hsb : nmB (ns[i]?.getD []) = true := decide_eq_true hs
    simp only [bindsTo]
    rw [rawBs_app, lamsBs_app, bsizes_app, rawBs, rawBs, lamsBs, lamsBs, bsizes, bsizes, bsize, h1, k1, hsb]
    refine ⟨rfl, by omega, by omega⟩
theorem altsTo_g {g : List Int → Int → Mk} (h : MkGs g) (n : Int) (l : List Int) (left : Int) : ∀ i : Nat, rawAs (altsTo g n l left i).1 = true ∧ lamsAs (altsTo g n l left i).1 + lf (altsTo g n l left i).2.2 ≤ lf left ∧ asizes (altsTo g n l left i).1 + 100 * lf (altsTo g n l left i).2.2 ≤ 100 * lf left + 24 * i
  | 0 => by simp [altsTo, rawAs, lamsAs, asizes]
  | i + 1 => by
    obtain ⟨h1, h2, h3⟩ := altsTo_g h n l left i
    obtain ⟨k1, k2, k3⟩ := h (namesR (altsTo g n l left i).2.1).2 (altsTo g n l left i).2.2
    have hni : ∀ s ∈ (namesR (altsTo g n l left i).2.1).1, s ∈ nmL := namesTo_in _ _
    have hnl := namesR_len (altsTo g n l left i).2.1
    have hvs := vsum_nm _ hni
    have hva : (namesR (altsTo g n l left i).2.1).1.all nmB = true := List.all_eq_true.2 fun s hs => decide_eq_true (hni s hs)
    have hcl := con_len (n / 14 + i)
    simp only [altsTo]
    rw [rawAs_app, lamsAs_app, asizes_app, h1]
    split
    · rw [rawAs, rawAs, lamsAs, lamsAs, asizes, asizes, asize, k1]
      refine ⟨rfl, by omega, ?_⟩
      simp only [List.length_nil, List.map_nil, List.sum_nil]
      omega
    · split
      · rw [rawAs, rawAs, lamsAs, lamsAs, asizes, asizes, asize, k1]
        refine ⟨rfl, by omega, ?_⟩
        simp only [List.length_nil, List.map_nil, List.sum_nil]
        omega
      · rw [rawAs, rawAs, lamsAs, lamsAs, asizes, asizes, asize, k1, hva]
        exact ⟨rfl, by omega, by omega⟩
theorem coreK_g {g : List Int → Int → Mk} (h : MkGs g) (n k : Int) (l : List Int) (left : Int) (hk : 4 ≤ k → 1 ≤ left) : MkG (coreK g n k l left).1 (left + 1) (coreK g n k l left).2.2 := by
  have hlf : lf left ≤ lf (left + 1) := by unfold lf; omega
  have hlk : 4 ≤ k → lf left + 1 = lf (left + 1) := fun h => by have := hk h; unfold lf; omega
  have n1 := nm_len _ (nm_in (n / 14))
  have n2 := con_len (n / 14)
  have n3 := prim_len (n / 14)
  have n4 := tnm_len (n / 14)
  have nb := nmB_in (n / 14)
  obtain ⟨g1, g2, g3⟩ := h l left
  obtain ⟨h1, h2, h3⟩ := h (g l left).2.1 (g l left).2.2
  obtain ⟨u1, u2, u3⟩ := h (typR 2 l).2 left
  unfold coreK
  split
  · refine ⟨by simp [rawR, rawCs, rawBs, rawAs, nb], ?_, ?_⟩ <;> simp only [lamsN, lamsCs, lamsBs, lamsAs, csize, csizes, bsizes, asizes] <;> simp <;> omega
  split
  · refine ⟨by simp [rawR, rawCs, rawBs, rawAs], ?_, ?_⟩ <;> simp only [lamsN, lamsCs, lamsBs, lamsAs, csize, csizes, bsizes, asizes] <;> simp <;> omega
  split
  · refine ⟨by simp [rawR, rawCs, rawBs, rawAs], ?_, ?_⟩ <;> simp only [lamsN, lamsCs, lamsBs, lamsAs, csize, csizes, bsizes, asizes] <;> simp <;> omega
  have hl := hlk (by omega)
  split
  · refine ⟨by simp [rawR, rawCs, rawBs, rawAs, g1, h1], ?_, ?_⟩ <;> simp only [lamsN, lamsCs, lamsBs, lamsAs, csize, csizes, bsizes, asizes] <;> simp <;> omega
  split
  · refine ⟨by simp [rawR, rawCs, rawBs, rawAs, u1, nb], ?_, ?_⟩ <;> simp only [lamsN, lamsCs, lamsBs, lamsAs, csize, csizes, bsizes, asizes] <;> simp <;> omega
  split
  · refine ⟨by simp [rawR, rawCs, rawBs, rawAs, u1], ?_, ?_⟩ <;> simp only [lamsN, lamsCs, lamsBs, lamsAs, csize, csizes, bsizes, asizes] <;> simp <;> omega
  split
  · refine ⟨by simp [rawR, rawCs, rawBs, rawAs, g1], ?_, ?_⟩ <;> simp only [lamsN, lamsCs, lamsBs, lamsAs, csize, csizes, bsizes, asizes] <;> simp <;> omega
  split
  · have hnl := namesR_len l
    obtain ⟨b1, b2, b3⟩ := bindsTo_g h (namesR l).1 (namesTo_in _ _) (namesR l).2 left (namesR l).1.length (Nat.le_refl _)
    generalize bindsTo g (namesR l).1 (namesR l).2 left (namesR l).1.length = r at b1 b2 b3 ⊢
    obtain ⟨c1, c2, c3⟩ := h r.2.1 r.2.2
    refine ⟨by simp [rawR, rawCs, rawAs, c1, b1], ?_, ?_⟩ <;> simp only [lamsN, lamsCs, lamsAs, csize, csizes, asizes] <;> simp <;> omega
  split
  · obtain ⟨b1, b2, b3⟩ := altsTo_g h n (g (typR 2 l).2 left).2.1 (g (typR 2 l).2 left).2.2 (n / 14 % 4).toNat
    have hi : (n / 14 % 4).toNat ≤ 3 := by omega
    dsimp only
    generalize altsTo g n (g (typR 2 l).2 left).2.1 (g (typR 2 l).2 left).2.2 (n / 14 % 4).toNat = r at b1 b2 b3 ⊢
    refine ⟨by simp [rawR, rawCs, rawBs, u1, b1], ?_, ?_⟩ <;> simp only [lamsN, lamsCs, lamsBs, csize, csizes, bsizes] <;> simp <;> omega
  split
  · refine ⟨by simp [rawR, rawCs, rawBs, rawAs, g1, h1], ?_, ?_⟩ <;> simp only [lamsN, lamsCs, lamsBs, lamsAs, csize, csizes, bsizes, asizes] <;> simp <;> omega
  · refine ⟨by simp [rawR, rawCs, rawBs, rawAs], ?_, ?_⟩ <;> simp only [lamsN, lamsCs, lamsBs, lamsAs, csize, csizes, bsizes, asizes] <;> simp <;> omega
theorem coreR_g : ∀ f : Nat, MkGs (coreR f)
  | 0 => fun l left => by
    have h : MkGs (fun l left => ((.mk 0 0 [] zTy [] [] [], l, left) : Mk)) := fun l left => ⟨by simp [rawR, rawCs, rawBs, rawAs], by simp [lamsN, lamsCs, lamsBs, lamsAs], by simp [csize, csizes, bsizes, asizes]; omega⟩
    have := coreK_g h (nextR l).1 ((nextR l).1 % 4) (nextR l).2 (left - 1) (fun h => by omega)
    rw [Int.sub_add_cancel] at this
    exact this
  | f + 1 => fun l left => by
    have := coreK_g (coreR_g f) (nextR l).1 (if left - 1 < 1 then (nextR l).1 % 4 else (nextR l).1 % 14) (nextR l).2 (left - 1) (fun h => by
      split at h
      · omega
      · omega)
    rw [Int.sub_add_cancel] at this
    exact this
theorem made_raw (l : List Int) : rawR (madeR l) = true ∧ csize (madeR l) ≤ 3000 := by
  obtain ⟨h1, h2, h3⟩ := coreR_g 6 (l.take 60) 30
  have : lf 30 = 29 := rfl
  rw [this] at h2 h3
  unfold madeR
  exact ⟨h1, by omega⟩
/-- What is made of numbers, and erased: as it is erased, and little. -/
theorem made_g (l : List Int) : gR (eraseR (madeR l)) = true ∧ csize (madeR l) ≤ 3000 ∧ csize (eraseR (madeR l)) ≤ 3000 ∧ lamsN (eraseR (madeR l)) ≤ 29 := by
  obtain ⟨h1, h2, h3⟩ := coreR_g 6 (l.take 60) 30
  obtain ⟨e1, e2⟩ := erase_le (madeR l)
  have : lf 30 = 29 := rfl
  rw [this] at h2 h3
  unfold madeR at e1 e2 ⊢
  exact ⟨raw_g _ h1, by omega, by omega, by omega⟩
end Go.Proofs.YtmoekkcdkjopgaaGreatDoor

/- slices.Grow OF NIL: an empty array of one's own, with room. Out of the library's contract for it. -/
namespace Go.AM
open Go Go.Proofs Go.Shelf
/-- A slice is nil, or is not. -/
theorem awp_sl {ro : Option Nat} {P : Program} {n : Nat} {kf : List Nat} {c : Code} {st : St} {Q : Exit → St → Prop} (t : Nat) {es : Nat} {l : List (List C)} (h : st.e t = some (.one (.c (.sl es l)))) (h1 : l = [] → AWp ro P n kf c ⟨upd st.e t (some (.one (.c .nl))), st.h, st.d⟩ Q)
    (h2 : AWp ro P n kf c ⟨upd st.e t (some (.one (.c (.sn es l)))), st.h, st.d⟩ Q) : AWp ro P n kf c st Q := by
  intro G S μ a w Q' hg hs hQ
  have hv := hs.env t _ h
  have key : ∀ x : V, VRel S μ st.h x (a.tmps.getD t undef) → Sim G n S μ ⟨upd st.e t (some x), st.h, st.d⟩ a w := fun x hx => ⟨hs.inv, hs.size, hs.defers, fun s u e => by
    by_cases hst : s = t
    · subst hst
      have : some x = some u := by rw [← e]; exact (upd_same _ _ _).symm
      cases this
      exact hx
    · exact hs.env s u (by rw [← e]; exact (upd_ne _ _ _ hst).symm)⟩
  simp only [VRel, RRel, Rep] at hv
  obtain ⟨ad, len, cap, e1, e2, e3, e4, e5, e6, b, o, e7, e8⟩ := hv
  cases ad with
  | none =>
    obtain ⟨e9, e10⟩ := e5 rfl
    have hl : l = [] := List.eq_nil_of_length_eq_zero (by omega)
    exact h1 hl G S μ a w Q' hg (key _ (by simp only [VRel, RRel, Rep]; rw [e1, e9, e10])) hQ
  | some ad =>
    obtain ⟨b', o', sp⟩ := ad
    have h6 := e6 _ rfl
    obtain ⟨h7, h8⟩ := e7 _ rfl
    dsimp only at h6 h7 h8
    subst h7 h8
    exact h2 G S μ a w Q' hg (key _ (by simp only [VRel, RRel, Rep]; exact ⟨b', o', sp, len, cap, e1, e2, e3, e4, h6, e8⟩)) hQ
theorem grow_nil {P : Program} {ρ : Ren} {T : TT} {ei : TI} (L : Lays8.n4 P ρ) (hT : Tok P T) (hei : T[ρ.t 25]? = some (some ei)) (hes : Nat.ble 1 ei.size = true) (k : Nat) (hk : k * ei.bytes ≤ 140737488355328) (hk2 : k ≤ 140737488355328) :
    ImpC P (ρ.f 4) [.one (.c .nl), I .i64 (k : Int)] [] (.one (.hs 720 0 0 0)) [(720, .arr (ρ.t 25) ei.size [] 0)] := by
  intro S μ w vals hI hv
  simp only [VRelL, VRel, RRel, Rep] at hv
  obtain ⟨v1, vs1, rfl, rfl, v2, vs2, rfl, rfl, rfl⟩ := hv
  obtain ⟨inf, dd, z, g1, g2, g3, g4, g5, g6, g7, g8⟩ := (hT.get hei).ex
  have hzs : z.cells.size = ei.size := by
    have h1 := (checkL_rep (S := S) g7).length
    rw [(hT.get hei).len] at h1
    simpa using h1
  have hid : look ([] : List (Nat × AObj)) 720 = none := rfl
  by_cases h0 : k = 0
  · subst h0
    refine Calls.mono (Any8.slices_Grow_room L none 0 0 0 w (by omega) (by omega) (by omega) (by omega)) ?_
    rintro e w' ⟨rfl, rfl⟩
    obtain ⟨hi, hE⟩ := hI.empty (ρ.t 25) ei.size hid
    refine ⟨S, upd μ 720 none, _, rfl, ?_, ?_⟩
    · rw [look_upd]; exact hi
    · rw [look_upd]
      simp only [VRel, RRel]
      exact ⟨⟨_, _, _, rfl⟩, .inr ⟨_, _, [], 0, upd_same _ _ _, Nat.le_refl _, fun _ => ⟨Nat.le_refl _, .inl ⟨upd_same _ _ _, rfl, by first | rfl | trivial⟩⟩⟩⟩
  · refine Calls.mono (Any8.slices_Grow_grow L inf z g1 g6 (by rw [g3]; exact Nat.le_of_ble_eq_true hes) none 0 0 k [] w (by omega) (by omega) (by rw [g4, Nat.zero_add]; exact hk) (by omega) (by simp) (fun _ => rfl) (fun a h => by cases h)) ?_
    rintro e w' ⟨rfl, rfl⟩
    simp only [Nat.zero_add, Nat.sub_zero]
    have hG1 := grownCap_ge w k 0 (ρ.t 25)
    have hG2 := grownCap_le_maxLen w k 0 (ρ.t 25) (by unfold maxLen; omega)
    generalize grownCap w k 0 (ρ.t 25) = G at hG1 hG2 ⊢
    have hO : ORel S (upd μ 720 (some (w.heap.size, 0, G))) (upd (look []) 720 (some (.arr (ρ.t 25) ei.size [] 0))) (w.drew.alloc (.cells ((([] : List Value).toArray) ++ Builtin.zeroCells z.cells k ++ Builtin.zeroCells z.cells (G - k)) (ρ.t 25))) 720 (.arr (ρ.t 25) ei.size [] 0) := by
      refine ⟨by simp, .inr ⟨w.heap.size, 0, G, (([] : List Value).toArray ++ Builtin.zeroCells z.cells k ++ Builtin.zeroCells z.cells (G - k)).toList, upd_same _ _ _, heap_alloc_new w.drew _, ?_, Nat.zero_le _, hG2, ?_, fun _ o _ => no_cell hI o, fun o _ => no_cell hI o, fun e => by cases e⟩⟩
      · simp only [Array.toList_append, List.length_append, Array.length_toList, size_zeroCells, hzs, Nat.zero_add, List.length_nil]
        rw [← Nat.add_mul]
        exact Nat.mul_le_mul_right _ (by omega)
      · simp [RepL]
    have hE : Evolve S μ (look []) S (upd μ 720 (some (w.heap.size, 0, G))) (upd (look []) 720 (some (.arr (ρ.t 25) ei.size [] 0))) := evolve_new hid _ _
    have hi := hI.chg (id := 720) (cap := (0, G)) (WChg.alloc_drew w _) (.inl (Nat.le_refl _)) hE hO (fun o v e => by rw [no_cell hI] at e; cases e) (fun m e => Nat.le_refl _)
    refine ⟨S, upd μ 720 (some (w.heap.size, 0, G)), _, rfl, ?_, ?_⟩
    · rw [look_upd]; exact hi
    · rw [look_upd]
      simp only [VRel, RRel]
      exact ⟨⟨_, _, _, rfl⟩, .inr ⟨_, _, [], 0, upd_same _ _ _, Nat.le_refl _, fun _ => ⟨Nat.le_refl _, .inr ⟨w.heap.size, 0, G, upd_same _ _ _, by simp⟩⟩⟩⟩
end Go.AM

/- THE NUMBERS OF OBJECTS ARE BUT NAMES: a contract with other ones. -/
namespace Go.AM
open Go
def AObj.ren (σ : Nat → Nat) : AObj → AObj
  | .var t cells => .var t (R.renL σ cells)
  | .lp st j i e => .lp st j i (renE σ e)
  | .rarr te es l => .rarr te es (renR σ l)
  | o => o
def renH (σ : Nat → Nat) (hl : List (Nat × AObj)) : List (Nat × AObj) := hl.map fun p => (σ p.1, p.2.ren σ)
section
mutual
theorem R.ren_ren {σ : Nat → Nat} (hσ : ∀ i, σ (σ i) = i) : ∀ r : R, (r.ren σ).ren σ = r
  | .c _ => rfl
  | .hs .. => by simp [R.ren, hσ]
  | .tl .. => by simp [R.ren, hσ]
  | .vp .. => by simp [R.ren, hσ]
  | .ep .. => by simp [R.ren, hσ]
  | .mr _ => by simp [R.ren, hσ]
  | .clo f caps => by simp [R.ren, R.renL_renL hσ caps]
  | .mth f r => by simp [R.ren, R.ren_ren hσ r]
  | .yl _ => by simp [R.ren, hσ]
  | .ra .. => by simp [R.ren, hσ]
  | .rp .. => by simp [R.ren, hσ]
  | .ras n es l => by simp [R.ren, R.renL_renL hσ l]
  | .pas l => by simp [R.ren, R.renL_renL hσ l]
theorem R.renL_renL {σ : Nat → Nat} (hσ : ∀ i, σ (σ i) = i) : ∀ l : List R, R.renL σ (R.renL σ l) = l
  | [] => rfl
  | r :: l => by simp [R.renL, R.ren_ren hσ r, R.renL_renL hσ l]
end
mutual
theorem V.ren_ren {σ : Nat → Nat} (hσ : ∀ i, σ (σ i) = i) : ∀ r : V, (r.ren σ).ren σ = r
  | .one r => by simp [V.ren, R.ren_ren hσ r]
  | .pa _ => rfl
  | .ma l => by simp [V.ren, R.renL_renL hσ l]
  | .tup l => by simp [V.ren, V.renL_renL hσ l]
theorem V.renL_renL {σ : Nat → Nat} (hσ : ∀ i, σ (σ i) = i) : ∀ l : List V, V.renL σ (V.renL σ l) = l
  | [] => rfl
  | r :: l => by simp [V.renL, V.ren_ren hσ r, V.renL_renL hσ l]
end
variable {σ : Nat → Nat} (hσ : ∀ i, σ (σ i) = i)
include hσ
theorem renE_renE : ∀ l : List (Nat × V), renE σ (renE σ l) = l
  | [] => rfl
  | (t, v) :: l => by simp [renE, V.ren_ren hσ v, renE_renE l]
theorem renR_renR : ∀ l : List (List R), renR σ (renR σ l) = l
  | [] => rfl
  | r :: l => by simp [renR, R.renL_renL hσ r, renR_renR l]
theorem Ole.to_ren (o : AObj) : Ole σ o (o.ren σ) := by
  cases o with
  | var t cells => exact .var (R.renL_renL hσ cells).symm
  | lp st j i e => exact .lp (renE_renE hσ e).symm
  | rarr te es l => exact .rarr (renR_renR hσ l).symm
  | arr => exact .arr
  | map => exact .map
  | dead => exact .dead
  | dfr => exact .dfr
end
theorem Ole.of_ren {σ : Nat → Nat} (o : AObj) : Ole σ (o.ren σ) o := by
  cases o with
  | var t cells => exact .var rfl
  | lp st j i e => exact .lp rfl
  | rarr te es l => exact .rarr rfl
  | arr => exact .arr
  | map => exact .map
  | dead => exact .dead
  | dfr => exact .dfr
mutual
theorem R.refs_ren {σ : Nat → Nat} : ∀ r : R, (r.ren σ).refs = r.refs.map σ
  | .c _ => rfl
  | .hs .. => rfl
  | .tl .. => rfl
  | .vp .. => rfl
  | .ep .. => rfl
  | .mr _ => rfl
  | .clo f caps => by simp [R.ren, R.refs, R.refsL_ren caps]
  | .mth f r => by simp [R.ren, R.refs, R.refs_ren r]
  | .yl _ => rfl
  | .ra .. => rfl
  | .rp .. => rfl
  | .ras n es l => by simp [R.ren, R.refs, R.refsL_ren l]
  | .pas l => by simp [R.ren, R.refs, R.refsL_ren l]
theorem R.refsL_ren {σ : Nat → Nat} : ∀ l : List R, R.refsL (R.renL σ l) = (R.refsL l).map σ
  | [] => rfl
  | r :: l => by simp [R.renL, R.refsL, R.refs_ren r, R.refsL_ren l]
end
mutual
theorem V.refs_ren {σ : Nat → Nat} : ∀ r : V, (r.ren σ).refs = r.refs.map σ
  | .one r => by simp [V.ren, V.refs, R.refs_ren r]
  | .pa _ => rfl
  | .ma l => by simp [V.ren, V.refs, R.refsL_ren l]
  | .tup l => by simp [V.ren, V.refs, V.refsL_ren l]
theorem V.refsL_ren {σ : Nat → Nat} : ∀ l : List V, V.refsL (V.renL σ l) = (V.refsL l).map σ
  | [] => rfl
  | r :: l => by simp [V.renL, V.refsL, V.refs_ren r, V.refsL_ren l]
end
theorem refsE_ren {σ : Nat → Nat} : ∀ l : List (Nat × V), refsE (renE σ l) = (refsE l).map σ
  | [] => rfl
  | (t, v) :: l => by simp [renE, refsE, V.refs_ren v, refsE_ren l]
theorem refsR_ren {σ : Nat → Nat} : ∀ l : List (List R), refsR (renR σ l) = (refsR l).map σ
  | [] => rfl
  | r :: l => by simp [renR, refsR, R.refsL_ren r, refsR_ren l]
theorem AObj.refs_ren {σ : Nat → Nat} (o : AObj) : (o.ren σ).refs = o.refs.map σ := by
  cases o with
  | var t cells => exact R.refsL_ren cells
  | lp st j i e => exact refsE_ren e
  | rarr te es l => exact refsR_ren l
  | _ => rfl
/-- The one heap is the other one under other numbers. -/
structure RenH (σ : Nat → Nat) (H H' : Heap) : Prop where
  to : ∀ i o, H (σ i) = some o → ∃ o', H' i = some o' ∧ Ole σ o o'
  of : ∀ i o', H' i = some o' → ∃ o, H (σ i) = some o ∧ Ole σ o o'
  cl : ∀ i o', H' i = some o' → ∀ j ∈ o'.refs, ∃ x, H' j = some x
theorem RenH.good {σ : Nat → Nat} {H H' : Heap} (h : RenH σ H H') {i : Nat} (hi : ∃ x, H' i = some x) : Good H H' σ i := by
  obtain ⟨x, hx⟩ := hi
  obtain ⟨o, h1, h2⟩ := h.of i x hx
  exact ⟨o, x, h1, hx, h2⟩
theorem succ_ole {σ : Nat → Nat} {P : Prop} {a b c d : AObj} (h1 : Ole σ a b) (h2 : Ole σ c d) (h : a.succ P c) : b.succ P d := by
  cases h1 <;> cases h2 <;> simp only [AObj.succ] at h ⊢ <;> try exact h
  · rename_i e1 _ _ _ _ e2
    subst e1 e2
    simpa [renR_length] using h
theorem Inv.renH {σ : Nat → Nat} (hσ : ∀ i, σ (σ i) = i) {G : Ctx} {h0' H H' : Heap} {S : Sto} {μ : Mu} {w : World} (h : Inv G S μ H w) (h0 : RenH σ G.h0 h0') (hH : RenH σ H H') :
    Inv { G with μ0 := fun i => G.μ0 (σ i), h0 := h0' } S (fun i => μ (σ i)) H' w := by
  refine ⟨h.holds, fun id o ho => ?_, fun i j o o' b c c' hi hj hm hm' => ?_, fun i o b c hi hm => ?_, h.frame, h.sle, h.sto, ⟨h.evo.le, fun id o ho => ?_⟩⟩
  · obtain ⟨x, h1, h2⟩ := hH.of id o ho
    exact (h.obj _ _ h1).ren h2 fun j hj => hH.good (hH.cl id o ho j hj)
  · obtain ⟨x, h1, _⟩ := hH.of i o hi
    obtain ⟨y, h2, _⟩ := hH.of j o' hj
    have := h.inj _ _ _ _ b c c' h1 h2 hm hm'
    rw [← hσ i, ← hσ j, this]
  · obtain ⟨x, h1, _⟩ := hH.of i o hi
    exact h.own _ _ b c h1 hm
  · obtain ⟨x, h1, h2⟩ := h0.of id o ho
    obtain ⟨y, h3, h4⟩ := h.evo.obj _ _ h1
    obtain ⟨z, h5, h6⟩ := hH.to id y h3
    exact ⟨z, h5, succ_ole h2 h6 h4⟩
section
variable {σ : Nat → Nat} (hσ : ∀ i, σ (σ i) = i)
include hσ
theorem beq_ren (i k : Nat) : Nat.beq (σ i) (σ k) = Nat.beq i k := by
  cases h : Nat.beq i k with
  | true => rw [Nat.eq_of_beq_eq_true h]; exact Nat.beq_refl _
  | false =>
    cases h' : Nat.beq (σ i) (σ k) with
    | false => rfl
    | true =>
      have := Nat.eq_of_beq_eq_true h'
      have e : i = k := by rw [← hσ i, ← hσ k, this]
      rw [e, Nat.beq_refl] at h
      cases h
theorem look_renH (i : Nat) : ∀ hl : List (Nat × AObj), look (Go.AM.renH σ hl) (σ i) = (look hl i).map (AObj.ren σ)
  | [] => rfl
  | (k, o) :: hl => by
    have ih := look_renH i hl
    simp only [Go.AM.renH, List.map_cons, look, beq_ren hσ] at ih ⊢
    split
    · rfl
    · exact ih
theorem RenH.a {hl : List (Nat × AObj)} (hc : subset (refsH hl) (keys hl) = true) : RenH σ (look (Go.AM.renH σ hl)) (look hl) := by
  refine ⟨fun i o h => ?_, fun i o h => ?_, fun i o h j hj => ?_⟩
  · rw [look_renH hσ] at h
    cases hx : look hl i with
    | none => rw [hx] at h; cases h
    | some x => rw [hx] at h; cases h; exact ⟨x, rfl, .of_ren x⟩
  · exact ⟨o.ren σ, by rw [look_renH hσ, h]; rfl, .of_ren o⟩
  · exact look_mem_key (subset_spec hc j (refsH_mem (look_mem h) j hj))
theorem RenH.b {hl : List (Nat × AObj)} (hc : subset (refsH hl) (keys hl) = true) : RenH σ (look hl) (look (Go.AM.renH σ hl)) := by
  have key : ∀ i, look (Go.AM.renH σ hl) i = (look hl (σ i)).map (AObj.ren σ) := fun i => by
    have := look_renH hσ (σ i) hl
    rwa [hσ] at this
  refine ⟨fun i o h => ⟨o.ren σ, by rw [key, h]; rfl, .to_ren hσ o⟩, fun i o h => ?_, fun i o h j hj => ?_⟩
  · rw [key] at h
    cases hx : look hl (σ i) with
    | none => rw [hx] at h; cases h
    | some x => rw [hx] at h; cases h; exact ⟨x, rfl, .to_ren hσ x⟩
  · rw [key] at h
    cases hx : look hl (σ i) with
    | none => rw [hx] at h; cases h
    | some x =>
      rw [hx] at h; cases h
      rw [AObj.refs_ren] at hj
      obtain ⟨k, hk, rfl⟩ := List.mem_map.1 hj
      obtain ⟨y, hy⟩ := look_mem_key (subset_spec hc k (refsH_mem (look_mem hx) k hk))
      exact ⟨y.ren σ, by rw [key, hσ, hy]; rfl⟩
/-- A CONTRACT under other numbers. -/
theorem ImpC.ren {P : Program} {f : FuncId} {args : List V} {hin hout : List (Nat × AObj)} {res : V} (h : ImpC P f args hin res hout) (h1 : subset (refsH hin) (keys hin) = true) (h2 : subset (V.refsL args) (keys hin) = true) (h3 : subset (refsH hout) (keys hout) = true) (h4 : subset res.refs (keys hout) = true) :
    ImpC P f (V.renL σ args) (Go.AM.renH σ hin) (res.ren σ) (Go.AM.renH σ hout) := by
  intro S μ w vals hI hv
  have ra := RenH.a hσ h1
  have hI' := hI.renH hσ ra ra
  have hF : Foot μ (look (Go.AM.renH σ hin)) = Foot (fun i => μ (σ i)) (look hin) := by
    funext b
    refine propext ⟨?_, ?_⟩
    · rintro ⟨j, o, c, g1, g2⟩
      obtain ⟨o', g3, _⟩ := ra.to (σ j) o (by rw [hσ]; exact g1)
      exact ⟨σ j, o', c, g3, by show μ (σ (σ j)) = _; rw [hσ]; exact g2⟩
    · rintro ⟨j, o, c, g1, g2⟩
      obtain ⟨o', g3, _⟩ := ra.of j o g1
      exact ⟨σ j, o', c, g3, g2⟩
  rw [hF] at hI'
  have hv' : VRelL S (fun i => μ (σ i)) (look hin) args vals := VRelL.ren args vals (fun i hi => ra.good (look_mem_key (subset_spec h2 i hi))) hv
  refine Calls.mono (h S (fun i => μ (σ i)) w vals hI' hv') ?_
  rintro e w' ⟨S', μ', v, g1, g2, g3⟩
  refine ⟨S', fun i => μ' (σ i), v, g1, ?_, ?_⟩
  · have := g2.renH hσ (RenH.b hσ h1) (RenH.b hσ h3)
    dsimp only at this
    rw [hF]
    simpa only [hσ] using this
  · refine VRel.ren (res.ren σ) v (fun i hi => (RenH.b hσ h3).good ?_) (by rw [V.ren_ren hσ]; exact g3)
    rw [V.refs_ren] at hi
    obtain ⟨k, hk, rfl⟩ := List.mem_map.1 hi
    obtain ⟨y, hy⟩ := look_mem_key (subset_spec h4 k hk)
    exact ⟨y.ren σ, by rw [look_renH hσ, hy]; rfl⟩
end
/-- Two numbers for one another. -/
def swp (a b i : Nat) : Nat := bif Nat.beq i a then b else bif Nat.beq i b then a else i
theorem swp_swp (a b i : Nat) : swp a b (swp a b i) = i := by
  have hb : ∀ x y : Nat, (Nat.beq x y = true) ↔ x = y := fun x y => ⟨Nat.eq_of_beq_eq_true, fun h => by subst h; exact Nat.beq_refl _⟩
  unfold swp
  cases h1 : Nat.beq i a <;> cases h2 : Nat.beq i b <;> simp only [cond_true, cond_false]
  · rw [h1, h2]; rfl
  · cases h3 : Nat.beq a a with
    | true => simp only [cond_true]; exact ((hb _ _).1 h2).symm
    | false => rw [Nat.beq_refl] at h3; cases h3
  · cases h3 : Nat.beq b a with
    | true => simp only [cond_true]; rw [(hb _ _).1 h3, (hb _ _).1 h1]
    | false => rw [Nat.beq_refl]; simp only [cond_true, cond_false]; exact ((hb _ _).1 h1).symm
  · have e1 := (hb _ _).1 h1
    have e2 := (hb _ _).1 h2
    have e3 : b = a := by rw [← e2, e1]
    rw [e3, Nat.beq_refl]; simp only [cond_true]; exact e1.symm
theorem ImpC.swap (a b : Nat) {P : Program} {f : FuncId} {args : List V} {hin hout : List (Nat × AObj)} {res : V} (h : ImpC P f args hin res hout) (h1 : subset (refsH hin) (keys hin) = true := by rfl) (h2 : subset (V.refsL args) (keys hin) = true := by rfl) (h3 : subset (refsH hout) (keys hout) = true := by rfl) (h4 : subset res.refs (keys hout) = true := by rfl) :
    ImpC P f (V.renL (swp a b) args) (renH (swp a b) hin) (res.ren (swp a b)) (renH (swp a b) hout) := h.ren (swp_swp a b) h1 h2 h3 h4
end Go.AM

/- A CALL UNDER A GUARD that holds. -/
namespace Go.AM
open Go Go.Proofs
section
variable {P : Program} {n : Nat} {ops : Array Oper} {draw : Bool} {k d : Nat} {st : St} {pre : REs} {Q : St → Prop} {o : Oper} {f : FuncId} {xs : Array Operand} {ts : Array TypeId} {ids : List Nat} {args : List V} {res : V} {hin hout : List (Nat × AObj)}
theorem kcG {j t : Nat} {want b : Bool} (hf : ImpC P f args hin res hout)
    (hk : RunK P n ops draw (k + 1) ⟨upd st.e d (some res), updL st.h (outs hout), st.d⟩ ((⟨t :: operandsR xs.toList, ids ++ keys hin ++ keys hout⟩, ⟨some (d, some res), outs hout⟩) :: pre) Q)
    (hb : bodied P f := by exact bod_ (by kernel_rfl)) (ho : ops[k]? = some o := by rfl) (hg : o.guard = some (j, want) := by rfl) (hj : (ops[j]?).bind (·.dst) = some t := by rfl) (hbv : st.e t = some (.one (.c (.bool b))) := by rfl) (hw : b = want := by first | rfl | assumption) (hop : o.op = .call { callee := .value (.func f), args := xs, argTypes := ts } := by rfl) (hd : o.dst = some d := by rfl) (hdn : Nat.blt d n = true := by rfl)
    (ha : ArgsV st ids xs.toList args := by repeat (first | exact .nil | (apply Go.AM.ArgsV.cons rfl; (first | exact .refl | exact .one (.c .nl .nil) | exact .one (.c .sn .nil) | exact .one (.hs rfl (by first | rfl | simp) (by first | rfl | (simp; done) | (simp [Go.AM.take_map]; done) | exact Go.AM.take_map.symm) .nil) | exact Go.AM.hs_all rfl rfl (by first | rfl | assumption | (simp; done) | (simp; omega)) (by first | rfl | assumption | (simp; done)) | ((first | apply Go.AM.Conv.pa | apply Go.AM.Conv.agg); repeat (first | exact .nil | apply Go.AM.PureL.c .refl | apply Go.AM.PureL.c .nl | apply Go.AM.PureL.c .sn | (apply Go.AM.PureL.hs; rfl; (first | rfl | simp); (first | rfl | (simp; done) | (simp [Go.AM.take_map]; done) | exact Go.AM.take_map.symm))))))))
    (hin' : AllP (fun p => st.h p.1 = some p.2) hin := by repeat (first | exact trivial | refine ⟨rfl, ?_⟩)) (hout' : AllP (fun p => p.1 ∈ keys hin ∨ st.h p.1 = none) hout := by repeat (first | exact trivial | refine ⟨.inr rfl, ?_⟩ | refine ⟨.inl (by decide), ?_⟩ | refine ⟨.inl (by repeat (first | exact List.Mem.head _ | apply List.Mem.tail)), ?_⟩)) (hok : callOk args hin = true := by rfl) : RunK P n ops draw k st pre Q :=
  k_ (GStep.yes ho hg hj hbv hw (r_call hin hout hb hop hd (blt_lt hdn) hf ha hin' hout' hok)) hk
end
end Go.AM

/- GO'S LIBRARY: copies, what is contained; texts that are the same (as in La12, La22, La32, for seats without lift). -/
namespace Go.Proofs.YtmoekkcdkjopgaaGreatDoor
open Go Go.AM
set_option maxRecDepth 20000
def strsV (l : List Str) : V := .one (.c (.sl 1 (l.map encS)))
theorem c_clone_string (l : List (List C)) (h : l.length ≤ 100000000000) : ImpC Tryz.prog 58 [.one (.c (.sl 1 l))] [] (.one (.hs 710 0 l.length l.length)) [(710, .arr 9 1 l 0)] := by
  refine impC (n := 8) tok Tryz.func58 rfl rfl rfl ?_
  refine awp_seq (ag [] rfl ?_)
  refine awp_sl 0 rfl (fun hl => ?_) ?_
  · subst hl
    refine awp_seq (awp_seq (ag [] rfl ?_))
    refine awp_cond rfl (fun _ => ?_) (fun hb => by cases hb)
    refine awp_seq (ag [] rfl ?_)
    refine AWp.sub (Sub.own (t := 2) (id := 710) 9 1 rfl rfl) ?_
    exact awp_ret rtT
  · refine awp_seq (awp_seq (ag [] rfl ?_))
    refine awp_cond rfl (fun hb => by cases hb) (fun _ => ?_)
    refine awp_skip ?_
    refine awp_seq (ag [(0, .id 710)] rfl ?_)
    refine AWp.sub (st2 := mk [(2, .one (.hs 710 0 l.length l.length))] [(710, .arr 9 1 l 0)]) sl ?_
    exact awp_ret rtT
theorem c_clone_binds (l : List (List C)) (h : l.length ≤ 100000000000) : ImpC Tryz.prog 121 [.one (.c (.sl 15 l))] [] (.one (.hs 701 0 l.length l.length)) [(701, .arr 73 15 l 0)] := by
  refine impC (n := 8) tok Tryz.func121 rfl rfl rfl ?_
  refine awp_seq (ag [] rfl ?_)
  refine awp_sl 0 rfl (fun hl => ?_) ?_
  · subst hl
    refine awp_seq (awp_seq (ag [] rfl ?_))
    refine awp_cond rfl (fun _ => ?_) (fun hb => by cases hb)
    refine awp_seq (ag [] rfl ?_)
    refine AWp.sub (Sub.own (t := 2) (id := 701) 73 15 rfl rfl) ?_
    exact awp_ret rtT
  · refine awp_seq (awp_seq (ag [] rfl ?_))
    refine awp_cond rfl (fun hb => by cases hb) (fun _ => ?_)
    refine awp_skip ?_
    refine awp_seq (ag [(0, .id 701)] rfl ?_)
    refine AWp.sub (st2 := mk [(2, .one (.hs 701 0 l.length l.length))] [(701, .arr 73 15 l 0)]) sl ?_
    exact awp_ret rtT
theorem c_clone_cores (l : List (List C)) (h : l.length ≤ 100000000000) : ImpC Tryz.prog 120 [.one (.c (.sl 10 l))] [] (.one (.hs 702 0 l.length l.length)) [(702, .arr 37 10 l 0)] := by
  refine impC (n := 8) tok Tryz.func120 rfl rfl rfl ?_
  refine awp_seq (ag [] rfl ?_)
  refine awp_sl 0 rfl (fun hl => ?_) ?_
  · subst hl
    refine awp_seq (awp_seq (ag [] rfl ?_))
    refine awp_cond rfl (fun _ => ?_) (fun hb => by cases hb)
    refine awp_seq (ag [] rfl ?_)
    refine AWp.sub (Sub.own (t := 2) (id := 702) 37 10 rfl rfl) ?_
    exact awp_ret rtT
  · refine awp_seq (awp_seq (ag [] rfl ?_))
    refine awp_cond rfl (fun hb => by cases hb) (fun _ => ?_)
    refine awp_skip ?_
    refine awp_seq (ag [(0, .id 702)] rfl ?_)
    refine AWp.sub (st2 := mk [(2, .one (.hs 702 0 l.length l.length))] [(702, .arr 37 10 l 0)]) sl ?_
    exact awp_ret rtT
theorem c_clone_alts (l : List (List C)) (h : l.length ≤ 100000000000) : ImpC Tryz.prog 122 [.one (.c (.sl 14 l))] [] (.one (.hs 703 0 l.length l.length)) [(703, .arr 78 14 l 0)] := by
  refine impC (n := 8) tok Tryz.func122 rfl rfl rfl ?_
  refine awp_seq (ag [] rfl ?_)
  refine awp_sl 0 rfl (fun hl => ?_) ?_
  · subst hl
    refine awp_seq (awp_seq (ag [] rfl ?_))
    refine awp_cond rfl (fun _ => ?_) (fun hb => by cases hb)
    refine awp_seq (ag [] rfl ?_)
    refine AWp.sub (Sub.own (t := 2) (id := 703) 78 14 rfl rfl) ?_
    exact awp_ret rtT
  · refine awp_seq (awp_seq (ag [] rfl ?_))
    refine awp_cond rfl (fun hb => by cases hb) (fun _ => ?_)
    refine awp_skip ?_
    refine awp_seq (ag [(0, .id 703)] rfl ?_)
    refine AWp.sub (st2 := mk [(2, .one (.hs 703 0 l.length l.length))] [(703, .arr 78 14 l 0)]) sl ?_
    exact awp_ret rtT
/-- The first place of a text; below 0: none. -/
def fidx (s : Str) : List Str → Int → Int
  | [], _ => -1
  | x :: l, k => if s = x then k else fidx s l (k + 1)
theorem fidx_mem (s : Str) : ∀ (l : List Str) (k : Int), 0 ≤ k → (decide (0 ≤ fidx s l k) = decide (s ∈ l))
  | [], k, _ => by simp [fidx]
  | x :: l, k, hk => by
    rw [fidx]
    split
    · rename_i h; subst h; simp [hk]
    · rename_i h; rw [fidx_mem s l (k + 1) (by omega)]; simp [h]
theorem c_index (l : List Str) (s : Str) (h : l.length ≤ 80000000000) : ImpC Tryz.prog 123 [strsV l, Go.AM.T s] [] (I .i64 (fidx s l 0)) [] := by
  refine impC (n := 19) tok Tryz.func123 rfl rfl rfl ?_
  refine awp_seq (ag [] rfl ?_)
  refine awp_seq (awp_seq (ag [] rfl ?_))
  have hka : (l.map encS).length = l.length := List.length_map _
  refine awp_block ?_
  refine awp_loop (fun i : Nat => mk [(0, strsV l), (1, Go.AM.T s), (7, I .i64 ((l.map encS).length : Int)), (8, I .i64 i)] []) (fun i => i ≤ l.length ∧ fidx s l 0 = fidx s (l.drop i) i) (fun i => l.length - i) 0 ⟨Nat.zero_le _, rfl⟩ sl ?_
  intro i ⟨hi, he⟩
  refine awp_seq (ag [] rfl ?_)
  refine awp_seq (awp_cond rfl (fun hb => ?_) (fun hb => ?_))
  · have hlt := ltD hb hka
    obtain ⟨x, hx⟩ := get_of_lt hlt
    have hx' := getEnc encS hx
    have hd : l.drop i = x :: l.drop (i + 1) := by rw [List.drop_eq_getElem_cons hlt, (List.getElem?_eq_some_iff.1 hx).2]
    rw [hd, fidx] at he
    refine awp_skip ?_
    refine awp_seq (awp_block ?_)
    refine awp_seq (ag [] rfl ?_)
    refine awp_seq (ag [(3, .row i (encS x))] rfl ?_)
    refine awp_cond rfl (fun hb => ?_) (fun hb => ?_)
    · have hs : s = x := of_decide_eq_true hb
      rw [if_pos hs] at he
      rw [he]
      refine awp_seq (ag [] rfl ?_)
      exact awp_ret rtT
    · have hs : ¬ s = x := of_decide_eq_false hb
      rw [if_neg hs] at he
      refine awp_skip ?_
      refine ag [] rfl ?_
      exact ⟨i + 1, ⟨hlt, he⟩, by dsimp only; omega, sl⟩
  · have hge := geD hb hka hi
    subst hge
    rw [List.drop_length, fidx] at he
    rw [he]
    refine awp_exit ?_
    refine awp_seq (ag [] rfl ?_)
    exact awp_ret rtT
theorem c_contains (l : List Str) (s : Str) (h : l.length ≤ 80000000000) : ImpC Tryz.prog 60 [strsV l, Go.AM.T s] [] (B (decide (s ∈ l))) [] := by
  have hi := c_index l s h
  refine impC (n := 9) tok Tryz.func60 rfl rfl rfl ?_
  refine awp_seq (ag [] rfl ?_)
  refine awp_seq (ag [(2, .pc (I .i64 (fidx s l 0)))] rfl ?_)
  rw [← fidx_mem s l 0 (by omega)]
  exact awp_ret rtT
theorem c_sameTexts (a b : List Str) (h : a.length ≤ 80000000000) : ImpC Tryz.prog 70 [strsV a, strsV b] [] (B (decide (a = b))) [] := by
  refine impC (n := 26) tok Tryz.func70 rfl rfl rfl ?_
  refine awp_seq (ag [] rfl ?_)
  refine awp_seq (awp_seq (ag [] rfl ?_))
  refine awp_cond rfl (fun hb => ?_) (fun hb => ?_)
  · have hne : ¬ a = b := by
      rintro rfl
      simp at hb
    refine awp_seq (ag [] rfl ?_)
    rw [decide_eq_false hne]
    exact awp_ret rtT
  · have hlen : a.length = b.length := by
      have : (a.length : Int) = (b.length : Int) := by simpa using hb
      omega
    refine awp_skip ?_
    refine awp_seq (awp_seq (ag [] rfl ?_))
    refine awp_block ?_
    have hka : (a.map encS).length = a.length := List.length_map _
    refine awp_loop (fun i : Nat => mk [(0, strsV a), (1, strsV b), (5, I .i64 i)] []) (fun i => i ≤ a.length ∧ a.take i = b.take i) (fun i => a.length - i) 0 ⟨Nat.zero_le _, by simp⟩ sl ?_
    intro i ⟨hi, he⟩
    refine awp_seq (awp_seq (ag [] rfl ?_))
    refine awp_cond rfl (fun hb => ?_) (fun hb => ?_)
    · have hlt := ltD hb hka
      obtain ⟨x, hx⟩ := get_of_lt hlt
      obtain ⟨y, hy⟩ := get_of_lt (show i < b.length by omega)
      have hx' := getEnc encS hx
      have hy' := getEnc encS hy
      refine awp_skip ?_
      refine awp_seq (awp_block ?_)
      refine awp_seq (ag [(2, .row i (encS x)), (6, .row i (encS y))] rfl ?_)
      refine awp_cond rfl (fun hb => ?_) (fun hb => ?_)
      · have hxy : ¬ x = y := by simpa using hb
        have hne : ¬ a = b := by
          rintro rfl
          rw [hx] at hy
          exact hxy (Option.some.inj hy)
        rw [decide_eq_false hne]
        refine awp_seq (ag [] rfl ?_)
        exact awp_ret rtT
      · have hxy : x = y := by simpa using hb
        refine awp_skip ?_
        refine ag [] rfl ?_
        refine ⟨i + 1, ⟨hlt, ?_⟩, by dsimp only; omega, sl⟩
        rw [take_step hx, take_step hy, he, hxy]
    · have hge := geD hb hka hi
      have hab : a = b := by
        have := he
        rw [hge, List.take_length, List.take_of_length_le (by omega)] at this
        exact this
      refine awp_exit ?_
      rw [decide_eq_true hab]
      refine awp_seq (ag [] rfl ?_)
      exact awp_ret (rtT (hc := .refl))
def idxR {α : Type} (p : α → Bool) : List α → Nat → Int
  | [], _ => -1
  | x :: l, i => if p x then (i : Int) else idxR p l (i + 1)
theorem idx_any {α : Type} (p : α → Bool) : ∀ (l : List α) (i : Nat), decide (idxR p l i ≥ 0) = l.any p
  | [], _ => rfl
  | x :: l, i => by
    rw [idxR, List.any_cons]
    cases h : p x
    · rw [if_neg (by simp), idx_any p l]; rfl
    · rw [if_pos rfl, Bool.true_or]; simp
end Go.Proofs.YtmoekkcdkjopgaaGreatDoor

/- THE PROGRAM's Erase, and Binds: the walk. -/
namespace Go.Proofs.YtmoekkcdkjopgaaGreatDoor
open Go Go.AM
set_option maxRecDepth 20000
mutual
/-- What is given a type, or takes one, has a body. -/
def tkR : Core → Bool
  | .mk f _ _ _ ks bs al => (if f = 6 ∨ f = 7 then !ks.isEmpty else true) && (tkCs ks && (tkBs bs && tkAs al))
def tkCs : List Core → Bool
  | [] => true
  | c :: l => tkR c && tkCs l
def tkBs : List Bind → Bool
  | [] => true
  | .mk _ _ c :: l => tkR c && tkBs l
def tkAs : List Alt → Bool
  | [] => true
  | .mk _ _ _ _ c :: l => tkR c && tkAs l
end
theorem tkCs_mem : ∀ {l : List Core}, tkCs l = true → ∀ x ∈ l, tkR x = true
  | c :: l, h, x, hx => by
    rw [tkCs, Bool.and_eq_true] at h
    rcases List.mem_cons.1 hx with rfl | hx
    · exact h.1
    · exact tkCs_mem h.2 x hx
theorem tkBs_mem : ∀ {l : List Bind}, tkBs l = true → ∀ x ∈ l, tkR x.body = true
  | .mk s t c :: l, h, x, hx => by
    rw [tkBs, Bool.and_eq_true] at h
    rcases List.mem_cons.1 hx with rfl | hx
    · exact h.1
    · exact tkBs_mem h.2 x hx
theorem tkAs_mem : ∀ {l : List Alt}, tkAs l = true → ∀ x ∈ l, tkR x.body = true
  | .mk f n s v c :: l, h, x, hx => by
    rw [tkAs, Bool.and_eq_true] at h
    rcases List.mem_cons.1 hx with rfl | hx
    · exact h.1
    · exact tkAs_mem h.2 x hx
mutual
theorem erase_z0 : ∀ c : Core, z0R (eraseR c) = true
  | .mk f n s t ks bs al => by
    have hk := erase_z0s ks
    rw [eraseR]
    split
    · cases ks with
      | nil => rename_i h; simp at h
      | cons k ks => rw [eraseCs] at hk ⊢; rw [z0Cs, Bool.and_eq_true] at hk; exact hk.1
    · rw [z0R, hk, erase_z0b bs, erase_z0a al]; rfl
theorem erase_z0s : ∀ l : List Core, z0Cs (eraseCs l) = true
  | [] => by rw [eraseCs, z0Cs]
  | c :: l => by rw [eraseCs, z0Cs, erase_z0 c, erase_z0s l]; rfl
theorem erase_z0b : ∀ l : List Bind, z0Bs (eraseBs l) = true
  | [] => by rw [eraseBs, z0Bs]
  | .mk s t c :: l => by rw [eraseBs, eraseB, z0Bs, erase_z0 c, erase_z0b l]; rfl
theorem erase_z0a : ∀ l : List Alt, z0As (eraseAs l) = true
  | [] => by rw [eraseAs, z0As]
  | .mk f n s v c :: l => by rw [eraseAs, eraseA, z0As, erase_z0 c, erase_z0a l]; rfl
end
def PeSpec (c : Core) : Prop := ImpC Tryz.prog 22 [.pa (encCore c)] [] (.pa (encCore (eraseR c))) []
theorem c_pebinds (l : List Bind) (hl : l.length ≤ 40000000000) (ih : ∀ b ∈ l, PeSpec b.body) : ImpC Tryz.prog 57 [.one (.c (.sl 15 (encBinds l)))] [] (.one (.c (.sl 15 (encBinds (eraseBs l))))) [] := by
  refine impC (n := 23) tok Tryz.func57 rfl rfl rfl ?_
  refine awp_seq (ag [] rfl ?_)
  refine awp_seq (ag [] rfl ?_)
  refine AWp.sub (Sub.own (t := 3) (id := 500) 73 15 rfl rfl) ?_
  refine awp_seq (awp_seq (ag [] rfl ?_))
  have hle : (encBinds l).length = l.length := by rw [encBinds_map, List.length_map]
  refine awp_block ?_
  refine awp_loop (fun i : Nat => mk [(6, .one (.c (.sl 15 (encBinds l)))), (7, I .i64 ((encBinds l).length : Int)), (3, .one (.hs 500 0 i i)), (8, I .i64 i)] [(500, .arr 73 15 ((l.take i).map fun b => encBind (eraseB b)) 0)]) (fun i => i ≤ l.length) (fun i => l.length - i) 0 (Nat.zero_le _) sl ?_
  intro i hi
  refine awp_seq (ag [] rfl ?_)
  refine awp_seq (awp_cond rfl (fun hb => ?_) (fun hb => ?_))
  · have hlt := ltD hb hle
    obtain ⟨b, hbi⟩ := get_of_lt hlt
    have hbi' := encBinds_at hbi
    have hrows := take_map1 (fun b => encBind (eraseB b)) hbi
    have hk := ih b (List.mem_of_getElem? hbi)
    obtain ⟨s, t, c⟩ := b
    have hk : PeSpec c := hk
    refine awp_skip ?_
    refine awp_seq (awp_block ?_)
    refine awp_seq (ag [(0, .row i (encBind (.mk s t c)))] rfl ?_)
    refine ag [(5, .pc (.pa (encCore (eraseR c)))), (7, .all)] rfl ?_
    refine ag [] rfl ?_
    exact ⟨i + 1, hlt, by dsimp only; omega, sl⟩
  · have hge := geD hb hle hi
    subst hge
    have hr : (l.take l.length).map (fun b => encBind (eraseB b)) = encBinds (eraseBs l) := by rw [List.take_length, encBinds_map, eraseBs_map, List.map_map]; rfl
    rw [hr]
    have h2 : l.length = (encBinds (eraseBs l)).length := by rw [encBinds_map, eraseBs_map, List.length_map, List.length_map]
    refine awp_exit ?_
    refine awp_seq (ag [] rfl ?_)
    refine AWp.sub (Sub.freeze (id := 500) rfl) ?_
    exact awp_ret (rtT (hc := hs_all rfl rfl h2 rfl))
theorem vsum_le (a : Alt) : a.vars.length ≤ asize a := by
  obtain ⟨f, n, s, v, c⟩ := a
  rw [asize]
  have : ∀ l : List Str, l.length ≤ (l.map fun v => 1 + v.length).sum := by
    intro l
    induction l with
    | nil => simp
    | cons x l ih => rw [List.map_cons, List.sum_cons, List.length_cons]; omega
  have := this v
  show v.length ≤ _
  omega
theorem c_perase_step (c : Core) (hc : csize c ≤ 40000000000) (htk : tkR c = true) (ih : ∀ x, csize x < csize c → tkR x = true → PeSpec x) : PeSpec c := by
  refine impC (n := 68) tok Tryz.func22 rfl rfl rfl ?_
  refine awp_seq (ag [] rfl ?_)
  refine awp_seq (awp_block ?_)
  refine awp_loop (fun x : Core => mk [(1, .one (.vp 1 0)), (2, .one (.vp 2 0))] [(1, .var 37 (cellsC x)), (2, .var 37 zCells)]) (fun x => eraseR x = eraseR c ∧ csize x ≤ csize c ∧ tkR x = true) csize c ⟨rfl, Nat.le_refl _, htk⟩ sl ?_
  rintro ⟨f, n, s, t, ks, bs, al⟩ ⟨he, hsz, htx⟩
  simp only [tkR, Bool.and_eq_true] at htx
  obtain ⟨t1, t2, t3, t4⟩ := htx
  obtain ⟨ihk, ihb, iha, hkl, hbl, hal⟩ := @size_in f n s t ks bs al
  refine awp_seq (awp_seq (agF 4 [] rfl rfl rfl ?_))
  refine awp_cond rfl (fun hb => ?_) (fun hb => ?_)
  · have h67 : f = 6 ∨ f = 7 := by
      by_cases h6 : f = 6 ∨ f = 7
      · exact h6
      · exfalso
        have : ¬ f = 6 ∧ ¬ f = 7 := by omega
        simp [Core.form, this.1, this.2] at hb
    rw [if_pos h67] at t1
    cases ks with
    | nil => simp at t1
    | cons k0 ks =>
      have hr : eraseR (.mk f n s t (k0 :: ks) bs al) = eraseR k0 := by
        rw [eraseR, if_pos ⟨h67, by simp⟩, eraseCs]
        rfl
      rw [hr] at he
      have hk := ihk k0 (by simp)
      refine awp_skip ?_
      refine awp_block (ag [(2, .row 0 (encCore k0))] rfl ?_)
      exact ⟨k0, ⟨he, by omega, tkCs_mem t2 k0 (by simp)⟩, hk, sl⟩
  · have hcond : ¬ (f = 6 ∨ f = 7) := by
      rintro (rfl | rfl) <;> simp [Core.form] at hb
    have hB := c_pebinds bs (by omega) fun b hb => ih _ (by have := ihb b hb; omega) (tkBs_mem t3 b hb)
    rw [eraseR, if_neg (fun h => hcond h.1)] at he
    refine awp_exit ?_
    rw [← he]
    refine awp_seq (ag [(8, .pc (.one (.c (.sl 15 (encBinds (eraseBs bs))))))] rfl ?_)
    refine awp_seq (awp_seq (ag [] rfl ?_))
    refine AWp.sub (Sub.ownCell (x := 3) (k := 7) (id := 500) 37 10 rfl rfl rfl) ?_
    have hkE : (encCores ks).length = ks.length := by rw [encCores_map, List.length_map]
    refine awp_block ?_
    refine awp_loop (fun i : Nat => mk [(1, .one (.vp 1 0)), (2, .one (.vp 2 0)), (3, .one (.vp 3 0)), (31, .one (.c (.sl 10 (encCores ks)))), (32, I .i64 ((encCores ks).length : Int)), (33, I .i64 i)] [(1, .var 37 (cellsC (.mk f n s t ks bs al))), (2, .var 37 zCells), (3, .var 37 [.c (.int .i64 f), .c (.int .i64 n), .c (.str s), .c (.int .i64 0), .c (.int .i64 0), .c (.str []), .c .nl, .hs 500 0 i i, .c (.sl 15 (encBinds (eraseBs bs))), .c .nl]), (500, .arr 37 10 ((ks.take i).map fun x => encCore (eraseR x)) 0)]) (fun i => i ≤ ks.length) (fun i => ks.length - i) 0 (Nat.zero_le _) sl ?_
    intro i hi
    refine awp_seq (ag [] rfl ?_)
    refine awp_seq (awp_cond rfl (fun hb => ?_) (fun hb => ?_))
    · have hlt : i < ks.length := ltD hb hkE
      obtain ⟨k, hki⟩ := get_of_lt hlt
      have hki' := encCores_at hki
      have hm := List.mem_of_getElem? hki
      have he := ih k (by have := ihk k hm; omega) (tkCs_mem t2 k hm)
      have hrows := take_map1 (fun x => encCore (eraseR x)) hki
      refine awp_skip ?_
      refine awp_seq (awp_block ?_)
      refine awp_seq (ag [(0, .row i (encCore k))] rfl ?_)
      refine ag [(3, .pc (.pa (encCore (eraseR k))))] rfl ?_
      refine ag [] rfl ?_
      exact ⟨i + 1, hlt, by dsimp only; omega, sl⟩
    · have hge : i = ks.length := geD hb hkE hi
      subst hge
      have hKs : (ks.take ks.length).map (fun x => encCore (eraseR x)) = encCores (eraseCs ks) := by rw [List.take_length, encCores_map, eraseCs_map, List.map_map]; rfl
      rw [hKs]
      refine awp_exit ?_
      refine AWp.sub (Sub.freeze (id := 500) rfl) ?_
      refine awp_seq (awp_seq (ag [] rfl ?_))
      refine AWp.sub (Sub.ownCell (x := 3) (k := 9) (id := 501) 78 14 rfl rfl rfl) ?_
      have hkA : (encAlts al).length = al.length := by rw [encAlts_map, List.length_map]
      refine awp_block ?_
      refine awp_loop (fun i : Nat => mk [(2, .one (.vp 2 0)), (3, .one (.vp 3 0)), (46, .one (.c (.sl 14 (encAlts al)))), (47, I .i64 ((encAlts al).length : Int)), (48, I .i64 i)] [(2, .var 37 zCells), (3, .var 37 [.c (.int .i64 f), .c (.int .i64 n), .c (.str s), .c (.int .i64 0), .c (.int .i64 0), .c (.str []), .c .nl, .hs 500 0 ks.length ks.length, .c (.sl 15 (encBinds (eraseBs bs))), .hs 501 0 i i]), (500, .arr 37 10 (encCores (eraseCs ks)) 2), (501, .arr 78 14 ((al.take i).map fun x => encAlt (eraseA x)) 0)]) (fun i => i ≤ al.length) (fun i => al.length - i) 0 (Nat.zero_le _) sl ?_
      intro j hj
      refine awp_seq (ag [] rfl ?_)
      refine awp_seq (awp_cond rfl (fun hb => ?_) (fun hb => ?_))
      · have hlt : j < al.length := ltD hb hkA
        obtain ⟨a, hai⟩ := get_of_lt hlt
        have hai' := encAlts_at hai
        have hm := List.mem_of_getElem? hai
        have he := ih a.body (by have := iha a hm; omega) (tkAs_mem t4 a hm)
        have hrows := take_map1 (fun x => encAlt (eraseA x)) hai
        have hav := asizes_mem hm
        have hvl := vsum_le a
        obtain ⟨f', n', s', v', c'⟩ := a
        have he : PeSpec c' := he
        have hcl : ImpC Tryz.prog 58 [.one (.c (.sl 1 (v'.map encS)))] [] (.one (.c (.sl 1 (v'.map encS)))) [] := ImpC.plain (c_clone_string (v'.map encS) (by rw [List.length_map]; rw [csize] at hsz; have : v'.length ≤ asize (.mk f' n' s' v' c') := hvl; omega)) rfl
        refine awp_skip ?_
        refine awp_seq (awp_block ?_)
        refine awp_seq (ag [(0, .row j (encAlt (.mk f' n' s' v' c')))] rfl ?_)
        refine awp_seq (ag [(2, .pc (.one (.c (.sl 1 (v'.map encS))))), (5, .pc (.pa (encCore (eraseR c'))))] rfl ?_)
        refine ag [] rfl ?_
        refine ag [] rfl ?_
        exact ⟨j + 1, hlt, by dsimp only; omega, sl⟩
      · have hge := geD hb hkA hj
        subst hge
        have hAs : (al.take al.length).map (fun x => encAlt (eraseA x)) = encAlts (eraseAs al) := by rw [List.take_length, encAlts_map, eraseAs_map, List.map_map]; rfl
        rw [hAs]
        refine awp_exit ?_
        refine awp_seq (ag [] rfl ?_)
        refine AWp.sub (Sub.freeze (id := 501) rfl) ?_
        have h1 : ks.length = (encCores (eraseCs ks)).length := by rw [encCores_map, eraseCs_map, List.map_map, List.length_map]
        have h2 : al.length = (encAlts (eraseAs al)).length := by rw [encAlts_map, eraseAs_map, List.map_map, List.length_map]
        exact awp_ret (rtC trw)
theorem c_perase : ∀ (n : Nat) (c : Core), csize c ≤ n → csize c ≤ 40000000000 → tkR c = true → PeSpec c
  | 0, c, h, _, _ => by have := csize_pos c; omega
  | n + 1, c, h, hm, ht => c_perase_step c hm ht fun x hx htx => c_perase n x (by omega) (by omega) htx
end Go.Proofs.YtmoekkcdkjopgaaGreatDoor
