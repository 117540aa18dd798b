/-
  Texts La6, La7, La8, La9, La10 in one.
-/
import Derived.Test.YtojcjjjpniimiaaDoorM9
/- CORE, made of numbers: the walk. -/
namespace Go.Proofs.YtojcjjjpniimiaaDoor
open Go Go.AM
set_option maxRecDepth 20000

def gOf : Nat → List Int → Int → Mk
  | 0 => fun l left => (.mk 0 0 [] zTy [] [] [], l, left)
  | f + 1 => coreR f
theorem coreR_eq (f : Nat) (l : List Int) (left : Int) : coreR f l left = coreK (gOf f) (nextR l).1 (if f = 0 ∨ left - 1 < 1 then (nextR l).1 % 4 else (nextR l).1 % 14) (nextR l).2 (left - 1) := by
  cases f with
  | zero => simp [coreR, gOf]
  | succ f => simp [coreR, gOf]
/-- A maker's contract, so deep. -/
def MkSpec (g : List Int → Int → Mk) (dp : Int) (N : Nat) : Prop := ∀ l left, Nums l → Fits l → -9223372036854775808 + (N : Int) ≤ left → left ≤ 1000000 →
  ImpC Tryd.prog 38 [.one (.vp 700 0), I .i64 dp] (mkO l left) (.pa (encCore (g l left).1)) (mkO (g l left).2.1 (g l left).2.2)

theorem c_core_step (f : Nat) (dp : Int) (hd : dp + f = 6) (h0 : 0 ≤ dp) (ih : 1 ≤ f → MkSpec (gOf f) (dp + 1) (use (f - 1))) (hg : 1 ≤ f → MkOk (gOf f) (use (f - 1))) : MkSpec (coreR f) dp (use f) := by
  intro l left hl hf hlo hhi
  have hn := nextR_lt l
  have hl1 := hl.suf (nextR_suf l)
  have hf1 := hf.suf (nextR_suf l)
  have huse : 1 ≤ use f := by cases f <;> simp [use]
  refine impC (n := 211) tok Tryd.func38 rfl rfl rfl ?_
  refine awp_seq (ag [] rfl ?_)
  refine awp_seq (awp_rg mixed ?_)
  refine ak 1 [] rfl ?_
  refine kc (c_next l left hl hf) ?_
  refine ak 1 [] rfl ?_
  refine az ?_
  refine awp_seq (ag [] rfl ?_)
  refine awp_seq (ag [] rfl ?_)
  refine awp_seq (AWp.cut (mk [(0, .one (.vp 700 0)), (1, I .i64 dp), (4, .one (.vp 4 0)), (5, I .i64 (nextR l).1), (6, I .i64 (if f = 0 ∨ left - 1 < 1 then (nextR l).1 % 4 else (nextR l).1 % 14))] ((4, .var 38 [.c (.int .i64 0), .c (.int .i64 0), .c (.str []), .c (.int .i64 0), .c (.int .i64 0), .c (.str []), .c .nl, .c .nl, .c .nl, .c .nl]) :: mkO (nextR l).2 (left - 1))) ?_ ?_)
  · refine awp_seq (agF 3 [] rfl rfl rfl ?_)
    refine awp_cond rfl (fun hb => ?_) (fun hb => ?_)
    · have hb' : f = 0 ∨ left - 1 < 1 := by
        simp at hb
        omega
      refine ag [] rfl ?_
      rw [if_pos hb']
      exact .list (fun i => i) ⟨rfl, rfl, rfl, rfl, rfl, trivial⟩ ⟨⟨_, rfl, .var rfl⟩, ⟨_, rfl, .var rfl⟩, trivial⟩ rfl
    · have hb' : ¬ (f = 0 ∨ left - 1 < 1) := by
        simp at hb
        omega
      refine awp_skip ?_
      rw [if_neg hb']
      exact .list (fun i => i) ⟨rfl, rfl, rfl, rfl, rfl, trivial⟩ ⟨⟨_, rfl, .var rfl⟩, ⟨_, rfl, .var rfl⟩, trivial⟩ rfl
  have hr0 := coreR_eq f l left
  have hk0 : 0 ≤ (if f = 0 ∨ left - 1 < 1 then (nextR l).1 % 4 else (nextR l).1 % 14) := by split <;> omega
  have hkf : 4 ≤ (if f = 0 ∨ left - 1 < 1 then (nextR l).1 % 4 else (nextR l).1 % 14) → 1 ≤ f ∧ 1 ≤ left - 1 := by split <;> omega
  rw [hr0]
  clear hr0
  generalize (if f = 0 ∨ left - 1 < 1 then (nextR l).1 % 4 else (nextR l).1 % 14) = k at hk0 hkf ⊢
  generalize (nextR l).2 = l1 at hl1 hf1 ⊢
  generalize (nextR l).1 = n at hn ⊢
  have hlu : -9223372036854775808 + (use f : Int) ≤ left := hlo
  refine awp_seq (awp_seq (ag [] rfl ?_))

  refine awp_block (awp_seq (awp_seq (ag [] rfl ?_)))
  refine awp_cond rfl (fun hb => ?_) (fun hb => ?_)
  · have h0 : k = 0 := by simpa using hb
    refine awp_skip (awp_cond rfl (fun _ => ?_) (fun hb' => by rw [hb] at hb'; cases hb'))
    have hr : coreK (gOf f) n k l1 (left - 1) = (.mk 1 0 (oneOf nmL (n / 14)) zTy [] [] [], l1, left - 1) := by
      unfold coreK
      rw [if_pos (by omega)]
    rw [hr]
    refine awp_seq (awp_rg mixed ?_)
    refine ak 2 [] rfl ?_
    refine kc (c_name (n / 14) (by unfold i64; omega)) ?_
    refine ak 2 [] rfl ?_
    refine az ?_
    refine awp_ret ?_
    exact ⟨.inr rfl, ⟨_, _, .cell rfl (tg rfl) rfl rfl rfl .nil, .cons (by (first | apply Go.AM.Conv.pa | apply Go.AM.Conv.agg); repeat (first | exact .nil | apply Go.AM.PureL.c .refl | apply Go.AM.PureL.c .nl | (apply Go.AM.PureL.hs; rfl; (first | rfl | simp); (first | rfl | exact Go.AM.take_map.symm)))) .nil, rfl⟩, ⟨⟨_, rfl, .var rfl⟩, trivial⟩, rfl⟩
  · have h0 : ¬ k = 0 := by simpa using hb
    refine ag [] rfl ?_
    refine awp_cond rfl (fun hb1 => ?_) (fun hb1 => ?_)
    · have h1 : k = 1 := by simpa using hb1
      have hr : coreK (gOf f) n k l1 (left - 1) = (.mk 1 0 (oneOf nmL (n / 14)) zTy [] [] [], l1, left - 1) := by
        unfold coreK
        rw [if_pos (by omega)]
      rw [hr]
      refine awp_seq (awp_rg mixed ?_)
      refine ak 2 [] rfl ?_
      refine kc (c_name (n / 14) (by unfold i64; omega)) ?_
      refine ak 2 [] rfl ?_
      refine az ?_
      refine awp_ret ?_
      exact ⟨.inr rfl, ⟨_, _, .cell rfl (tg rfl) rfl rfl rfl .nil, .cons (by (first | apply Go.AM.Conv.pa | apply Go.AM.Conv.agg); repeat (first | exact .nil | apply Go.AM.PureL.c .refl | apply Go.AM.PureL.c .nl | (apply Go.AM.PureL.hs; rfl; (first | rfl | simp); (first | rfl | exact Go.AM.take_map.symm)))) .nil, rfl⟩, ⟨⟨_, rfl, .var rfl⟩, trivial⟩, rfl⟩
    · have h1 : ¬ k = 1 := by simpa using hb1
      have c1 : ¬ k < 2 := by omega
      refine awp_seq (ag [] rfl ?_)
      refine awp_cond rfl (fun hb2 => ?_) (fun hb2 => ?_)
      · have h2 : k = 2 := by simpa using hb2
        have hr : coreK (gOf f) n k l1 (left - 1) = (.mk 2 0 (oneOf conL (n / 14)) zTy [] [] [], l1, left - 1) := by
          unfold coreK
          rw [if_neg c1, if_pos h2]
        rw [hr]
        refine awp_seq (awp_rg mixed ?_)
        refine ak 2 [] rfl ?_
        refine kc (c_con (n / 14) (by unfold i64; omega)) ?_
        refine ak 2 [] rfl ?_
        refine az ?_
        refine awp_ret ?_
        exact ⟨.inr rfl, ⟨_, _, .cell rfl (tg rfl) rfl rfl rfl .nil, .cons (by (first | apply Go.AM.Conv.pa | apply Go.AM.Conv.agg); repeat (first | exact .nil | apply Go.AM.PureL.c .refl | apply Go.AM.PureL.c .nl | (apply Go.AM.PureL.hs; rfl; (first | rfl | simp); (first | rfl | exact Go.AM.take_map.symm)))) .nil, rfl⟩, ⟨⟨_, rfl, .var rfl⟩, trivial⟩, rfl⟩
      · have h2 : ¬ k = 2 := by simpa using hb2
        refine awp_seq (ag [] rfl ?_)
        refine awp_cond rfl (fun hb3 => ?_) (fun hb3 => ?_)
        · have h3 : k = 3 := by simpa using hb3
          have hr : coreK (gOf f) n k l1 (left - 1) = (.mk 3 (n / 14 - 3) [] zTy [] [] [], l1, left - 1) := by
            unfold coreK
            rw [if_neg c1, if_neg h2, if_pos h3]
          rw [hr]
          refine awp_seq (ag [] rfl ?_)
          refine awp_ret ?_
          exact ⟨.inr rfl, ⟨_, _, .cell rfl (tg rfl) rfl rfl rfl .nil, .cons (by (first | apply Go.AM.Conv.pa | apply Go.AM.Conv.agg); repeat (first | exact .nil | apply Go.AM.PureL.c .refl | apply Go.AM.PureL.c .nl | (apply Go.AM.PureL.hs; rfl; (first | rfl | simp); (first | rfl | exact Go.AM.take_map.symm)))) .nil, rfl⟩, ⟨⟨_, rfl, .var rfl⟩, trivial⟩, rfl⟩
        · have h3 : ¬ k = 3 := by simpa using hb3
          refine awp_seq (awp_seq (ag [] rfl ?_))
          refine awp_cond rfl (fun hb4 => ?_) (fun hb4 => ?_)
          · have h4 : k = 4 := by simpa using hb4
            refine awp_skip (awp_cond rfl (fun _ => ?_) (fun hb' => by rw [hb4] at hb'; cases hb'))
            obtain ⟨hf0, hl0⟩ := hkf (by omega)
            have ho := hg hf0
            have hu : use f = 1 + 4 * use (f - 1) := by cases f with | zero => omega | succ f => rfl
            have g1 := ho.suf l1 (left - 1)
            have g2 := ho.le l1 (left - 1)
            have g3 := ho.ge l1 (left - 1)
            have ih1 := ih hf0 l1 (left - 1) hl1 hf1 (by omega) (by omega)
            have ih2 := ih hf0 (gOf f l1 (left - 1)).2.1 (gOf f l1 (left - 1)).2.2 (hl1.suf g1) (hf1.suf g1) (by omega) (by omega)
            have hr : coreK (gOf f) n k l1 (left - 1) = (.mk 4 0 [] zTy [(gOf f l1 (left - 1)).1, (gOf f (gOf f l1 (left - 1)).2.1 (gOf f l1 (left - 1)).2.2).1] [] [], (gOf f (gOf f l1 (left - 1)).2.1 (gOf f l1 (left - 1)).2.2).2) := by
              unfold coreK
              rw [if_neg c1, if_neg h2, if_neg h3, if_pos (by omega)]
            rw [hr]
            refine awp_seq (awp_rg mixed ?_)
            refine ak 3 [] rfl ?_
            refine kc ih1 ?_
            refine ak 2 [] rfl ?_
            refine az ?_
            refine awp_seq (awp_rg mixed ?_)
            refine ak 4 [] rfl ?_
            refine kc ih2 ?_
            refine ak 3 [] rfl ?_
            refine az ?_
            refine AWp.sub (Sub.freeze (id := 72) rfl) (awp_ret ?_)
            exact ⟨.inr rfl, ⟨_, _, .cell rfl (tg rfl) rfl rfl rfl .nil, .cons (by (first | apply Go.AM.Conv.pa | apply Go.AM.Conv.agg); repeat (first | exact .nil | apply Go.AM.PureL.c .refl | apply Go.AM.PureL.c .nl | (apply Go.AM.PureL.hs; rfl; (first | rfl | simp); (first | rfl | exact Go.AM.take_map.symm)))) .nil, rfl⟩, ⟨⟨_, rfl, .var rfl⟩, trivial⟩, rfl⟩
          · have h4 : ¬ k = 4 := by simpa using hb4
            refine ag [] rfl ?_
            refine awp_cond rfl (fun hb5 => ?_) (fun hb5 => ?_)
            · have h5 : k = 5 := by simpa using hb5
              obtain ⟨hf0, hl0⟩ := hkf (by omega)
              have ho := hg hf0
              have hu : use f = 1 + 4 * use (f - 1) := by cases f with | zero => omega | succ f => rfl
              have g1 := ho.suf l1 (left - 1)
              have g2 := ho.le l1 (left - 1)
              have g3 := ho.ge l1 (left - 1)
              have ih1 := ih hf0 l1 (left - 1) hl1 hf1 (by omega) (by omega)
              have ih2 := ih hf0 (gOf f l1 (left - 1)).2.1 (gOf f l1 (left - 1)).2.2 (hl1.suf g1) (hf1.suf g1) (by omega) (by omega)
              have hr : coreK (gOf f) n k l1 (left - 1) = (.mk 4 0 [] zTy [(gOf f l1 (left - 1)).1, (gOf f (gOf f l1 (left - 1)).2.1 (gOf f l1 (left - 1)).2.2).1] [] [], (gOf f (gOf f l1 (left - 1)).2.1 (gOf f l1 (left - 1)).2.2).2) := by
                unfold coreK
                rw [if_neg c1, if_neg h2, if_neg h3, if_pos (by omega)]
              rw [hr]
              refine awp_seq (awp_rg mixed ?_)
              refine ak 3 [] rfl ?_
              refine kc ih1 ?_
              refine ak 2 [] rfl ?_
              refine az ?_
              refine awp_seq (awp_rg mixed ?_)
              refine ak 4 [] rfl ?_
              refine kc ih2 ?_
              refine ak 3 [] rfl ?_
              refine az ?_
              refine AWp.sub (Sub.freeze (id := 72) rfl) (awp_ret ?_)
              exact ⟨.inr rfl, ⟨_, _, .cell rfl (tg rfl) rfl rfl rfl .nil, .cons (by (first | apply Go.AM.Conv.pa | apply Go.AM.Conv.agg); repeat (first | exact .nil | apply Go.AM.PureL.c .refl | apply Go.AM.PureL.c .nl | (apply Go.AM.PureL.hs; rfl; (first | rfl | simp); (first | rfl | exact Go.AM.take_map.symm)))) .nil, rfl⟩, ⟨⟨_, rfl, .var rfl⟩, trivial⟩, rfl⟩
            · have h5 : ¬ k = 5 := by simpa using hb5
              have c2 : ¬ k < 6 := by omega
              refine awp_seq (awp_seq (ag [] rfl ?_))
              refine awp_cond rfl (fun hb6 => ?_) (fun hb6 => ?_)
              · have h6 : k = 6 := by simpa using hb6
                refine awp_skip (awp_cond rfl (fun _ => ?_) (fun hb' => by rw [hb6] at hb'; cases hb'))
                obtain ⟨hf0, hl0⟩ := hkf (by omega)
                have ho := hg hf0
                have hu : use f = 1 + 4 * use (f - 1) := by cases f with | zero => omega | succ f => rfl
                have ht := typR_suf 2 l1
                have iht := ih hf0 (typR 2 l1).2 (left - 1) (hl1.suf ht) (hf1.suf ht) (by omega) (by omega)
                have hty := c_typ (left - 1) 2 l1 1 hl1 hf1 (by omega) (by omega)
                have hr : coreK (gOf f) n k l1 (left - 1) = (.mk 5 0 (oneOf nmL (n / 14)) (typR 2 l1).1 [(gOf f (typR 2 l1).2 (left - 1)).1] [] [], (gOf f (typR 2 l1).2 (left - 1)).2) := by
                  unfold coreK
                  rw [if_neg c1, if_neg h2, if_neg h3, if_neg c2, if_pos (by omega)]
                rw [hr]
                refine awp_seq (awp_rg mixed ?_)
                refine ak 1 [] rfl ?_
                refine kc hty ?_
                refine ak 2 [] rfl ?_
                refine az ?_
                refine awp_seq (awp_rg mixed ?_)
                refine ak 2 [] rfl ?_
                refine kc (c_name (n / 14) (by unfold i64; omega)) ?_
                refine ak 4 [] rfl ?_
                refine kc iht ?_
                refine ak 3 [] rfl ?_
                refine az ?_
                refine AWp.sub (Sub.freeze (id := 87) rfl) (awp_ret ?_)
                exact ⟨.inr rfl, ⟨_, _, .cell rfl (tg rfl) rfl rfl rfl .nil, .cons (by (first | apply Go.AM.Conv.pa | apply Go.AM.Conv.agg); repeat (first | exact .nil | apply Go.AM.PureL.c .refl | apply Go.AM.PureL.c .nl | (apply Go.AM.PureL.hs; rfl; (first | rfl | simp); (first | rfl | exact Go.AM.take_map.symm)))) .nil, rfl⟩, ⟨⟨_, rfl, .var rfl⟩, trivial⟩, rfl⟩
              · have h6 : ¬ k = 6 := by simpa using hb6
                refine ag [] rfl ?_
                refine awp_cond rfl (fun hb7 => ?_) (fun hb7 => ?_)
                · have h7 : k = 7 := by simpa using hb7
                  obtain ⟨hf0, hl0⟩ := hkf (by omega)
                  have ho := hg hf0
                  have hu : use f = 1 + 4 * use (f - 1) := by cases f with | zero => omega | succ f => rfl
                  have ht := typR_suf 2 l1
                  have iht := ih hf0 (typR 2 l1).2 (left - 1) (hl1.suf ht) (hf1.suf ht) (by omega) (by omega)
                  have hty := c_typ (left - 1) 2 l1 1 hl1 hf1 (by omega) (by omega)
                  have hr : coreK (gOf f) n k l1 (left - 1) = (.mk 5 0 (oneOf nmL (n / 14)) (typR 2 l1).1 [(gOf f (typR 2 l1).2 (left - 1)).1] [] [], (gOf f (typR 2 l1).2 (left - 1)).2) := by
                    unfold coreK
                    rw [if_neg c1, if_neg h2, if_neg h3, if_neg c2, if_pos (by omega)]
                  rw [hr]
                  refine awp_seq (awp_rg mixed ?_)
                  refine ak 1 [] rfl ?_
                  refine kc hty ?_
                  refine ak 2 [] rfl ?_
                  refine az ?_
                  refine awp_seq (awp_rg mixed ?_)
                  refine ak 2 [] rfl ?_
                  refine kc (c_name (n / 14) (by unfold i64; omega)) ?_
                  refine ak 4 [] rfl ?_
                  refine kc iht ?_
                  refine ak 3 [] rfl ?_
                  refine az ?_
                  refine AWp.sub (Sub.freeze (id := 87) rfl) (awp_ret ?_)
                  exact ⟨.inr rfl, ⟨_, _, .cell rfl (tg rfl) rfl rfl rfl .nil, .cons (by (first | apply Go.AM.Conv.pa | apply Go.AM.Conv.agg); repeat (first | exact .nil | apply Go.AM.PureL.c .refl | apply Go.AM.PureL.c .nl | (apply Go.AM.PureL.hs; rfl; (first | rfl | simp); (first | rfl | exact Go.AM.take_map.symm)))) .nil, rfl⟩, ⟨⟨_, rfl, .var rfl⟩, trivial⟩, rfl⟩
                · have h7 : ¬ k = 7 := by simpa using hb7
                  have c3 : ¬ k < 8 := by omega
                  refine awp_seq (ag [] rfl ?_)
                  refine awp_cond rfl (fun hb8 => ?_) (fun hb8 => ?_)
                  · have h8 : k = 8 := by simpa using hb8
                    obtain ⟨hf0, hl0⟩ := hkf (by omega)
                    have ho := hg hf0
                    have hu : use f = 1 + 4 * use (f - 1) := by cases f with | zero => omega | succ f => rfl
                    have ht := typR_suf 2 l1
                    have iht := ih hf0 (typR 2 l1).2 (left - 1) (hl1.suf ht) (hf1.suf ht) (by omega) (by omega)
                    have hty := c_typ (left - 1) 2 l1 1 hl1 hf1 (by omega) (by omega)
                    have hr : coreK (gOf f) n k l1 (left - 1) = (.mk 6 0 [] (typR 2 l1).1 [(gOf f (typR 2 l1).2 (left - 1)).1] [] [], (gOf f (typR 2 l1).2 (left - 1)).2) := by
                      unfold coreK
                      rw [if_neg c1, if_neg h2, if_neg h3, if_neg c2, if_neg c3, if_pos h8]
                    rw [hr]
                    refine awp_seq (awp_rg mixed ?_)
                    refine ak 1 [] rfl ?_
                    refine kc hty ?_
                    refine ak 2 [] rfl ?_
                    refine az ?_
                    refine awp_seq (awp_rg mixed ?_)
                    refine ak 4 [] rfl ?_
                    refine kc iht ?_
                    refine ak 3 [] rfl ?_
                    refine az ?_
                    refine AWp.sub (Sub.freeze (id := 98) rfl) (awp_ret ?_)
                    exact ⟨.inr rfl, ⟨_, _, .cell rfl (tg rfl) rfl rfl rfl .nil, .cons (by (first | apply Go.AM.Conv.pa | apply Go.AM.Conv.agg); repeat (first | exact .nil | apply Go.AM.PureL.c .refl | apply Go.AM.PureL.c .nl | (apply Go.AM.PureL.hs; rfl; (first | rfl | simp); (first | rfl | exact Go.AM.take_map.symm)))) .nil, rfl⟩, ⟨⟨_, rfl, .var rfl⟩, trivial⟩, rfl⟩
                  · have h8 : ¬ k = 8 := by simpa using hb8
                    refine awp_seq (ag [] rfl ?_)
                    refine awp_cond rfl (fun hb9 => ?_) (fun hb9 => ?_)
                    · have h9 : k = 9 := by simpa using hb9
                      obtain ⟨hf0, hl0⟩ := hkf (by omega)
                      have ho := hg hf0
                      have hu : use f = 1 + 4 * use (f - 1) := by cases f with | zero => omega | succ f => rfl
                      have g1 := ho.suf l1 (left - 1)
                      have g2 := ho.le l1 (left - 1)
                      have g3 := ho.ge l1 (left - 1)
                      have ih1 := ih hf0 l1 (left - 1) hl1 hf1 (by omega) (by omega)
                      have ih2 := ih hf0 (gOf f l1 (left - 1)).2.1 (gOf f l1 (left - 1)).2.2 (hl1.suf g1) (hf1.suf g1) (by omega) (by omega)
                      have hr : coreK (gOf f) n k l1 (left - 1) = (.mk 7 0 (oneOf tnmL (n / 14)) zTy [(gOf f l1 (left - 1)).1] [] [], (gOf f l1 (left - 1)).2) := by
                        unfold coreK
                        rw [if_neg c1, if_neg h2, if_neg h3, if_neg c2, if_neg c3, if_neg h8, if_pos h9]
                      rw [hr]
                      refine awp_seq (awp_rg mixed ?_)
                      refine ak 2 [] rfl ?_
                      refine kc (c_tname (n / 14) (by unfold i64; omega)) ?_
                      refine ak 3 [] rfl ?_
                      refine kc ih1 ?_
                      refine ak 3 [] rfl ?_
                      refine az ?_
                      refine AWp.sub (Sub.freeze (id := 109) rfl) (awp_ret ?_)
                      exact ⟨.inr rfl, ⟨_, _, .cell rfl (tg rfl) rfl rfl rfl .nil, .cons (by (first | apply Go.AM.Conv.pa | apply Go.AM.Conv.agg); repeat (first | exact .nil | apply Go.AM.PureL.c .refl | apply Go.AM.PureL.c .nl | (apply Go.AM.PureL.hs; rfl; (first | rfl | simp); (first | rfl | exact Go.AM.take_map.symm)))) .nil, rfl⟩, ⟨⟨_, rfl, .var rfl⟩, trivial⟩, rfl⟩
                    · have h9 : ¬ k = 9 := by simpa using hb9
                      refine awp_seq (ag [] rfl ?_)
                      refine awp_cond rfl (fun hb10 => ?_) (fun hb10 => ?_)
                      · have h10 : k = 10 := by simpa using hb10
                        obtain ⟨hf0, hl0⟩ := hkf (by omega)
                        have ho := hg hf0
                        have hu : use f = 1 + 4 * use (f - 1) := by cases f with | zero => omega | succ f => rfl
                        have hnm := namesR_len l1
                        have hr : coreK (gOf f) n k l1 (left - 1) = (.mk 8 0 [] zTy [(gOf f (bindsTo (gOf f) (namesR l1).1 (namesR l1).2 (left - 1) (namesR l1).1.length).2.1 (bindsTo (gOf f) (namesR l1).1 (namesR l1).2 (left - 1) (namesR l1).1.length).2.2).1] (bindsTo (gOf f) (namesR l1).1 (namesR l1).2 (left - 1) (namesR l1).1.length).1 [], (gOf f (bindsTo (gOf f) (namesR l1).1 (namesR l1).2 (left - 1) (namesR l1).1.length).2.1 (bindsTo (gOf f) (namesR l1).1 (namesR l1).2 (left - 1) (namesR l1).1.length).2.2).2) := by
                          unfold coreK
                          rw [if_neg c1, if_neg h2, if_neg h3, if_neg c2, if_neg c3, if_neg h8, if_neg h9, if_pos h10]
                        rw [hr]
                        refine awp_seq (awp_rg mixed ?_)
                        refine ak 1 [] rfl ?_
                        refine kc (c_names (left - 1) l1 hl1 hf1) ?_
                        refine ak 1 [] rfl ?_
                        refine az ?_
                        have hl2 := hl1.suf (namesR_suf l1)
                        have hf2 := hf1.suf (namesR_suf l1)
                        generalize (namesR l1).1 = ns at hnm ⊢
                        generalize (namesR l1).2 = l2 at hl2 hf2 ⊢
                        refine awp_seq (ag [] rfl ?_)
                        refine awp_seq (awp_seq (ag [] rfl ?_))
                        refine AWp.sub (Sub.ownCell (x := 11) (k := 8) (id := 800) 46 15 rfl rfl rfl) ?_
                        have hB := bindsTo_ok ho ns l2 (left - 1)
                        generalize hBd : bindsTo (gOf f) ns l2 (left - 1) = B at hB ⊢
                        refine awp_block (awp_loop (fun i : Nat => mk [(0, .one (.vp 700 0)), (1, I .i64 dp), (4, .one (.vp 4 0)), (10, .one (.c (.sl 1 (ns.map encS)))), (11, .one (.vp 11 0)), (12, I .i64 i)] ((4, .var 38 [.c (.int .i64 0), .c (.int .i64 0), .c (.str []), .c (.int .i64 0), .c (.int .i64 0), .c (.str []), .c .nl, .c .nl, .c .nl, .c .nl]) :: (11, .var 38 [.c (.int .i64 8), .c (.int .i64 0), .c (.str []), .c (.int .i64 0), .c (.int .i64 0), .c (.str []), .c .nl, .c .nl, .hs 800 0 (B i).1.length (B i).1.length, .c .nl]) :: (800, .arr 46 15 (encBinds (B i).1) 0) :: mkO (B i).2.1 (B i).2.2)) (fun i => i ≤ ns.length) (fun i => ns.length - i) 0 (Nat.zero_le _) (by rw [← hBd]; exact .list (fun i => i) ⟨rfl, rfl, rfl, rfl, rfl, rfl, trivial⟩ ⟨⟨_, rfl, .var rfl⟩, ⟨_, rfl, .var rfl⟩, ⟨_, rfl, .arr⟩, ⟨_, rfl, .var rfl⟩, trivial⟩ rfl) ?_)
                        intro i hi
                        obtain ⟨b1, b2, b3, b4⟩ := hB i
                        have hsz : (B i).1.length = (encBinds (B i).1).length := by rw [encBinds_map, List.length_map]
                        have hbl : (encBinds (B i).1).length ≤ 3 := by omega
                        have hm : (i : Int) * (use (f - 1) : Int) ≤ 3 * (use (f - 1) : Int) := Int.mul_le_mul_of_nonneg_right (by omega) (by omega)
                        have hlB := hl2.suf b1
                        have hfB := hf2.suf b1
                        refine awp_seq (awp_seq (ag [] rfl ?_))
                        refine awp_cond rfl (fun hb => ?_) (fun hb => ?_)
                        · refine awp_skip ?_
                          have hlt : i < ns.length := by simpa using hb
                          obtain ⟨s, hs⟩ := get_of_lt hlt
                          have hs' := getEnc encS hs
                          have hty := c_typ (B i).2.2 2 (B i).2.1 1 hlB hfB (by omega) (by omega)
                          have htS := typR_suf 2 (B i).2.1
                          have ihB := ih hf0 (typR 2 (B i).2.1).2 (B i).2.2 (hlB.suf htS) (hfB.suf htS) (by omega) (by omega)
                          have he : B (i + 1) = ((B i).1 ++ [.mk s (typR 2 (B i).2.1).1 (gOf f (typR 2 (B i).2.1).2 (B i).2.2).1], (gOf f (typR 2 (B i).2.1).2 (B i).2.2).2) := by
                            rw [← hBd, bindsTo, hs]
                            rfl
                          refine awp_seq (awp_block (awp_seq (awp_rg mixed ?_)))
                          refine ak 1 [] rfl ?_
                          refine kc hty ?_
                          refine ak 2 [] rfl ?_
                          refine az ?_
                          refine awp_rg mixed ?_
                          refine ak 10 [(4, .row i (encS s))] rfl ?_
                          refine kc ihB ?_
                          refine ak 5 [] rfl ?_
                          refine az ?_
                          refine ag [] rfl ?_
                          refine ⟨i + 1, hlt, by dsimp only; omega, ?_⟩
                          dsimp only
                          rw [he]
                          exact .list (fun i => i) ⟨rfl, rfl, rfl, rfl, rfl, rfl, trivial⟩ ⟨⟨_, rfl, .var rfl⟩, ⟨_, rfl, .var (by simp [R.renL, R.ren, encBinds_map])⟩, ⟨_, rfl, by rw [encBinds_map ((B i).1 ++ _), List.map_append, ← encBinds_map]; exact .arr⟩, ⟨_, rfl, .var rfl⟩, trivial⟩ rfl
                        · have hie : i = ns.length := by
                            have : ¬ i < ns.length := by simpa using hb
                            omega
                          rw [← hie]
                          have ihB := ih hf0 (B i).2.1 (B i).2.2 hlB hfB (by omega) (by omega)
                          have hE : encBinds (B i).1 = ((encBinds (B i).1).drop 0).take (B i).1.length := by rw [List.drop_zero, hsz, List.take_length]
                          refine awp_exit (awp_seq (awp_rg mixed ?_))
                          refine ak 3 [] rfl ?_
                          refine kc ihB ?_
                          refine ak 3 [] rfl ?_
                          refine az ?_
                          refine awp_seq (ag [] rfl ?_)
                          refine AWp.sub (Sub.freeze (id := 800) rfl) (AWp.sub (Sub.freeze (id := 143) rfl) (awp_ret ?_))
                          exact ⟨.inr rfl, ⟨_, _, .cell rfl (tg rfl) rfl rfl rfl .nil, .cons (by (first | apply Go.AM.Conv.pa | apply Go.AM.Conv.agg); repeat (first | exact .nil | apply Go.AM.PureL.c .refl | apply Go.AM.PureL.c .nl | (apply Go.AM.PureL.hs; rfl; (first | rfl | assumption | simp); (first | exact hE | rfl)))) .nil, rfl⟩, ⟨⟨_, rfl, .var rfl⟩, trivial⟩, rfl⟩
                      · have h10 : ¬ k = 10 := by simpa using hb10
                        refine awp_seq (ag [] rfl ?_)
                        refine awp_cond rfl (fun hb11 => ?_) (fun hb11 => ?_)
                        · have h11 : k = 11 := by simpa using hb11
                          obtain ⟨hf0, hl0⟩ := hkf (by omega)
                          have ho := hg hf0
                          have hu : use f = 1 + 4 * use (f - 1) := by cases f with | zero => omega | succ f => rfl
                          have ht := typR_suf 2 l1
                          have iht := ih hf0 (typR 2 l1).2 (left - 1) (hl1.suf ht) (hf1.suf ht) (by omega) (by omega)
                          have hty := c_typ (left - 1) 2 l1 1 hl1 hf1 (by omega) (by omega)
                          have hr : coreK (gOf f) n k l1 (left - 1) = (.mk 9 0 [] (typR 2 l1).1 [(gOf f (typR 2 l1).2 (left - 1)).1] [] (altsTo (gOf f) n (gOf f (typR 2 l1).2 (left - 1)).2.1 (gOf f (typR 2 l1).2 (left - 1)).2.2 (n / 14 % 4).toNat).1, (altsTo (gOf f) n (gOf f (typR 2 l1).2 (left - 1)).2.1 (gOf f (typR 2 l1).2 (left - 1)).2.2 (n / 14 % 4).toNat).2) := by
                            unfold coreK
                            rw [if_neg c1, if_neg h2, if_neg h3, if_neg c2, if_neg c3, if_neg h8, if_neg h9, if_neg h10, if_pos h11]
                          rw [hr]
                          refine awp_seq (awp_rg mixed ?_)
                          refine ak 1 [] rfl ?_
                          refine kc hty ?_
                          refine ak 3 [] rfl ?_
                          refine az ?_
                          refine awp_seq (awp_rg mixed ?_)
                          refine ak 3 [] rfl ?_
                          refine kc iht ?_
                          refine ak 3 [] rfl ?_
                          refine az ?_
                          have g1 := (ho.suf (typR 2 l1).2 (left - 1)).trans ht
                          have g2 := ho.le (typR 2 l1).2 (left - 1)
                          have g3 := ho.ge (typR 2 l1).2 (left - 1)
                          have hl2 := hl1.suf g1
                          have hf2 := hf1.suf g1
                          generalize gOf f (typR 2 l1).2 (left - 1) = c at g2 g3 hl2 hf2 ⊢
                          generalize (typR 2 l1).1 = t
                          refine awp_seq (awp_seq (ag [] rfl ?_))
                          refine AWp.sub (Sub.freeze (id := 155) rfl) (AWp.sub (Sub.ownCell (x := 14) (k := 9) (id := 900) 69 14 rfl rfl rfl) ?_)
                          have hA := altsTo_ok ho n c.2.1 c.2.2
                          generalize hAd : altsTo (gOf f) n c.2.1 c.2.2 = A at hA ⊢
                          refine awp_block (awp_loop (fun i : Nat => mk [(0, .one (.vp 700 0)), (1, I .i64 dp), (4, .one (.vp 4 0)), (5, I .i64 n), (14, .one (.vp 14 0)), (15, I .i64 i)] ((4, .var 38 [.c (.int .i64 0), .c (.int .i64 0), .c (.str []), .c (.int .i64 0), .c (.int .i64 0), .c (.str []), .c .nl, .c .nl, .c .nl, .c .nl]) :: (14, .var 38 [.c (.int .i64 9), .c (.int .i64 0), .c (.str []), .c (.int .i64 t.form), .c (.int .i64 t.n), .c (.str t.name), .c (.sl 4 (encArgs t)), .hs 155 0 1 1, .c .nl, .hs 900 0 (A i).1.length (A i).1.length]) :: (155, .arr 38 10 [encCore c.1] 2) :: (900, .arr 69 14 (encAlts (A i).1) 0) :: mkO (A i).2.1 (A i).2.2)) (fun i => (i : Int) ≤ n / 14 % 4) (fun i => 4 - i) 0 (by simp; omega) (by rw [← hAd]; exact .list (fun i => i) ⟨rfl, rfl, rfl, rfl, rfl, rfl, trivial⟩ ⟨⟨_, rfl, .var rfl⟩, ⟨_, rfl, .var rfl⟩, ⟨_, rfl, .arr⟩, ⟨_, rfl, .arr⟩, ⟨_, rfl, .var rfl⟩, trivial⟩ rfl) ?_)
                          intro i hi
                          obtain ⟨b1, b2, b3, b4⟩ := hA i
                          have hsz : (A i).1.length = (encAlts (A i).1).length := by rw [encAlts_map, List.length_map]
                          have hbl : (encAlts (A i).1).length ≤ 3 := by omega
                          have hm : (i : Int) * (use (f - 1) : Int) ≤ 3 * (use (f - 1) : Int) := Int.mul_le_mul_of_nonneg_right (by omega) (by omega)
                          have hlA := hl2.suf b1
                          have hfA := hf2.suf b1
                          refine awp_seq (awp_seq (ag [] rfl ?_))
                          refine awp_cond rfl (fun hb => ?_) (fun hb => ?_)
                          · refine awp_skip ?_
                            have hlt : (i : Int) < n / 14 % 4 := by simpa using hb
                            have hm2 : (i : Int) * (use (f - 1) : Int) ≤ 2 * (use (f - 1) : Int) := Int.mul_le_mul_of_nonneg_right (by omega) (by omega)
                            have hnames := c_names (A i).2.2 (A i).2.1 hlA hfA
                            have hnS := namesR_suf (A i).2.1
                            have ihA := ih hf0 (namesR (A i).2.1).2 (A i).2.2 (hlA.suf hnS) (hfA.suf hnS) (by omega) (by omega)
                            have hi3 : i = 0 ∨ i = 1 ∨ i = 2 := by omega
                            rcases hi3 with rfl | rfl | rfl
                            · -- 0
                              have he : A (0 + 1) = ((A 0).1 ++ [.mk 1 0 (oneOf conL (n / 14 + ((0 : Nat) : Int))) (namesR (A 0).2.1).1 (gOf f (namesR (A 0).2.1).2 (A 0).2.2).1], (gOf f (namesR (A 0).2.1).2 (A 0).2.2).2) := by
                                rw [← hAd, altsTo]
                                rfl
                              refine awp_seq (awp_block (awp_seq (awp_rg mixed ?_)))
                              refine ak 4 [] rfl ?_
                              refine kc (c_con (n / 14 + ((0 : Nat) : Int)) (by unfold i64; omega)) ?_
                              refine ak 1 [] rfl ?_
                              refine kc hnames ?_
                              refine ak 3 [] rfl ?_
                              refine az ?_
                              refine awp_seq (awp_seq (ag [] rfl ?_))
                              refine awp_cond rfl (fun hb => by simp at hb) (fun _ => ?_)
                              refine awp_skip ?_
                              refine awp_seq (awp_seq (ag [] rfl ?_))
                              refine awp_cond rfl (fun hb => by simp at hb) (fun _ => ?_)
                              refine awp_skip ?_
                              refine awp_seq (awp_rg mixed ?_)
                              refine ak 3 [] rfl ?_
                              refine kc ihA ?_
                              refine ak 2 [] rfl ?_
                              refine az ?_
                              refine ag [] rfl ?_
                              refine ag [] rfl ?_
                              refine ⟨0 + 1, by omega, by dsimp only; omega, ?_⟩
                              dsimp only
                              rw [he]
                              exact .list (fun i => i) ⟨rfl, rfl, rfl, rfl, rfl, rfl, trivial⟩ ⟨⟨_, rfl, .var rfl⟩, ⟨_, rfl, .var (by simp [R.renL, R.ren, encAlts_map])⟩, ⟨_, rfl, .arr⟩, ⟨_, rfl, by rw [encAlts_map ((A 0).1 ++ _), List.map_append, ← encAlts_map]; exact .arr⟩, ⟨_, rfl, .var rfl⟩, trivial⟩ rfl
                            · -- 1
                              have he : A (1 + 1) = ((A 1).1 ++ [.mk 2 (n / 14) [] [] (gOf f (namesR (A 1).2.1).2 (A 1).2.2).1], (gOf f (namesR (A 1).2.1).2 (A 1).2.2).2) := by
                                rw [← hAd, altsTo]
                                rfl
                              refine awp_seq (awp_block (awp_seq (awp_rg mixed ?_)))
                              refine ak 4 [] rfl ?_
                              refine kc (c_con (n / 14 + ((1 : Nat) : Int)) (by unfold i64; omega)) ?_
                              refine ak 1 [] rfl ?_
                              refine kc hnames ?_
                              refine ak 3 [] rfl ?_
                              refine az ?_
                              refine awp_seq (awp_seq (ag [] rfl ?_))
                              refine awp_cond rfl (fun _ => ?_) (fun hb => by simp at hb)
                              refine ag [] rfl ?_
                              refine awp_seq (awp_seq (ag [] rfl ?_))
                              refine awp_cond rfl (fun hb => by simp at hb) (fun _ => ?_)
                              refine awp_skip ?_
                              refine awp_seq (awp_rg mixed ?_)
                              refine ak 3 [] rfl ?_
                              refine kc ihA ?_
                              refine ak 2 [] rfl ?_
                              refine az ?_
                              refine ag [] rfl ?_
                              refine ag [] rfl ?_
                              refine ⟨1 + 1, by omega, by dsimp only; omega, ?_⟩
                              dsimp only
                              rw [he]
                              exact .list (fun i => i) ⟨rfl, rfl, rfl, rfl, rfl, rfl, trivial⟩ ⟨⟨_, rfl, .var rfl⟩, ⟨_, rfl, .var (by simp [R.renL, R.ren, encAlts_map])⟩, ⟨_, rfl, .arr⟩, ⟨_, rfl, by rw [encAlts_map ((A 1).1 ++ _), List.map_append, ← encAlts_map]; exact .arr⟩, ⟨_, rfl, .var rfl⟩, trivial⟩ rfl
                            · -- 2
                              have he : A (2 + 1) = ((A 2).1 ++ [.mk 3 0 [] [] (gOf f (namesR (A 2).2.1).2 (A 2).2.2).1], (gOf f (namesR (A 2).2.1).2 (A 2).2.2).2) := by
                                rw [← hAd, altsTo]
                                rfl
                              refine awp_seq (awp_block (awp_seq (awp_rg mixed ?_)))
                              refine ak 4 [] rfl ?_
                              refine kc (c_con (n / 14 + ((2 : Nat) : Int)) (by unfold i64; omega)) ?_
                              refine ak 1 [] rfl ?_
                              refine kc hnames ?_
                              refine ak 3 [] rfl ?_
                              refine az ?_
                              refine awp_seq (awp_seq (ag [] rfl ?_))
                              refine awp_cond rfl (fun hb => by simp at hb) (fun _ => ?_)
                              refine awp_skip ?_
                              refine awp_seq (awp_seq (ag [] rfl ?_))
                              refine awp_cond rfl (fun _ => ?_) (fun hb => by simp at hb)
                              refine ag [] rfl ?_
                              refine awp_seq (awp_rg mixed ?_)
                              refine ak 3 [] rfl ?_
                              refine kc ihA ?_
                              refine ak 2 [] rfl ?_
                              refine az ?_
                              refine ag [] rfl ?_
                              refine ag [] rfl ?_
                              refine ⟨2 + 1, by omega, by dsimp only; omega, ?_⟩
                              dsimp only
                              rw [he]
                              exact .list (fun i => i) ⟨rfl, rfl, rfl, rfl, rfl, rfl, trivial⟩ ⟨⟨_, rfl, .var rfl⟩, ⟨_, rfl, .var (by simp [R.renL, R.ren, encAlts_map])⟩, ⟨_, rfl, .arr⟩, ⟨_, rfl, by rw [encAlts_map ((A 2).1 ++ _), List.map_append, ← encAlts_map]; exact .arr⟩, ⟨_, rfl, .var rfl⟩, trivial⟩ rfl
                          · have hie : (n / 14 % 4).toNat = i := by
                              have : ¬ (i : Int) < n / 14 % 4 := by simpa using hb
                              omega
                            rw [hie]
                            have hE : encAlts (A i).1 = ((encAlts (A i).1).drop 0).take (A i).1.length := by rw [List.drop_zero, hsz, List.take_length]
                            refine awp_exit (awp_seq (ag [] rfl ?_))
                            refine AWp.sub (Sub.freeze (id := 900) rfl) (awp_ret ?_)
                            exact ⟨.inr rfl, ⟨_, _, .cell rfl (tg rfl) rfl rfl rfl .nil, .cons (by (first | apply Go.AM.Conv.pa | apply Go.AM.Conv.agg); repeat (first | exact .nil | apply Go.AM.PureL.c .refl | apply Go.AM.PureL.c .nl | (apply Go.AM.PureL.hs; rfl; (first | rfl | assumption | simp); (first | exact hE | rfl)))) .nil, rfl⟩, ⟨⟨_, rfl, .var rfl⟩, trivial⟩, rfl⟩
                        · have h11 : ¬ k = 11 := by simpa using hb11
                          refine awp_seq (ag [] rfl ?_)
                          refine awp_cond rfl (fun hb12 => ?_) (fun hb12 => ?_)
                          · have h12 : k = 12 := by simpa using hb12
                            obtain ⟨hf0, hl0⟩ := hkf (by omega)
                            have ho := hg hf0
                            have hu : use f = 1 + 4 * use (f - 1) := by cases f with | zero => omega | succ f => rfl
                            have g1 := ho.suf l1 (left - 1)
                            have g2 := ho.le l1 (left - 1)
                            have g3 := ho.ge l1 (left - 1)
                            have ih1 := ih hf0 l1 (left - 1) hl1 hf1 (by omega) (by omega)
                            have ih2 := ih hf0 (gOf f l1 (left - 1)).2.1 (gOf f l1 (left - 1)).2.2 (hl1.suf g1) (hf1.suf g1) (by omega) (by omega)
                            have hr : coreK (gOf f) n k l1 (left - 1) = (.mk 10 0 (oneOf primL (n / 14)) zTy [(gOf f l1 (left - 1)).1, (gOf f (gOf f l1 (left - 1)).2.1 (gOf f l1 (left - 1)).2.2).1] [] [], (gOf f (gOf f l1 (left - 1)).2.1 (gOf f l1 (left - 1)).2.2).2) := by
                              unfold coreK
                              rw [if_neg c1, if_neg h2, if_neg h3, if_neg c2, if_neg c3, if_neg h8, if_neg h9, if_neg h10, if_neg h11, if_pos h12]
                            rw [hr]
                            refine awp_seq (awp_rg mixed ?_)
                            refine ak 3 [] rfl ?_
                            refine kc ih1 ?_
                            refine ak 2 [] rfl ?_
                            refine az ?_
                            refine awp_seq (awp_rg mixed ?_)
                            refine ak 2 [] rfl ?_
                            refine kc (c_prim (n / 14) (by unfold i64; omega)) ?_
                            refine ak 4 [] rfl ?_
                            refine kc ih2 ?_
                            refine ak 3 [] rfl ?_
                            refine az ?_
                            refine AWp.sub (Sub.freeze (id := 206) rfl) (awp_ret ?_)
                            exact ⟨.inr rfl, ⟨_, _, .cell rfl (tg rfl) rfl rfl rfl .nil, .cons (by (first | apply Go.AM.Conv.pa | apply Go.AM.Conv.agg); repeat (first | exact .nil | apply Go.AM.PureL.c .refl | apply Go.AM.PureL.c .nl | (apply Go.AM.PureL.hs; rfl; (first | rfl | simp); (first | rfl | exact Go.AM.take_map.symm)))) .nil, rfl⟩, ⟨⟨_, rfl, .var rfl⟩, trivial⟩, rfl⟩
                          · have h12 : ¬ k = 12 := by simpa using hb12
                            have hty := c_typ (left - 1) 2 l1 1 hl1 hf1 (by omega) (by omega)
                            have hr : coreK (gOf f) n k l1 (left - 1) = (.mk 11 0 [] (typR 2 l1).1 [] [] [], (typR 2 l1).2, left - 1) := by
                              unfold coreK
                              rw [if_neg c1, if_neg h2, if_neg h3, if_neg c2, if_neg c3, if_neg h8, if_neg h9, if_neg h10, if_neg h11, if_neg h12]
                            rw [hr]
                            refine awp_skip (awp_seq (awp_rg mixed ?_))
                            refine ak 1 [] rfl ?_
                            refine kc hty ?_
                            refine ak 2 [] rfl ?_
                            refine az ?_
                            refine awp_ret ?_
                            exact ⟨.inr rfl, ⟨_, _, .cell rfl (tg rfl) rfl rfl rfl .nil, .cons (by (first | apply Go.AM.Conv.pa | apply Go.AM.Conv.agg); repeat (first | exact .nil | apply Go.AM.PureL.c .refl | apply Go.AM.PureL.c .nl | (apply Go.AM.PureL.hs; rfl; (first | rfl | simp); (first | rfl | exact Go.AM.take_map.symm)))) .nil, rfl⟩, ⟨⟨_, rfl, .var rfl⟩, trivial⟩, rfl⟩
end Go.Proofs.YtojcjjjpniimiaaDoor

/- CORE, made of numbers: the contracts. -/
namespace Go.Proofs.YtojcjjjpniimiaaDoor
open Go Go.AM
set_option maxRecDepth 20000

theorem c_core : ∀ f : Nat, f ≤ 6 → MkSpec (coreR f) (6 - (f : Int)) (use f)
  | 0, _ => c_core_step 0 _ (by omega) (by omega) (fun h => by omega) (fun h => by omega)
  | f + 1, hf => by
    refine c_core_step (f + 1) _ (by omega) (by omega) (fun _ => ?_) (fun _ => coreR_ok f)
    have := c_core f (by omega)
    rwa [show (6 : Int) - ((f + 1 : Nat) : Int) + 1 = 6 - (f : Int) by omega]

theorem c_ints (l : List Int) (k : Nat) (hf : Fits l) (hk : k ≤ 1000) : ImpC Tryd.prog 37 [.one (.c (.sl 1 (l.map encI))), I .i64 k] [] (.one (.c (.sl 1 ((l.take k).map encI)))) [] := by
  unfold Fits at hf
  refine impC (n := 14) tok Tryd.func37 rfl rfl rfl ?_
  refine awp_seq (ag [] rfl ?_)
  refine awp_seq (ag [] rfl ?_)
  refine awp_seq (awp_rg mixed ?_)
  refine ak 6 [] rfl ?_
  have hm : (if (k : Int) < (((l.map encI).length : Nat) : Int) then (k : Int) else (((l.map encI).length : Nat) : Int)) = ((min l.length k : Nat) : Int) := by
    rw [List.length_map]
    split <;> omega
  rw [hm]
  have ht : (l.map encI).take (min l.length k) = (l.take k).map encI := by
    rw [← List.map_take]
    congr 1
    by_cases h : k ≤ l.length
    · rw [Nat.min_eq_right h]
    · rw [Nat.min_eq_left (by omega), List.take_of_length_le (Nat.le_refl _), List.take_of_length_le (by omega)]
  have hl : ((l.map encI).take (min l.length k)).length ≤ 1000 := by rw [List.length_take]; omega
  refine akN 3 [] rfl ?_ (hc := ⟨by omega, by rw [List.length_map]; omega, by omega, trivial⟩)
  refine az ?_
  refine AWp.sub (Sub.freeze (id := 13) rfl) (awp_ret ?_)
  rw [← ht]
  exact ⟨.inr rfl, ⟨_, _, .tmp rfl .nil, .cons (.one (.hs rfl rfl (by rw [List.drop_zero, List.take_length]) .nil)) .nil, rfl⟩, trivial, rfl⟩

/-- Core, made of numbers. -/
def madeR (l : List Int) : Core := (coreR 6 (l.take 60) 30).1
theorem c_made (l : List Int) (hl : Nums l) (hf : Fits l) : ImpC Tryd.prog 13 [.one (.c (.sl 1 (l.map encI)))] [] (.pa (encCore (madeR l))) [] := by
  have hl' : Nums (l.take 60) := fun x hx => hl x (List.mem_of_mem_take hx)
  have hf' : Fits (l.take 60) := by
    unfold Fits at *
    rw [List.length_take]
    omega
  have hc := c_core 6 (by omega) (l.take 60) 30 hl' hf' (by decide) (by decide)
  refine impC (n := 10) tok Tryd.func13 rfl rfl rfl ?_
  refine awp_seq (ag [] rfl ?_)
  refine awp_seq (awp_rg mixed ?_)
  refine ak 1 [] rfl ?_
  refine kc (c_ints l 60 hf (by omega)) ?_
  refine ak 3 [(3, .id 700)] rfl ?_
  refine az ?_
  refine awp_seq (awp_rg mixed ?_)
  refine ak 1 [] rfl ?_
  refine kc hc ?_
  refine ak 1 [] rfl ?_
  refine az ?_
  refine awp_ret ?_
  exact ⟨.inr rfl, ⟨_, _, .cell rfl (tg rfl) rfl rfl rfl .nil, .cons .refl .nil, rfl⟩, trivial, rfl⟩
end Go.Proofs.YtojcjjjpniimiaaDoor

/- CORE WITHOUT TYPES (the reference's Erase). -/
namespace Go.Proofs.YtojcjjjpniimiaaDoor
open Go Go.AM
set_option maxRecDepth 20000

def zCore : Core := .mk 0 0 [] zTy [] [] []
mutual
def eraseR : Core → Core
  | .mk f n s _ ks bs al => if (f = 6 ∨ f = 7) ∧ 1 ≤ ks.length then (eraseCs ks).headD (.mk 0 0 [] zTy [] [] []) else .mk f n s zTy (eraseCs ks) (eraseBs bs) (eraseAs al)
def eraseCs : List Core → List Core
  | [] => []
  | c :: l => eraseR c :: eraseCs l
def eraseB : Bind → Bind
  | .mk s _ c => .mk s zTy (eraseR c)
def eraseBs : List Bind → List Bind
  | [] => []
  | b :: l => eraseB b :: eraseBs l
def eraseA : Alt → Alt
  | .mk f n s vs c => .mk f n s vs (eraseR c)
def eraseAs : List Alt → List Alt
  | [] => []
  | a :: l => eraseA a :: eraseAs l
end
theorem eraseCs_map : ∀ l : List Core, eraseCs l = l.map eraseR
  | [] => by simp [eraseCs]
  | c :: l => by rw [eraseCs, eraseCs_map l]; rfl
theorem eraseBs_map : ∀ l : List Bind, eraseBs l = l.map eraseB
  | [] => by simp [eraseBs]
  | c :: l => by rw [eraseBs, eraseBs_map l]; rfl
theorem eraseAs_map : ∀ l : List Alt, eraseAs l = l.map eraseA
  | [] => by simp [eraseAs]
  | c :: l => by rw [eraseAs, eraseAs_map l]; rfl

/-! ### How great core is: nodes, names and all -/
mutual
def csize : Core → Nat
  | .mk _ _ s _ ks bs al => 1 + s.length + csizes ks + bsizes bs + asizes al
def csizes : List Core → Nat
  | [] => 0
  | c :: l => csize c + csizes l
def bsize : Bind → Nat
  | .mk s _ c => 1 + s.length + csize c
def bsizes : List Bind → Nat
  | [] => 0
  | b :: l => bsize b + bsizes l
def asize : Alt → Nat
  | .mk _ _ s vs c => 1 + s.length + (vs.map (fun v => 1 + v.length)).sum + csize c
def asizes : List Alt → Nat
  | [] => 0
  | a :: l => asize a + asizes l
end
theorem csize_pos (c : Core) : 1 ≤ csize c := by cases c; rw [csize]; omega
theorem csizes_len : ∀ l : List Core, l.length ≤ csizes l
  | [] => Nat.zero_le _
  | c :: l => by rw [csizes, List.length_cons]; have := csizes_len l; have := csize_pos c; omega
theorem csizes_mem : ∀ {l : List Core} {c : Core}, c ∈ l → csize c ≤ csizes l
  | d :: l, c, h => by
    rw [csizes]
    rcases List.mem_cons.1 h with rfl | h
    · omega
    · have := csizes_mem h; omega
theorem bsizes_len : ∀ l : List Bind, l.length ≤ bsizes l
  | [] => Nat.zero_le _
  | .mk s t c :: l => by rw [bsizes, bsize, List.length_cons]; have := bsizes_len l; omega
theorem bsizes_mem : ∀ {l : List Bind} {c : Bind}, c ∈ l → bsize c ≤ bsizes l
  | d :: l, c, h => by
    rw [bsizes]
    rcases List.mem_cons.1 h with rfl | h
    · omega
    · have := bsizes_mem h; omega
theorem asizes_len : ∀ l : List Alt, l.length ≤ asizes l
  | [] => Nat.zero_le _
  | .mk f n s vs c :: l => by rw [asizes, asize, List.length_cons]; have := asizes_len l; omega
theorem asizes_mem : ∀ {l : List Alt} {c : Alt}, c ∈ l → asize c ≤ asizes l
  | d :: l, c, h => by
    rw [asizes]
    rcases List.mem_cons.1 h with rfl | h
    · omega
    · have := asizes_mem h; omega
end Go.Proofs.YtojcjjjpniimiaaDoor

/- THE REFERENCE's Erase: the walk. -/
namespace Go.Proofs.YtojcjjjpniimiaaDoor
open Go Go.AM
set_option maxRecDepth 20000

def EraseSpec (c : Core) : Prop := ImpC Tryd.prog 12 [.pa (encCore c)] [] (.pa (encCore (eraseR c))) []
theorem encBinds_at {l : List Bind} {k : Nat} {x : Bind} (h : l[k]? = some x) : (encBinds l)[k]? = some (encBind x) := by rw [encBinds_map]; exact getEnc encBind h
theorem encCores_at {l : List Core} {k : Nat} {x : Core} (h : l[k]? = some x) : (encCores l)[k]? = some (encCore x) := by rw [encCores_map]; exact getEnc encCore h
theorem encAlts_at {l : List Alt} {k : Nat} {x : Alt} (h : l[k]? = some x) : (encAlts l)[k]? = some (encAlt x) := by rw [encAlts_map]; exact getEnc encAlt h
theorem take_step {α : Type} {l : List α} {k : Nat} {x : α} (h : l[k]? = some x) : l.take (k + 1) = l.take k ++ [x] := by rw [List.take_add_one, h]; rfl

theorem c_ebinds (l : List Bind) (hl : l.length ≤ 1000000) (ih : ∀ b ∈ l, EraseSpec b.body) : ImpC Tryd.prog 36 [.one (.c (.sl 15 (encBinds l)))] [] (.one (.c (.sl 15 (encBinds (eraseBs l))))) [] := by
  refine impC (n := 27) tok Tryd.func36 rfl rfl rfl ?_
  refine awp_seq (ag [] rfl ?_)
  refine awp_seq (ag [] rfl ?_)
  refine awp_seq (awp_seq (ag [] rfl ?_))
  have hle : (encBinds l).length = l.length := by rw [encBinds_map, List.length_map]
  refine AWp.sub (Sub.own (t := 3) (id := 500) 46 15 rfl rfl) ?_
  refine awp_block (awp_loop (fun i : Nat => mk [(0, .one (.c (.sl 15 (encBinds l)))), (3, .one (.hs 500 0 ((l.take i).map eraseB).length ((l.take i).map eraseB).length)), (4, I .i64 i)] [(500, .arr 46 15 (encBinds ((l.take i).map eraseB)) 0)]) (fun i => i ≤ l.length) (fun i => l.length - i) 0 (Nat.zero_le _) (.list (fun i => i) ⟨rfl, rfl, rfl, trivial⟩ ⟨⟨_, rfl, .arr⟩, trivial⟩ rfl) ?_)
  intro i hi
  have hsz : ((l.take i).map eraseB).length = (encBinds ((l.take i).map eraseB)).length := by rw [encBinds_map]; simp
  have hbl : (encBinds ((l.take i).map eraseB)).length ≤ 1000000 := by rw [← hsz, List.length_map, List.length_take]; omega
  refine awp_seq (awp_seq (ag [] rfl ?_))
  refine awp_cond rfl (fun hb => ?_) (fun hb => ?_)
  · refine awp_skip ?_
    have hlt : i < l.length := by rw [← hle]; simpa using hb
    obtain ⟨b, hbi⟩ := get_of_lt hlt
    have hbi' := encBinds_at hbi
    have he : (l.take (i + 1)).map eraseB = (l.take i).map eraseB ++ [eraseB b] := by rw [take_step hbi, List.map_append]; rfl
    refine awp_seq (awp_block (awp_rg mixed ?_))
    refine ak 11 [(3, .row i (encBind b)), (8, .row i (encBind b))] rfl ?_
    refine kc (ih b (List.mem_of_getElem? hbi)) ?_
    refine ak 4 [] rfl ?_
    refine az ?_
    refine ag [] rfl ?_
    refine ⟨i + 1, hlt, by dsimp only; omega, ?_⟩
    dsimp only
    rw [he]
    obtain ⟨s, t, c⟩ := b
    refine .list (fun i => i) ⟨rfl, ?_, rfl, trivial⟩ ⟨⟨_, rfl, by rw [encBinds_map ((l.take i).map eraseB ++ _), List.map_append, ← encBinds_map]; exact .arr⟩, trivial⟩ rfl
    show some (V.one (R.hs 500 0 _ _)) = some (V.one (R.hs 500 0 _ _))
    rw [List.length_append, ← hsz]
    rfl
  · have hge : i = l.length := by
      have : ¬ i < l.length := by rw [← hle]; simpa using hb
      omega
    have hE : encBinds ((l.take i).map eraseB) = ((encBinds ((l.take i).map eraseB)).drop 0).take ((l.take i).map eraseB).length := by rw [List.drop_zero, hsz, List.take_length]
    refine awp_exit (awp_seq (ag [] rfl ?_))
    refine AWp.sub (Sub.freeze (id := 500) rfl) (awp_ret ?_)
    have hr : eraseBs l = (l.take i).map eraseB := by rw [hge, List.take_length, eraseBs_map]
    rw [hr]
    exact ⟨.inr rfl, ⟨_, _, .tmp rfl .nil, .cons (.one (.hs rfl hsz hE .nil)) .nil, rfl⟩, trivial, rfl⟩
end Go.Proofs.YtojcjjjpniimiaaDoor

/- THE REFERENCE's Erase: the walk (2). -/
namespace Go.Proofs.YtojcjjjpniimiaaDoor
open Go Go.AM
set_option maxRecDepth 20000

/-- The cells of no core. -/
def zCells : List R := [.c (.int .i64 0), .c (.int .i64 0), .c (.str []), .c (.int .i64 0), .c (.int .i64 0), .c (.str []), .c .nl, .c .nl, .c .nl, .c .nl]
/-- The cells of core, as an object has them. -/
def cellsC (c : Core) : List R := (encCore c).map R.c
theorem size_in {f n : Int} {s : Str} {t : Ty} {ks : List Core} {bs : List Bind} {al : List Alt} : (∀ x ∈ ks, csize x < csize (.mk f n s t ks bs al)) ∧ (∀ x ∈ bs, csize x.body < csize (.mk f n s t ks bs al)) ∧ (∀ x ∈ al, csize x.body < csize (.mk f n s t ks bs al)) ∧
    ks.length < csize (.mk f n s t ks bs al) ∧ bs.length < csize (.mk f n s t ks bs al) ∧ al.length < csize (.mk f n s t ks bs al) := by
  rw [csize]
  have hkl := csizes_len ks
  have hbl := bsizes_len bs
  have hal := asizes_len al
  refine ⟨fun x hx => ?_, fun x hx => ?_, fun x hx => ?_, by omega, by omega, by omega⟩
  · have := csizes_mem hx; omega
  · have := bsizes_mem hx
    obtain ⟨s', t', c'⟩ := x
    rw [bsize] at this
    show csize c' < _
    omega
  · have := asizes_mem hx
    obtain ⟨f', n', s', v', c'⟩ := x
    rw [asize] at this
    show csize c' < _
    omega
theorem take_map1 {α β : Type} (f : α → β) {l : List α} {i : Nat} {x : α} (h : l[i]? = some x) : (l.take i).map f ++ [f x] = (l.take (i + 1)).map f := by rw [take_step h, List.map_append]; rfl

theorem few_one {c : Core} (h : c.form = 6 ∨ c.form = 7) : few c = decide (c.kids.length = 0) := by
  unfold few
  rw [if_neg (by omega)]
  have : decide (c.form = 5 ∨ c.form = 6 ∨ c.form = 7 ∨ c.form = 8 ∨ c.form = 9) = true := by
    rw [decide_eq_true_eq]; omega
  rw [this, Bool.true_and]
  congr 1
  rw [eq_iff_iff]
  omega
theorem c_erase_step (c : Core) (hc : csize c ≤ 1000000) (ih : ∀ x, csize x < csize c → EraseSpec x) : EraseSpec c := by
  have hfew := c_few c
  obtain ⟨f, n, s, t, ks, bs, al⟩ := c
  obtain ⟨ihk, ihb, iha, hkl, hbl, hal⟩ := @size_in f n s t ks bs al
  have hB := c_ebinds bs (by omega) fun b hb => ih _ (ihb b hb)
  refine impC (n := 77) tok Tryd.func12 rfl rfl rfl ?_
  refine awp_seq (ag [] rfl ?_)
  refine awp_seq (awp_seq (agF 4 [(10, .pc (B (few (.mk f n s t ks bs al))))] rfl rfl rfl ?_))
  refine awp_cond rfl (fun hb => ?_) (fun hb => ?_)
  · have hcond : (f = 6 ∨ f = 7) ∧ 1 ≤ ks.length := by
      by_cases h6 : f = 6 ∨ f = 7
      · refine ⟨h6, ?_⟩
        rw [few_one (c := .mk f n s t ks bs al) h6] at hb
        rcases h6 with rfl | rfl <;> simp [Core.form, Core.kids] at hb <;> exact List.length_pos_iff.2 hb
      · exfalso
        have : ¬ f = 6 ∧ ¬ f = 7 := by omega
        simp [Core.form, this.1, this.2] at hb
    cases ks with
    | nil => simp at hcond
    | cons k0 ks =>
      have hk := ih k0 (ihk k0 (by simp))
      have hr : eraseR (.mk f n s t (k0 :: ks) bs al) = eraseR k0 := by
        rw [eraseR, if_pos hcond, eraseCs]
        rfl
      rw [hr]
      refine awp_seq (ag [(2, .row 0 (encCore k0)), (4, .pc (.pa (encCore (eraseR k0))))] rfl ?_ (hc := ⟨⟨by kernel_rfl, hk⟩, rfl, rfl, trivial⟩))
      exact awp_ret (rtC trw)
  · have hcond : ¬ ((f = 6 ∨ f = 7) ∧ 1 ≤ ks.length) := by
      rintro ⟨h6, h1⟩
      rw [few_one (c := .mk f n s t ks bs al) h6] at hb
      rcases h6 with rfl | rfl <;> simp [Core.form, Core.kids] at hb <;> simp [hb] at h1
    rw [show eraseR (.mk f n s t ks bs al) = .mk f n s zTy (eraseCs ks) (eraseBs bs) (eraseAs al) by rw [eraseR, if_neg hcond]]
    refine awp_skip ?_
    refine awp_seq (ag [] rfl ?_)
    refine awp_seq (awp_seq (ag [] rfl ?_))
    refine AWp.sub (Sub.ownCell (x := 3) (k := 7) (id := 500) 38 10 rfl rfl rfl) ?_
    have hkE : (encCores ks).length = ks.length := by rw [encCores_map, List.length_map]
    refine awp_block ?_
    refine awp_loop (fun i : Nat => mk [(1, .one (.vp 1 0)), (2, .one (.vp 2 0)), (3, .one (.vp 3 0)), (4, I .i64 i)] [(1, .var 38 (cellsC (.mk f n s t ks bs al))), (2, .var 38 zCells), (3, .var 38 [.c (.int .i64 f), .c (.int .i64 n), .c (.str s), .c (.int .i64 0), .c (.int .i64 0), .c (.str []), .c .nl, .hs 500 0 i i, .c .nl, .c .nl]), (500, .arr 38 10 ((ks.take i).map fun x => encCore (eraseR x)) 0)]) (fun i => i ≤ ks.length) (fun i => ks.length - i) 0 (Nat.zero_le _) sl ?_
    intro i hi
    refine awp_seq (awp_seq (ag [] rfl ?_))
    refine awp_cond rfl (fun hb => ?_) (fun hb => ?_)
    · have hlt : i < ks.length := ltD hb hkE
      obtain ⟨k, hki⟩ := get_of_lt hlt
      have hki' := encCores_at hki
      have he := ih k (ihk k (List.mem_of_getElem? hki))
      refine awp_skip ?_
      refine awp_seq (awp_block ?_)
      refine ag [(5, .row i (encCore k)), (7, .pc (.pa (encCore (eraseR k))))] rfl ?_
      refine ag [] rfl ?_
      have hrows := take_map1 (fun x => encCore (eraseR x)) hki
      exact ⟨i + 1, hlt, by dsimp only; omega, sl⟩
    · have hge : i = ks.length := geD hb hkE hi
      subst hge
      have hKs : (ks.take ks.length).map (fun x => encCore (eraseR x)) = encCores (eraseCs ks) := by rw [List.take_length, encCores_map, eraseCs_map, List.map_map]; rfl
      rw [hKs]
      refine awp_exit ?_
      refine AWp.sub (Sub.freeze (id := 500) rfl) ?_
      refine awp_seq (ag [(2, .pc (.one (.c (.sl 15 (encBinds (eraseBs bs))))))] rfl ?_)
      refine awp_seq (awp_seq (ag [] rfl ?_))
      refine AWp.sub (Sub.ownCell (x := 3) (k := 9) (id := 501) 69 14 rfl rfl rfl) ?_
      have hkA : (encAlts al).length = al.length := by rw [encAlts_map, List.length_map]
      refine awp_block ?_
      refine awp_loop (fun i : Nat => mk [(1, .one (.vp 1 0)), (2, .one (.vp 2 0)), (3, .one (.vp 3 0)), (5, I .i64 i)] [(1, .var 38 (cellsC (.mk f n s t ks bs al))), (2, .var 38 zCells), (3, .var 38 [.c (.int .i64 f), .c (.int .i64 n), .c (.str s), .c (.int .i64 0), .c (.int .i64 0), .c (.str []), .c .nl, .hs 500 0 ks.length ks.length, .c (.sl 15 (encBinds (eraseBs bs))), .hs 501 0 i i]), (500, .arr 38 10 (encCores (eraseCs ks)) 2), (501, .arr 69 14 ((al.take i).map fun x => encAlt (eraseA x)) 0)]) (fun i => i ≤ al.length) (fun i => al.length - i) 0 (Nat.zero_le _) sl ?_
      intro j hj
      refine awp_seq (awp_seq (ag [] rfl ?_))
      refine awp_cond rfl (fun hb => ?_) (fun hb => ?_)
      · have hlt : j < al.length := ltD hb hkA
        obtain ⟨a, hai⟩ := get_of_lt hlt
        have hai' := encAlts_at hai
        have he := ih a.body (iha a (List.mem_of_getElem? hai))
        have hrows := take_map1 (fun x => encAlt (eraseA x)) hai
        obtain ⟨f', n', s', v', c'⟩ := a
        refine awp_skip ?_
        refine awp_seq (awp_block ?_)
        refine awp_seq (ag [(3, .row j (encAlt (.mk f' n' s' v' c')))] rfl ?_)
        refine awp_seq (ag [(2, .pc (.pa (encCore (eraseR c'))))] rfl ?_)
        refine ag [] rfl ?_
        refine ag [] rfl ?_
        exact ⟨j + 1, hlt, by dsimp only; omega, sl⟩
      · have hge := geD hb hkA hj
        subst hge
        have hAs : (al.take al.length).map (fun x => encAlt (eraseA x)) = encAlts (eraseAs al) := by rw [List.take_length, encAlts_map, eraseAs_map, List.map_map]; rfl
        rw [hAs]
        refine awp_exit ?_
        refine awp_seq (ag [] rfl ?_)
        refine AWp.sub (Sub.freeze (id := 501) rfl) ?_
        have h1 : ks.length = (encCores (eraseCs ks)).length := by rw [encCores_map, eraseCs_map, List.map_map, List.length_map]
        have h2 : al.length = (encAlts (eraseAs al)).length := by rw [encAlts_map, eraseAs_map, List.map_map, List.length_map]
        exact awp_ret (rtC trw)
theorem c_erase : ∀ (n : Nat) (c : Core), csize c ≤ n → csize c ≤ 1000000 → EraseSpec c
  | 0, c, h, _ => by have := csize_pos c; omega
  | n + 1, c, h, hm => c_erase_step c hm fun x hx => c_erase n x (by omega) (by omega)
end Go.Proofs.YtojcjjjpniimiaaDoor
