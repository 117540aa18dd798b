/-
  Texts Lt5, Lt6, Lt7 in one.
-/
import Derived.Test.YtojcjjjpniimiaaDoorM12
/- CORE OF A TYPE, made of numbers: a case of a type. -/
namespace Go.Proofs.YtojcjjjpniimiaaDoor
open Go Go.AM
set_option maxRecDepth 20000

/-- How many nodes there may be yet, at most. -/
def pos (left : Int) : Int := ((left - 1).toNat : Int)
def SomeSpec (F : Int) : Prop := ∀ (v : Gv) (t : Ty) (n : Nat) (l : List Int) (left : Int), Gok v → 7 ≤ v.deep + F → v.deep ≤ 8 → GT n t → (n : Int) ≤ 33 + 8 * v.deep → Ok l → left ≤ 100 → -1000 ≤ left - 3 * pos left →
  ∃ (c : Core) (l' : List Int) (left' : Int) (m : Nat), GC m c ∧ Ok l' ∧ (left' ≤ left ∧ left - 3 * pos left - 1 ≤ left' - 3 * pos left' ∧ (m : Int) + 4100 * pos left' ≤ 2000 + 4100 * pos left) ∧
    ImpC Tryd.prog 48 [.one (.vp 700 0), .pa (encV v), tyV t] (mO l left) (.pa (encCore c)) (mO l' left')

/-- A case. -/
theorem e_cases (F : Int) (hS : SomeSpec F) (v : Gv) (t : Ty) (n : Nat) (l : List Int) (left : Int) (hv : Gok v) (hF : 7 ≤ v.deep + 1 + F) (hd : v.deep ≤ 6) (hg : GT n t) (hn : (n : Int) ≤ 33 + 8 * v.deep) (hl : Ok l) (hle : left ≤ 100) (hlo : -1000 ≤ left - 3 * pos left - 2) :
    ∃ (c : Core) (l' : List Int) (left' : Int) (m : Nat), GC m c ∧ Ok l' ∧ (left' ≤ left ∧ left - 3 * pos left - 3 ≤ left' - 3 * pos left' ∧ (m : Int) + 4100 * pos left' ≤ 6050 + 4100 * pos left) ∧
      ImpC Tryd.prog 80 [.one (.vp 700 0), .pa (encV v), tyV t] (mO l left) (.pa (encCore c)) (mO l' left') := by
  have h0 := hv.d0
  have hlen := hv.len
  have hvlen := hv.vlen
  obtain ⟨tf, tn, ts, ta⟩ := t
  obtain ⟨i, l1, hi, hl1, cN⟩ := e_next l left 4 (by decide) hl
  have more : ∀ (v : Gv) (s : Str) (u : Ty) (k : Nat), Gok v → 0 ≤ v.deep → v.deep ≤ 8 → GT k u → k ≤ 100 → (s = [] ∨ s ∈ nm6) → Gok (moreV v s u) ∧ ImpC Tryd.prog 78 [.pa (encV v), Go.AM.T s, tyV u] [] (.pa (encV (moreV v s u))) [] := fun v s u k h h0 h8 hu hk hs => by
    have := h.len
    exact ⟨h.more hs hu hk, c_more19 v s u (by omega) ⟨h0, by omega⟩⟩
  obtain ⟨hv1, cM⟩ := more v [] (.mk tf tn ts ta) n hv h0 (by omega) hg (by omega) (.inl rfl)
  have hd1 : (moreV v [] (.mk tf tn ts ta)).deep = v.deep + 1 := rfl
  by_cases h1 : i = 0
  · subst h1
    obtain ⟨c1, l2, le2, m1, g1, hl2, ⟨b1, b1', b1''⟩, cS1⟩ := hS (moreV v [] (.mk tf tn ts ta)) tBool 1 l1 left hv1 (by omega) (by omega) (.con _ (by decide)) (by omega) hl1 hle (by omega)
    obtain ⟨c2, l3, le3, m2, g2, hl3, ⟨b2, b2', b2''⟩, cS2⟩ := hS (moreV v [] (.mk tf tn ts ta)) (.mk tf tn ts ta) n l2 le2 hv1 (by omega) (by omega) hg (by omega) hl2 (by omega) (by omega)
    obtain ⟨c3, l4, le4, m3, g3, hl4, ⟨b3, b3', b3''⟩, cS3⟩ := hS (moreV v [] (.mk tf tn ts ta)) (.mk tf tn ts ta) n l3 le3 hv1 (by omega) (by omega) hg (by omega) hl3 (by omega) (by omega)
    refine ⟨.mk 9 0 [] (.mk tf tn ts ta) [c1] [] [.mk 1 0 [84, 114, 117, 101] [] c2, .mk 1 0 [70, 97, 108, 115, 101] [] c3], l4, le4, m1 + m2 + m3 + 40, .case2 hg (by omega) g1 g2 g3 (by decide) (by decide) (by decide) (by simp) (by decide) (by decide) (by decide) (by decide) (by simp) (by decide), hl4, ⟨by omega, by omega, by omega⟩, ?_⟩
    refine impC (n := 152) tok Tryd.func80 rfl rfl rfl ?_
    refine awp_seq (ag [] rfl ?_)
    refine awp_seq (ag [] rfl ?_)
    refine awp_seq (awp_seq (awp_rg mixed ?_))
    refine ak 1 [] rfl ?_
    refine kc cN ?_
    refine az ?_
    refine awp_block (awp_seq (ag [] rfl ?_))
    refine awp_cond rfl (fun _ => ?_) (fun hb => by cases hb)
    refine awp_seq (awp_rg mixed ?_)
    refine ak 3 [] rfl ?_
    refine kc cM ?_
    refine kc (c_con19 [66, 111, 111, 108]) ?_
    refine kc cS1 ?_
    refine ak 3 [(6, .all)] rfl ?_
    refine az ?_
    refine awp_rg mixed ?_
    refine ak 3 [] rfl ?_
    refine kc cM ?_
    refine ak 1 [] rfl ?_
    refine kc cS2 ?_
    refine ak 4 [] rfl ?_
    refine kc cM ?_
    refine ak 1 [] rfl ?_
    refine kc cS3 ?_
    refine ak 4 [] rfl ?_
    refine az ?_
    refine AWp.sub (Sub.freeze (id := 76) rfl) ?_
    refine AWp.sub (aw 76 ([.mk 1 0 [84, 114, 117, 101] [] c2, .mk 1 0 [70, 97, 108, 115, 101] [] c3].map encAlt)) ?_
    refine AWp.sub (vp 7 (encCore (.mk 9 0 [] (.mk tf tn ts ta) [c1] [] [.mk 1 0 [84, 114, 117, 101] [] c2, .mk 1 0 [70, 97, 108, 115, 101] [] c3]))) ?_
    refine awp_seq (ag [] rfl ?_)
    exact awp_ret (rtC trw)
  by_cases h2 : i = 1
  · subst h2
    obtain ⟨c1, l2, le2, m1, g1, hl2, ⟨b1, b1', b1''⟩, cS1⟩ := hS (moreV v [] (.mk tf tn ts ta)) tInt 1 l1 left hv1 (by omega) (by omega) (.con _ (by decide)) (by omega) hl1 hle (by omega)
    obtain ⟨j, l2b, hj, hl2b, cJ⟩ := e_next l2 le2 5 (by decide) hl2
    obtain ⟨c2, l3, le3, m2, g2, hl3, ⟨b2, b2', b2''⟩, cS2⟩ := hS (moreV v [] (.mk tf tn ts ta)) (.mk tf tn ts ta) n l2b le2 hv1 (by omega) (by omega) hg (by omega) hl2b (by omega) (by omega)
    obtain ⟨c3, l4, le4, m3, g3, hl4, ⟨b3, b3', b3''⟩, cS3⟩ := hS (moreV v [] (.mk tf tn ts ta)) (.mk tf tn ts ta) n l3 le3 hv1 (by omega) (by omega) hg (by omega) hl3 (by omega) (by omega)
    refine ⟨.mk 9 0 [] (.mk tf tn ts ta) [c1] [] [.mk 2 ((j : Int) - 1) [] [] c2, .mk 3 0 [] [] c3], l4, le4, m1 + m2 + m3 + 40, .case2 hg (by omega) g1 g2 g3 (by decide) (by omega) (by decide) (by simp) (by decide) (by decide) (by decide) (by decide) (by simp) (by decide), hl4, ⟨by omega, by omega, by omega⟩, ?_⟩
    refine impC (n := 152) tok Tryd.func80 rfl rfl rfl ?_
    refine awp_seq (ag [] rfl ?_)
    refine awp_seq (ag [] rfl ?_)
    refine awp_seq (awp_seq (awp_rg mixed ?_))
    refine ak 1 [] rfl ?_
    refine kc cN ?_
    refine az ?_
    refine awp_block (awp_seq (ag [] rfl ?_))
    refine awp_cond rfl (fun hb => by cases hb) (fun _ => ?_)
    refine awp_seq (ag [] rfl ?_)
    refine awp_cond rfl (fun _ => ?_) (fun hb => by cases hb)
    refine awp_seq (awp_rg mixed ?_)
    refine ak 3 [] rfl ?_
    refine kc cM ?_
    refine kc (c_con19 [73, 110, 116]) ?_
    refine kc cS1 ?_
    refine ak 3 [(6, .all)] rfl ?_
    refine az ?_
    refine awp_rg mixed ?_
    refine ak 1 [] rfl ?_
    refine kc cJ ?_
    refine ak 4 [] rfl ?_ (hc := by repeat (first | exact trivial | refine ⟨by first | rfl | omega | (simp [Ty.form, Ty.name, Ty.n]; omega) | (simp; done), ?_⟩))
    refine kc cM ?_
    refine ak 1 [] rfl ?_
    refine kc cS2 ?_
    refine ak 4 [] rfl ?_
    refine kc cM ?_
    refine ak 1 [] rfl ?_
    refine kc cS3 ?_
    refine ak 4 [] rfl ?_
    refine az ?_
    refine AWp.sub (Sub.freeze (id := 105) rfl) ?_
    refine AWp.sub (aw 105 ([.mk 2 ((j : Int) - 1) [] [] c2, .mk 3 0 [] [] c3].map encAlt)) ?_
    refine AWp.sub (vp 7 (encCore (.mk 9 0 [] (.mk tf tn ts ta) [c1] [] [.mk 2 ((j : Int) - 1) [] [] c2, .mk 3 0 [] [] c3]))) ?_
    refine awp_seq (ag [] rfl ?_)
    exact awp_ret (rtC trw)
  by_cases h3 : i = 2
  · subst h3
    obtain ⟨⟨uf, un, us, ua⟩, l2, k, gu, hk, hl2, cU⟩ := e_typ v.vars hv.vars (by omega) 1 2 (by omega) (by omega) l1 left hl1
    have hk : k ≤ 5 := hk
    have gL : GT (1 + k + 1) (.mk 4 0 [] [.mk 3 0 [76] [], (.mk uf un us ua)]) := .app (.nm (by decide)) gu
    obtain ⟨c1, l3, le3, m1, g1, hl3, ⟨b1, b1', b1''⟩, cS1⟩ := hS (moreV v [] (.mk tf tn ts ta)) (.mk 4 0 [] [.mk 3 0 [76] [], (.mk uf un us ua)]) _ l2 left hv1 (by omega) (by omega) gL (by omega) hl2 hle (by omega)
    obtain ⟨hvx, cX⟩ := more v [120] (.mk uf un us ua) k hv h0 (by omega) gu (by omega) (.inr (by decide))
    obtain ⟨hvy, cY⟩ := more (moreV v [120] (.mk uf un us ua)) [121] (.mk 4 0 [] [.mk 3 0 [76] [], (.mk uf un us ua)]) _ hvx (by show 0 ≤ v.deep + 1; omega) (by show v.deep + 1 ≤ 8; omega) gL (by omega) (.inr (by decide))
    have hdy : (moreV (moreV v [120] (.mk uf un us ua)) [121] (.mk 4 0 [] [.mk 3 0 [76] [], (.mk uf un us ua)])).deep = v.deep + 1 + 1 := rfl
    obtain ⟨c2, l4, le4, m2, g2, hl4, ⟨b2, b2', b2''⟩, cS2⟩ := hS _ (.mk tf tn ts ta) n l3 le3 hvy (by omega) (by omega) hg (by omega) hl3 (by omega) (by omega)
    obtain ⟨c3, l5, le5, m3, g3, hl5, ⟨b3, b3', b3''⟩, cS3⟩ := hS (moreV v [] (.mk tf tn ts ta)) (.mk tf tn ts ta) n l4 le4 hv1 (by omega) (by omega) hg (by omega) hl4 (by omega) (by omega)
    obtain ⟨j, l6, hj, hl6, cJ⟩ := e_next l5 le5 3 (by decide) hl5
    have walk : ∀ c : Core, c = (if j = 0 then .mk 9 0 [] (.mk tf tn ts ta) [c1] [] [.mk 1 0 [67] [[120], [121]] c2] else .mk 9 0 [] (.mk tf tn ts ta) [c1] [] [.mk 1 0 [67] [[120], [121]] c2, .mk 1 0 [78] [] c3]) → ImpC Tryd.prog 80 [.one (.vp 700 0), .pa (encV v), tyV (.mk tf tn ts ta)] (mO l left) (.pa (encCore c)) (mO l6 le5) := by
      intro c hc
      refine impC (n := 152) tok Tryd.func80 rfl rfl rfl ?_
      refine awp_seq (ag [] rfl ?_)
      refine awp_seq (ag [] rfl ?_)
      refine awp_seq (awp_seq (awp_rg mixed ?_))
      refine ak 1 [] rfl ?_
      refine kc cN ?_
      refine az ?_
      refine awp_block (awp_seq (ag [] rfl ?_))
      refine awp_cond rfl (fun hb => by cases hb) (fun _ => ?_)
      refine awp_seq (ag [] rfl ?_)
      refine awp_cond rfl (fun hb => by cases hb) (fun _ => ?_)
      refine awp_seq (ag [] rfl ?_)
      refine awp_cond rfl (fun _ => ?_) (fun hb => by cases hb)
      refine awp_seq (awp_rg mixed ?_)
      refine ak 3 [] rfl ?_
      refine kc cU ?_
      refine ak 2 [] rfl ?_
      refine az ?_
      refine awp_seq (awp_rg mixed ?_)
      refine kc (c_con19 [76]) ?_
      refine ak 5 [(2, .all)] rfl ?_
      refine az ?_
      refine awp_seq (awp_rg mixed ?_)
      refine ak 3 [] rfl ?_
      refine kc cM ?_
      refine ak 1 [] rfl ?_
      refine kc cS1 ?_
      refine ak 3 [(6, .all)] rfl ?_
      refine az ?_
      refine awp_seq (awp_rg mixed ?_)
      refine ak 4 [(0, .all)] rfl ?_
      refine kc cX ?_
      refine ak 1 [] rfl ?_
      refine kc cY ?_
      refine ak 1 [] rfl ?_
      refine kc cS2 ?_
      refine ak 4 [] rfl ?_
      refine kc cM ?_
      refine ak 1 [] rfl ?_
      refine kc cS3 ?_
      refine ak 4 [] rfl ?_
      refine az ?_
      refine AWp.sub (Sub.freeze (id := 142) rfl) ?_
      refine AWp.sub (aw 142 ([.mk 1 0 [67] [[120], [121]] c2, .mk 1 0 [78] [] c3].map encAlt)) ?_
      refine AWp.sub (vp 7 (encCore (.mk 9 0 [] (.mk tf tn ts ta) [c1] [] [.mk 1 0 [67] [[120], [121]] c2, .mk 1 0 [78] [] c3]))) ?_
      refine awp_seq (awp_rg mixed ?_)
      refine ak 1 [] rfl ?_
      refine kc cJ ?_
      refine ak 1 [] rfl ?_
      refine az ?_
      refine awp_cond rfl (fun hb => ?_) (fun hb => ?_)
      · have hj0 : j = 0 := by have := of_decide_eq_true hb; omega
        rw [if_pos hj0] at hc
        subst hc
        refine ag [] rfl ?_ (hc := ⟨by rw [encCases_eq]; simp [Core.alts], by decide, trivial⟩)
        refine awp_seq (ag [] rfl ?_)
        exact awp_ret (rtC trw)
      · have hj0 : ¬ j = 0 := by have := of_decide_eq_false hb; omega
        rw [if_neg hj0] at hc
        subst hc
        refine awp_skip ?_
        refine awp_seq (ag [] rfl ?_)
        exact awp_ret (rtC trw)
    by_cases hj0 : j = 0
    · refine ⟨.mk 9 0 [] (.mk tf tn ts ta) [c1] [] [.mk 1 0 [67] [[120], [121]] c2], l6, le5, m1 + m2 + 20, .case1 hg (by omega) g1 g2 (by decide) (by decide) (by decide) (by decide) (by decide), hl6, ⟨by omega, by omega, by omega⟩, walk _ (by rw [if_pos hj0])⟩
    · refine ⟨.mk 9 0 [] (.mk tf tn ts ta) [c1] [] [.mk 1 0 [67] [[120], [121]] c2, .mk 1 0 [78] [] c3], l6, le5, m1 + m2 + m3 + 40, .case2 hg (by omega) g1 g2 g3 (by decide) (by decide) (by decide) (by decide) (by decide) (by decide) (by decide) (by decide) (by simp) (by decide), hl6, ⟨by omega, by omega, by omega⟩, walk _ (by rw [if_neg hj0])⟩
  obtain ⟨⟨uf, un, us, ua⟩, l2, k, gu, hk, hl2, cU⟩ := e_typ v.vars hv.vars (by omega) 1 2 (by omega) (by omega) l1 left hl1
  have hk : k ≤ 5 := hk
  obtain ⟨⟨wf, wn, ws, wa⟩, l2b, kw, gw, hkw, hl2b, cW⟩ := e_typ v.vars hv.vars (by omega) 1 2 (by omega) (by omega) l2 left hl2
  have hkw : kw ≤ 5 := hkw
  have gL : GT (1 + k + 1 + kw + 1) (.mk 4 0 [] [.mk 4 0 [] [.mk 3 0 [80] [], (.mk uf un us ua)], (.mk wf wn ws wa)]) := .app (.app (.nm (by decide)) gu) gw
  obtain ⟨c1, l3, le3, m1, g1, hl3, ⟨b1, b1', b1''⟩, cS1⟩ := hS (moreV v [] (.mk tf tn ts ta)) (.mk 4 0 [] [.mk 4 0 [] [.mk 3 0 [80] [], (.mk uf un us ua)], (.mk wf wn ws wa)]) _ l2b left hv1 (by omega) (by omega) gL (by omega) hl2b hle (by omega)
  obtain ⟨hvx, cX⟩ := more v [121] (.mk uf un us ua) k hv h0 (by omega) gu (by omega) (.inr (by decide))
  obtain ⟨hvy, cY⟩ := more (moreV v [121] (.mk uf un us ua)) [97] (.mk wf wn ws wa) kw hvx (by show 0 ≤ v.deep + 1; omega) (by show v.deep + 1 ≤ 8; omega) gw (by omega) (.inr (by decide))
  have hdy : (moreV (moreV v [121] (.mk uf un us ua)) [97] (.mk wf wn ws wa)).deep = v.deep + 1 + 1 := rfl
  obtain ⟨c2, l4, le4, m2, g2, hl4, ⟨b2, b2', b2''⟩, cS2⟩ := hS _ (.mk tf tn ts ta) n l3 le3 hvy (by omega) (by omega) hg (by omega) hl3 (by omega) (by omega)
  refine ⟨.mk 9 0 [] (.mk tf tn ts ta) [c1] [] [.mk 1 0 [80] [[121], [97]] c2], l4, le4, m1 + m2 + 20, .case1 hg (by omega) g1 g2 (by decide) (by decide) (by decide) (by decide) (by decide), hl4, ⟨by omega, by omega, by omega⟩, ?_⟩
  refine impC (n := 152) tok Tryd.func80 rfl rfl rfl ?_
  refine awp_seq (ag [] rfl ?_)
  refine awp_seq (ag [] rfl ?_)
  refine awp_seq (awp_seq (awp_rg mixed ?_))
  refine ak 1 [] rfl ?_
  refine kc cN ?_
  refine az ?_
  refine awp_block (awp_seq (ag [] rfl ?_))
  refine awp_cond rfl (fun hb => absurd (by have := of_decide_eq_true hb; omega) h1) (fun _ => ?_)
  refine awp_seq (ag [] rfl ?_)
  refine awp_cond rfl (fun hb => absurd (by have := of_decide_eq_true hb; omega) h2) (fun _ => ?_)
  refine awp_seq (ag [] rfl ?_)
  refine awp_cond rfl (fun hb => absurd (by have := of_decide_eq_true hb; omega) h3) (fun _ => ?_)
  refine awp_seq (awp_rg mixed ?_)
  refine ak 3 [] rfl ?_
  refine kc cU ?_
  refine ak 2 [] rfl ?_
  refine az ?_
  refine awp_seq (awp_rg mixed ?_)
  refine ak 3 [] rfl ?_
  refine kc cW ?_
  refine ak 2 [] rfl ?_
  refine az ?_
  refine awp_seq (awp_rg mixed ?_)
  refine kc (c_con19 [80]) ?_
  refine ak 8 [(2, .all), (5, .all)] rfl ?_
  refine az ?_
  refine awp_seq (awp_rg mixed ?_)
  refine ak 3 [] rfl ?_
  refine kc cM ?_
  refine ak 1 [] rfl ?_
  refine kc cS1 ?_
  refine ak 3 [(6, .all)] rfl ?_
  refine az ?_
  refine awp_rg mixed ?_
  refine ak 4 [(0, .all)] rfl ?_
  refine kc cX ?_
  refine ak 1 [] rfl ?_
  refine kc cY ?_
  refine ak 1 [] rfl ?_
  refine kc cS2 ?_
  refine ak 4 [(10, .all)] rfl ?_
  refine az ?_
  refine AWp.sub (vp 7 (encCore (.mk 9 0 [] (.mk tf tn ts ta) [c1] [] [.mk 1 0 [80] [[121], [97]] c2]))) ?_
  refine awp_seq (ag [] rfl ?_)
  exact awp_ret (rtC trw)
end Go.Proofs.YtojcjjjpniimiaaDoor

/- CORE OF A TYPE, made of numbers: any core of a type (printed by lt6.py). -/
namespace Go.Proofs.YtojcjjjpniimiaaDoor
open Go Go.AM
set_option maxRecDepth 20000
set_option maxHeartbeats 4000000

theorem some_step (F : Int) (hS : 0 ≤ F → SomeSpec F) : SomeSpec (F + 1) := by
  intro v t n l left hv hF hd hg hn hl hle hlo
  have hM : 1000000000 ≤ maxLen := by decide
  have h0 := hv.d0
  have hlen := hv.len
  have hvlen := hv.vlen
  have hp0 : 0 ≤ pos left := by unfold pos; omega
  by_cases hlf : left - 1 < 1 ∨ 6 < v.deep
  · obtain ⟨c, l', m, gc, hm, hl', cL⟩ := e_leaf n n t (Nat.le_refl _) hg (by omega) v l (left - 1) hv (by omega) hl
    have hp1 : pos (left - 1) ≤ pos left ∧ pos left ≤ pos (left - 1) + 1 := by unfold pos; omega
    refine ⟨c, l', left - 1, m, gc, hl', ⟨by omega, by unfold pos at *; omega, by omega⟩, ?_⟩
    refine impC (n := 374) tok Tryd.func48 rfl rfl rfl ?_
    refine awp_seq (ag [] rfl ?_)
    refine awp_seq (ag [] rfl ?_ (hc := by repeat (first | exact trivial | refine ⟨by first | rfl | omega | (simp [Ty.form, Ty.name, Ty.n]; omega) | (simp; done), ?_⟩)))
    refine awp_seq (awp_seq (agF 6 [] rfl rfl rfl ?_))
    refine awp_cond rfl (fun _ => ?_) (fun hb => absurd hlf (by simpa using hb))
    refine awp_seq (awp_rg mixed ?_)
    refine ak 3 [] rfl ?_
    refine kc cL ?_
    refine ak 1 [] rfl ?_
    refine az ?_
    exact awp_ret (rtC trw)
  have hF0 : 0 ≤ F := by omega
  have hps : pos (left - 1) = pos left - 1 := by unfold pos; omega
  have hp1 : 0 ≤ pos (left - 1) := by unfold pos; omega
  have more : ∀ (v : Gv) (s : Str) (u : Ty) (k : Nat), Gok v → 0 ≤ v.deep → v.deep ≤ 8 → GT k u → k ≤ 100 → (s = [] ∨ s ∈ nm6) → Gok (moreV v s u) ∧ ImpC Tryd.prog 78 [.pa (encV v), Go.AM.T s, tyV u] [] (.pa (encV (moreV v s u))) [] := fun v s u k h h0 h8 hu hk hs => by
    have := h.len
    exact ⟨h.more hs hu hk, c_more19 v s u (by omega) ⟨h0, by omega⟩⟩
  obtain ⟨hv1, cM⟩ := more v [] t n hv h0 (by omega) hg (by omega) (.inl rfl)
  have hd1 : (moreV v [] t).deep = v.deep + 1 := rfl
  obtain ⟨i, l1, hi, hl1, cN⟩ := e_next l (left - 1) 12 (by decide) hl
  by_cases hi0 : i = 0
  · obtain ⟨u, l2, k, gu, hk, hl2, cU⟩ := e_typ v.vars hv.vars (by omega) 2 1 (by omega) (by omega) l1 (left - 1) hl1
    have hk : k ≤ 13 := hk
    obtain ⟨s, l3, hs, hl3, cNm⟩ := e_name l2 (left - 1) v hl2
    have hs6 : s ∈ nm6 := List.mem_append.2 (.inl hs)
    obtain ⟨hvs, cMs⟩ := more v s u k hv h0 (by omega) gu (by omega) (.inr hs6)
    have hds : (moreV v s u).deep = v.deep + 1 := rfl
    obtain ⟨c1, l4, le1, m1, g1, hl4, ⟨b1, b1', b1''⟩, cS1⟩ := hS (by omega) (moreV v s u) t n l3 (left - 1) hvs (by omega) (by omega) hg (by omega) hl3 (by omega) (by omega)
    obtain ⟨c2, l5, le2, m2, g2, hl5, ⟨b2, b2', b2''⟩, cS2⟩ := hS (by omega) (moreV v [] t) u k l4 le1 hv1 (by omega) (by omega) gu (by omega) hl4 (by omega) (by omega)
    have cA := c_apply19 (.mk 5 0 s u [c1] [] []) c2
    refine ⟨.mk 4 0 [] zTy [.mk 5 0 s u [c1] [] [], c2] [] [], l5, le2, m1 + 4 + m2 + 1, .app (.lam hs6 gu (by omega) g1) g2, hl5, ⟨by omega, by omega, by omega⟩, ?_⟩
    refine impC (n := 374) tok Tryd.func48 rfl rfl rfl ?_
    refine awp_seq (ag [] rfl ?_)
    refine awp_seq (ag [] rfl ?_ (hc := by repeat (first | exact trivial | refine ⟨by first | rfl | omega | (simp [Ty.form, Ty.name, Ty.n]; omega) | (simp; done), ?_⟩)))
    refine awp_seq (awp_seq (agF 6 [] rfl rfl rfl ?_))
    refine awp_cond rfl (fun hb => absurd (by simpa using hb) hlf) (fun _ => ?_)
    refine awp_skip ?_
    refine awp_seq (awp_seq (awp_rg mixed ?_))
    refine ak 1 [] rfl ?_
    refine kc cN ?_
    refine az ?_
    refine awp_block (awp_seq (ag [] rfl ?_))
    refine awp_cond rfl (fun _ => ?_) (fun hb => absurd (of_decide_eq_false hb) (by omega))
    refine awp_seq (awp_rg mixed ?_)
    refine ak 3 [] rfl ?_
    refine kc (cU) ?_
    refine ak 2 [] rfl ?_
    refine az ?_
    refine awp_seq (awp_rg mixed ?_)
    refine ak 2 [] rfl ?_
    refine kc (cNm) ?_
    refine ak 1 [] rfl ?_
    refine az ?_
    refine awp_seq (awp_rg mixed ?_)
    refine ak 6 [] rfl ?_
    refine kc (cMs) ?_
    refine ak 1 [] rfl ?_
    refine kc (cS1) ?_
    refine ak 4 [(9, .all)] rfl ?_
    refine az ?_
    refine AWp.sub (vp 9 (encCore (.mk 5 0 s u [c1] [] []))) ?_
    refine awp_seq (awp_rg mixed ?_)
    refine ak 4 [] rfl ?_
    refine kc (cM) ?_
    refine ak 1 [] rfl ?_
    refine kc (cS2) ?_
    refine kc (cA) ?_
    refine ak 1 [] rfl ?_
    refine az ?_
    exact awp_ret (rtC trw)
  by_cases hi1 : i = 1
  · obtain ⟨u, l2, k, gu, hk, hl2, cU⟩ := e_typ v.vars hv.vars (by omega) 2 1 (by omega) (by omega) l1 (left - 1) hl1
    have hk : k ≤ 13 := hk
    obtain ⟨s, l3, hs, hl3, cNm⟩ := e_name l2 (left - 1) v hl2
    have hs6 : s ∈ nm6 := List.mem_append.2 (.inl hs)
    obtain ⟨hvs, cMs⟩ := more v s u k hv h0 (by omega) gu (by omega) (.inr hs6)
    have hds : (moreV v s u).deep = v.deep + 1 := rfl
    obtain ⟨c1, l4, le1, m1, g1, hl4, ⟨b1, b1', b1''⟩, cS1⟩ := hS (by omega) (moreV v s u) u k l3 (left - 1) hvs (by omega) (by omega) gu (by omega) hl3 (by omega) (by omega)
    obtain ⟨c2, l5, le2, m2, g2, hl5, ⟨b2, b2', b2''⟩, cS2⟩ := hS (by omega) (moreV v s u) t n l4 le1 hvs (by omega) (by omega) hg (by omega) hl4 (by omega) (by omega)
    refine ⟨.mk 8 0 [] zTy [c2] [.mk s u c1] [], l5, le2, m2 + m1 + 5, .lt hs6 gu (by omega) g2 g1, hl5, ⟨by omega, by omega, by omega⟩, ?_⟩
    refine impC (n := 374) tok Tryd.func48 rfl rfl rfl ?_
    refine awp_seq (ag [] rfl ?_)
    refine awp_seq (ag [] rfl ?_ (hc := by repeat (first | exact trivial | refine ⟨by first | rfl | omega | (simp [Ty.form, Ty.name, Ty.n]; omega) | (simp; done), ?_⟩)))
    refine awp_seq (awp_seq (agF 6 [] rfl rfl rfl ?_))
    refine awp_cond rfl (fun hb => absurd (by simpa using hb) hlf) (fun _ => ?_)
    refine awp_skip ?_
    refine awp_seq (awp_seq (awp_rg mixed ?_))
    refine ak 1 [] rfl ?_
    refine kc cN ?_
    refine az ?_
    refine awp_block (awp_seq (ag [] rfl ?_))
    refine awp_cond rfl (fun hb => absurd (by have := of_decide_eq_true hb; omega) hi0) (fun _ => ?_)
    refine awp_seq (ag [] rfl ?_)
    refine awp_cond rfl (fun _ => ?_) (fun hb => absurd (of_decide_eq_false hb) (by omega))
    refine awp_seq (awp_rg mixed ?_)
    refine ak 3 [] rfl ?_
    refine kc (cU) ?_
    refine ak 2 [] rfl ?_
    refine az ?_
    refine awp_seq (awp_rg mixed ?_)
    refine ak 2 [] rfl ?_
    refine kc (cNm) ?_
    refine ak 1 [] rfl ?_
    refine az ?_
    refine awp_seq (awp_rg mixed ?_)
    refine ak 3 [] rfl ?_
    refine kc (cMs) ?_
    refine ak 2 [] rfl ?_
    refine az ?_
    refine awp_seq (awp_rg mixed ?_)
    refine ak 3 [] rfl ?_
    refine kc (cS1) ?_
    refine ak 2 [] rfl ?_
    refine az ?_
    refine awp_seq (awp_rg mixed ?_)
    refine ak 8 [(4, .all)] rfl ?_
    refine kc (cS2) ?_
    refine ak 3 [(9, .all)] rfl ?_
    refine az ?_
    exact awp_ret (rtC trw)
  by_cases hi2 : i = 2
  · obtain ⟨c1, l2, le1, m1, g1, hl2, ⟨b1, b1', b1''⟩, cC⟩ := e_cases F (hS (by omega)) v t n l1 (left - 1) hv (by omega) (by omega) hg (by omega) hl1 (by omega) (by omega)
    refine ⟨c1, l2, le1, m1, g1, hl2, ⟨by omega, by omega, by omega⟩, ?_⟩
    refine impC (n := 374) tok Tryd.func48 rfl rfl rfl ?_
    refine awp_seq (ag [] rfl ?_)
    refine awp_seq (ag [] rfl ?_ (hc := by repeat (first | exact trivial | refine ⟨by first | rfl | omega | (simp [Ty.form, Ty.name, Ty.n]; omega) | (simp; done), ?_⟩)))
    refine awp_seq (awp_seq (agF 6 [] rfl rfl rfl ?_))
    refine awp_cond rfl (fun hb => absurd (by simpa using hb) hlf) (fun _ => ?_)
    refine awp_skip ?_
    refine awp_seq (awp_seq (awp_rg mixed ?_))
    refine ak 1 [] rfl ?_
    refine kc cN ?_
    refine az ?_
    refine awp_block (awp_seq (ag [] rfl ?_))
    refine awp_cond rfl (fun hb => absurd (by have := of_decide_eq_true hb; omega) hi0) (fun _ => ?_)
    refine awp_seq (ag [] rfl ?_)
    refine awp_cond rfl (fun hb => absurd (by have := of_decide_eq_true hb; omega) hi1) (fun _ => ?_)
    refine awp_seq (ag [] rfl ?_)
    refine awp_cond rfl (fun _ => ?_) (fun hb => absurd (of_decide_eq_false hb) (by omega))
    refine awp_seq (awp_rg mixed ?_)
    refine ak 3 [] rfl ?_
    refine kc (cC) ?_
    refine ak 1 [] rfl ?_
    refine az ?_
    exact awp_ret (rtC trw)
  by_cases hi3 : i = 3
  · obtain ⟨u, l2, k, gu, hk, hl2, cU⟩ := e_typ v.vars hv.vars (by omega) 2 1 (by omega) (by omega) l1 (left - 1) hl1
    have hk : k ≤ 13 := hk
    obtain ⟨j, l3, hj, hl3, cJ⟩ := e_next l2 (left - 1) 3 (by decide) hl2
    have hj : j < 3 := by omega
    obtain ⟨s, hs⟩ : ∃ s, ([[97], [98], [99]] : List Str)[j]? = some s := get_of_lt (by simpa using hj)
    have hs' := getEnc encS hs
    have hs1 : s.length = 1 := by
      have : j = 0 ∨ j = 1 ∨ j = 2 := by omega
      rcases this with rfl | rfl | rfl <;> (simp at hs; subst hs; rfl)
    have hs8 : (s ++ [39]).length ≤ 8 := by simp; omega
    have gX : GT 1 (.mk 2 0 (s ++ [39]) []) := .var _ hs8
    have hvi : Gok ⟨v.l, v.vars ++ [s ++ [39]], v.deep + 1⟩ := ⟨hv.all, fun x hx => by
      rcases List.mem_append.1 hx with hx | hx
      · exact hv.vars x hx
      · rw [List.mem_singleton.1 hx]; exact hs8, by show 0 ≤ v.deep + 1; omega, by show (v.l.length : Int) ≤ v.deep + 1; omega, by show ((v.vars ++ [s ++ [39]]).length : Int) ≤ v.deep + 1 + 1; rw [List.length_append]; simp only [List.length_cons, List.length_nil]; omega⟩
    obtain ⟨hvp, cP⟩ := more ⟨v.l, v.vars ++ [s ++ [39]], v.deep + 1⟩ [112] _ 1 hvi (by show 0 ≤ v.deep + 1; omega) (by show v.deep + 1 ≤ 8; omega) gX (by omega) (.inr (by decide))
    have hdp : (moreV ⟨v.l, v.vars ++ [s ++ [39]], v.deep + 1⟩ [112] (.mk 2 0 (s ++ [39]) [])).deep = v.deep + 1 + 1 := rfl
    obtain ⟨c1, l4, le1, m1, g1, hl4, ⟨b1, b1', b1''⟩, cS1⟩ := hS (by omega) _ t n l3 (left - 1) hvp (by omega) (by omega) hg (by omega) hl3 (by omega) (by omega)
    have cH := c_has v.vars (s ++ [39]) (by unfold Fits; omega)
    have head : ∀ (c : Core) (l' : List Int) (le' : Int), (s ++ [39] ∈ v.vars → ImpC Tryd.prog 76 [.one (.vp 700 0), .pa (encV v), tyV t] (mO l4 le1) (.pa (encCore c)) (mO l' le')) →
        (¬ s ++ [39] ∈ v.vars → ∃ c2 : Core, c = .mk 4 0 [] zTy [.mk 6 0 [] u [.mk 7 0 (s ++ [39]) zTy [.mk 5 0 [112] (.mk 2 0 (s ++ [39]) []) [c1] [] []] [] []] [] [], c2] [] [] ∧ ImpC Tryd.prog 48 [.one (.vp 700 0), .pa (encV (moreV v [] t)), tyV u] (mO l4 le1) (.pa (encCore c2)) (mO l' le')) →
        ImpC Tryd.prog 48 [.one (.vp 700 0), .pa (encV v), tyV t] (mO l left) (.pa (encCore c)) (mO l' le') := by
      intro c l' le' hA hB
      refine impC (n := 374) tok Tryd.func48 rfl rfl rfl ?_
      refine awp_seq (ag [] rfl ?_)
      refine awp_seq (ag [] rfl ?_ (hc := by repeat (first | exact trivial | refine ⟨by first | rfl | omega | (simp [Ty.form, Ty.name, Ty.n]; omega) | (simp; done), ?_⟩)))
      refine awp_seq (awp_seq (agF 6 [] rfl rfl rfl ?_))
      refine awp_cond rfl (fun hb => absurd (by simpa using hb) hlf) (fun _ => ?_)
      refine awp_skip ?_
      refine awp_seq (awp_seq (awp_rg mixed ?_))
      refine ak 1 [] rfl ?_
      refine kc cN ?_
      refine az ?_
      refine awp_block (awp_seq (ag [] rfl ?_))
      refine awp_cond rfl (fun hb => absurd (by have := of_decide_eq_true hb; omega) hi0) (fun _ => ?_)
      refine awp_seq (ag [] rfl ?_)
      refine awp_cond rfl (fun hb => absurd (by have := of_decide_eq_true hb; omega) hi1) (fun _ => ?_)
      refine awp_seq (ag [] rfl ?_)
      refine awp_cond rfl (fun hb => absurd (by have := of_decide_eq_true hb; omega) hi2) (fun _ => ?_)
      refine awp_seq (ag [] rfl ?_)
      refine awp_cond rfl (fun _ => ?_) (fun hb => absurd (of_decide_eq_false hb) (by omega))
      refine awp_seq (awp_rg mixed ?_)
      refine ak 3 [] rfl ?_
      refine kc (cU) ?_
      refine ak 2 [] rfl ?_
      refine az ?_
      refine awp_seq (awp_rg mixed ?_)
      refine ak 2 [] rfl ?_
      refine kc (cJ) ?_
      refine ak 3 [(3, .row j []), (4, .row j (encS s))] rfl ?_
      refine az ?_
      refine awp_seq (ag [] rfl ?_ (hc := by repeat (first | exact trivial | refine ⟨by first | rfl | omega | (simp [Ty.form, Ty.name, Ty.n]; omega) | (simp; done), ?_⟩)))
      refine awp_seq (ag [(4, .all)] rfl ?_)
      refine awp_seq (ag [] rfl ?_ (hc := by repeat (first | exact trivial | refine ⟨by first | rfl | omega | (simp [Ty.form, Ty.name, Ty.n]; omega) | (simp; done), ?_⟩)))
      refine awp_seq (ag [] rfl ?_ (hc := by repeat (first | exact trivial | refine ⟨by first | rfl | omega | (simp [Ty.form, Ty.name, Ty.n]; omega) | (simp; done), ?_⟩)))
      refine AWp.sub (Sub.freeze (id := 132) rfl) ?_
      rw [show v.vars.map encS ++ [[C.str (s ++ [39])]] = (v.vars ++ [s ++ [39]]).map encS by rw [List.map_append]; rfl]
      refine AWp.sub (vp 16 (encV ⟨v.l, v.vars ++ [s ++ [39]], v.deep + 1⟩) (hp := .c .refl (.hs rfl (by simp) (Go.AM.take_all (by simp)) (.c .refl .nil)))) ?_
      refine AWp.sub (vp 17 (encTy (.mk 2 0 (s ++ [39]) []))) ?_
      refine awp_seq (awp_rg mixed ?_)
      refine ak 4 [] rfl ?_
      refine kc (cP) ?_
      refine ak 1 [] rfl ?_
      refine kc (cS1) ?_
      refine ak 4 [(7, .all)] rfl ?_
      refine az ?_
      refine AWp.sub (vp 18 (encCore (.mk 5 0 [112] (.mk 2 0 (s ++ [39]) []) [c1] [] []))) ?_
      refine awp_seq (awp_seq (awp_rg mixed ?_))
      refine ak 4 [] rfl ?_ (hc := by repeat (first | exact trivial | refine ⟨by first | rfl | omega | (simp [Ty.form, Ty.name, Ty.n]; omega) | (simp; done), ?_⟩))
      refine kc cH ?_
      refine az ?_
      refine awp_cond rfl (fun hb => ?_) (fun hb => ?_)
      · have cLf := hA (of_decide_eq_true hb)
        refine awp_seq (awp_rg mixed ?_)
        refine ak 3 [] rfl ?_
        refine kc (cLf) ?_
        refine ak 1 [] rfl ?_
        refine az ?_
        exact awp_ret (rtC trw)
      obtain ⟨c2, rfl, cS2⟩ := hB (of_decide_eq_false hb)
      have cA := c_apply19 (.mk 6 0 [] u [.mk 7 0 (s ++ [39]) zTy [.mk 5 0 [112] (.mk 2 0 (s ++ [39]) []) [c1] [] []] [] []] [] []) c2
      refine awp_skip ?_
      refine awp_seq (ag [(3, .all)] rfl ?_ (hc := by repeat (first | exact trivial | refine ⟨by first | rfl | omega | (simp [Ty.form, Ty.name, Ty.n]; omega) | (simp; done), ?_⟩)))
      refine AWp.sub (vp 19 (encCore (.mk 7 0 (s ++ [39]) zTy [.mk 5 0 [112] (.mk 2 0 (s ++ [39]) []) [c1] [] []] [] []))) ?_
      refine awp_seq (awp_rg mixed ?_)
      refine ak 7 [(2, .all)] rfl ?_
      refine kc (cM) ?_
      refine ak 1 [] rfl ?_
      refine kc (cS2) ?_
      refine kc (cA) ?_
      refine ak 1 [] rfl ?_
      refine az ?_
      exact awp_ret (rtC trw)
    by_cases hH : s ++ [39] ∈ v.vars
    · obtain ⟨c2, l5, m2, g2, hm2, hl5, cLf⟩ := e_leaf n n t (Nat.le_refl _) hg (by omega) v l4 le1 hv (by omega) hl4
      exact ⟨c2, l5, le1, m2, g2, hl5, ⟨by omega, by omega, by omega⟩, head _ _ _ (fun _ => cLf) (fun h => absurd hH h)⟩
    · obtain ⟨c2, l5, le2, m2, g2, hl5, ⟨b2, b2', b2''⟩, cS2⟩ := hS (by omega) (moreV v [] t) u k l4 le1 hv1 (by omega) (by omega) gu (by omega) hl4 (by omega) (by omega)
      exact ⟨_, l5, le2, m1 + 4 + 9 + 1 + m2 + 1, .app (.tapp gu (by omega) (.tlam hs8 (.lam (by decide) gX (by omega) g1))) g2, hl5, ⟨by omega, by omega, by omega⟩, head _ _ _ (fun h => absurd h hH) (fun _ => ⟨c2, rfl, cS2⟩)⟩
  by_cases hi4 : i = 4
  · obtain ⟨u, l2, k, gu, hk, hl2, cU⟩ := e_typ v.vars hv.vars (by omega) 1 2 (by omega) (by omega) l1 (left - 1) hl1
    have hk : k ≤ 5 := hk
    have gF : GT (k + n + 3) (tfun u t) := gu.fn hg
    have cFn := c_fun u t
    obtain ⟨c1, l3, le1, m1, g1, hl3, ⟨b1, b1', b1''⟩, cS1⟩ := hS (by omega) (moreV v [] t) (tfun u t) (k + n + 3) l2 (left - 1) hv1 (by omega) (by omega) gF (by omega) hl2 (by omega) (by omega)
    obtain ⟨c2, l4, le2, m2, g2, hl4, ⟨b2, b2', b2''⟩, cS2⟩ := hS (by omega) (moreV v [] t) u k l3 le1 hv1 (by omega) (by omega) gu (by omega) hl3 (by omega) (by omega)
    have cA := c_apply19 c1 c2
    refine ⟨.mk 4 0 [] zTy [c1, c2] [] [], l4, le2, m1 + m2 + 1, .app g1 g2, hl4, ⟨by omega, by omega, by omega⟩, ?_⟩
    refine impC (n := 374) tok Tryd.func48 rfl rfl rfl ?_
    refine awp_seq (ag [] rfl ?_)
    refine awp_seq (ag [] rfl ?_ (hc := by repeat (first | exact trivial | refine ⟨by first | rfl | omega | (simp [Ty.form, Ty.name, Ty.n]; omega) | (simp; done), ?_⟩)))
    refine awp_seq (awp_seq (agF 6 [] rfl rfl rfl ?_))
    refine awp_cond rfl (fun hb => absurd (by simpa using hb) hlf) (fun _ => ?_)
    refine awp_skip ?_
    refine awp_seq (awp_seq (awp_rg mixed ?_))
    refine ak 1 [] rfl ?_
    refine kc cN ?_
    refine az ?_
    refine awp_block (awp_seq (ag [] rfl ?_))
    refine awp_cond rfl (fun hb => absurd (by have := of_decide_eq_true hb; omega) hi0) (fun _ => ?_)
    refine awp_seq (ag [] rfl ?_)
    refine awp_cond rfl (fun hb => absurd (by have := of_decide_eq_true hb; omega) hi1) (fun _ => ?_)
    refine awp_seq (ag [] rfl ?_)
    refine awp_cond rfl (fun hb => absurd (by have := of_decide_eq_true hb; omega) hi2) (fun _ => ?_)
    refine awp_seq (ag [] rfl ?_)
    refine awp_cond rfl (fun hb => absurd (by have := of_decide_eq_true hb; omega) hi3) (fun _ => ?_)
    refine awp_seq (ag [] rfl ?_)
    refine awp_cond rfl (fun _ => ?_) (fun hb => absurd (of_decide_eq_false hb) (by omega))
    refine awp_seq (awp_rg mixed ?_)
    refine ak 3 [] rfl ?_
    refine kc (cU) ?_
    refine ak 1 [] rfl ?_
    refine kc (cFn) ?_
    refine ak 2 [] rfl ?_
    refine az ?_
    refine awp_seq (awp_rg mixed ?_)
    refine ak 3 [] rfl ?_
    refine kc (cM) ?_
    refine ak 1 [] rfl ?_
    refine kc (cS1) ?_
    refine ak 3 [] rfl ?_
    refine kc (cM) ?_
    refine ak 7 [(12, .row 0 (encTy (tapp (.mk 3 0 arrow []) u))), (15, .row 1 (encTy u))] rfl ?_
    refine kc (cS2) ?_
    refine kc (cA) ?_
    refine ak 1 [] rfl ?_
    refine az ?_
    exact awp_ret (rtC trw)
  obtain ⟨hd', L, hLg, hLn, cSp⟩ := e_spine hg (by omega)
  by_cases hI : bb hd'.form hd'.name [73, 110, 116] = true
  · obtain ⟨j, l2, hj, hl2, cJ⟩ := e_next l1 (left - 1) 4 (by decide) hl1
    have hj : j < 4 := by omega
    obtain ⟨s, hs⟩ : ∃ s, ([[97, 100, 100], [115, 117, 98], [109, 117, 108], [100, 105, 118]] : List Str)[j]? = some s := get_of_lt (by simpa using hj)
    have hs' := getEnc encS hs
    have hsp : s ∈ primL := by
      have : j = 0 ∨ j = 1 ∨ j = 2 ∨ j = 3 := by omega
      rcases this with rfl | rfl | rfl | rfl <;> (simp at hs; subst hs; decide)
    obtain ⟨c1, l3, le1, m1, g1, hl3, ⟨b1, b1', b1''⟩, cS1⟩ := hS (by omega) (moreV v [] t) t n l2 (left - 1) hv1 (by omega) (by omega) hg (by omega) hl2 (by omega) (by omega)
    obtain ⟨c2, l4, le2, m2, g2, hl4, ⟨b2, b2', b2''⟩, cS2⟩ := hS (by omega) (moreV v [] t) t n l3 le1 hv1 (by omega) (by omega) hg (by omega) hl3 (by omega) (by omega)
    refine ⟨.mk 10 0 s zTy [c1, c2] [] [], l4, le2, m1 + m2 + 5, .prim hsp g1 g2, hl4, ⟨by omega, by omega, by omega⟩, ?_⟩
    refine impC (n := 374) tok Tryd.func48 rfl rfl rfl ?_
    refine awp_seq (ag [] rfl ?_)
    refine awp_seq (ag [] rfl ?_ (hc := by repeat (first | exact trivial | refine ⟨by first | rfl | omega | (simp [Ty.form, Ty.name, Ty.n]; omega) | (simp; done), ?_⟩)))
    refine awp_seq (awp_seq (agF 6 [] rfl rfl rfl ?_))
    refine awp_cond rfl (fun hb => absurd (by simpa using hb) hlf) (fun _ => ?_)
    refine awp_skip ?_
    refine awp_seq (awp_seq (awp_rg mixed ?_))
    refine ak 1 [] rfl ?_
    refine kc cN ?_
    refine az ?_
    refine awp_block (awp_seq (ag [] rfl ?_))
    refine awp_cond rfl (fun hb => absurd (by have := of_decide_eq_true hb; omega) hi0) (fun _ => ?_)
    refine awp_seq (ag [] rfl ?_)
    refine awp_cond rfl (fun hb => absurd (by have := of_decide_eq_true hb; omega) hi1) (fun _ => ?_)
    refine awp_seq (ag [] rfl ?_)
    refine awp_cond rfl (fun hb => absurd (by have := of_decide_eq_true hb; omega) hi2) (fun _ => ?_)
    refine awp_seq (ag [] rfl ?_)
    refine awp_cond rfl (fun hb => absurd (by have := of_decide_eq_true hb; omega) hi3) (fun _ => ?_)
    refine awp_seq (ag [] rfl ?_)
    refine awp_cond rfl (fun hb => absurd (by have := of_decide_eq_true hb; omega) hi4) (fun _ => ?_)
    refine awp_skip ?_
    refine awp_seq (awp_rg mixed ?_)
    refine ak 1 [] rfl ?_
    refine kc (cSp) ?_
    refine ak 6 [] rfl ?_
    refine az ?_
    refine awp_seq (awp_block (awp_seq (agF 4 [] rfl rfl rfl ?_)))
    refine awp_cond rfl (fun _ => ?_) (fun hb => by have := hI.symm.trans hb; cases this)
    refine awp_seq (awp_rg mixed ?_)
    refine ak 2 [] rfl ?_
    refine kc (cJ) ?_
    refine ak 3 [(3, .row j []), (4, .row j (encS s))] rfl ?_
    refine az ?_
    refine awp_seq (awp_rg mixed ?_)
    refine ak 4 [] rfl ?_
    refine kc (cM) ?_
    refine ak 1 [] rfl ?_
    refine kc (cS1) ?_
    refine ak 3 [] rfl ?_
    refine kc (cM) ?_
    refine ak 1 [] rfl ?_
    refine kc (cS2) ?_
    refine ak 3 [(13, .all)] rfl ?_
    refine az ?_
    exact awp_ret (rtC trw)
  by_cases hB : bb hd'.form hd'.name [66, 111, 111, 108] = true
  · obtain ⟨j, l2, hj, hl2, cJ⟩ := e_next l1 (left - 1) 2 (by decide) hl1
    have hj : j < 2 := by omega
    obtain ⟨s, hs⟩ : ∃ s, ([[101, 113], [108, 116]] : List Str)[j]? = some s := get_of_lt (by simpa using hj)
    have hs' := getEnc encS hs
    have hsp : s ∈ primL := by
      have : j = 0 ∨ j = 1 := by omega
      rcases this with rfl | rfl <;> (simp at hs; subst hs; decide)
    have gI : GT 1 tInt := .con _ (by decide)
    obtain ⟨c1, l3, le1, m1, g1, hl3, ⟨b1, b1', b1''⟩, cS1⟩ := hS (by omega) (moreV v [] t) tInt 1 l2 (left - 1) hv1 (by omega) (by omega) gI (by omega) hl2 (by omega) (by omega)
    obtain ⟨c2, l4, le2, m2, g2, hl4, ⟨b2, b2', b2''⟩, cS2⟩ := hS (by omega) (moreV v [] t) tInt 1 l3 le1 hv1 (by omega) (by omega) gI (by omega) hl3 (by omega) (by omega)
    refine ⟨.mk 10 0 s zTy [c1, c2] [] [], l4, le2, m1 + m2 + 5, .prim hsp g1 g2, hl4, ⟨by omega, by omega, by omega⟩, ?_⟩
    refine impC (n := 374) tok Tryd.func48 rfl rfl rfl ?_
    refine awp_seq (ag [] rfl ?_)
    refine awp_seq (ag [] rfl ?_ (hc := by repeat (first | exact trivial | refine ⟨by first | rfl | omega | (simp [Ty.form, Ty.name, Ty.n]; omega) | (simp; done), ?_⟩)))
    refine awp_seq (awp_seq (agF 6 [] rfl rfl rfl ?_))
    refine awp_cond rfl (fun hb => absurd (by simpa using hb) hlf) (fun _ => ?_)
    refine awp_skip ?_
    refine awp_seq (awp_seq (awp_rg mixed ?_))
    refine ak 1 [] rfl ?_
    refine kc cN ?_
    refine az ?_
    refine awp_block (awp_seq (ag [] rfl ?_))
    refine awp_cond rfl (fun hb => absurd (by have := of_decide_eq_true hb; omega) hi0) (fun _ => ?_)
    refine awp_seq (ag [] rfl ?_)
    refine awp_cond rfl (fun hb => absurd (by have := of_decide_eq_true hb; omega) hi1) (fun _ => ?_)
    refine awp_seq (ag [] rfl ?_)
    refine awp_cond rfl (fun hb => absurd (by have := of_decide_eq_true hb; omega) hi2) (fun _ => ?_)
    refine awp_seq (ag [] rfl ?_)
    refine awp_cond rfl (fun hb => absurd (by have := of_decide_eq_true hb; omega) hi3) (fun _ => ?_)
    refine awp_seq (ag [] rfl ?_)
    refine awp_cond rfl (fun hb => absurd (by have := of_decide_eq_true hb; omega) hi4) (fun _ => ?_)
    refine awp_skip ?_
    refine awp_seq (awp_rg mixed ?_)
    refine ak 1 [] rfl ?_
    refine kc (cSp) ?_
    refine ak 6 [] rfl ?_
    refine az ?_
    refine awp_seq (awp_block (awp_seq (agF 4 [] rfl rfl rfl ?_)))
    refine awp_cond rfl (fun hb => absurd hb hI) (fun _ => ?_)
    refine awp_seq (agF 4 [] rfl rfl rfl ?_)
    refine awp_cond rfl (fun _ => ?_) (fun hb => by have := hB.symm.trans hb; cases this)
    refine awp_seq (awp_rg mixed ?_)
    refine kc (c_con19 [73, 110, 116]) ?_
    refine ak 2 [] rfl ?_
    refine az ?_
    refine awp_seq (awp_rg mixed ?_)
    refine ak 2 [] rfl ?_
    refine kc (cJ) ?_
    refine ak 5 [(3, .row j []), (4, .row j (encS s))] rfl ?_
    refine kc (cM) ?_
    refine ak 1 [] rfl ?_
    refine kc (cS1) ?_
    refine ak 3 [] rfl ?_
    refine kc (cM) ?_
    refine ak 1 [] rfl ?_
    refine kc (cS2) ?_
    refine ak 3 [(17, .all)] rfl ?_
    refine az ?_
    exact awp_ret (rtC trw)
  have hl2e : ∃ l2, Ok l2 ∧ (((bb hd'.form hd'.name [76] = true ∧ L.length = 1) ∧ ∃ j : Nat, j = 0 ∧ ImpC Tryd.prog 46 [.one (.vp 700 0), I .i64 3] (mO l1 (left - 1)) (I .i64 j) (mO l2 (left - 1))) ∨ (¬ (bb hd'.form hd'.name [76] = true ∧ L.length = 1) ∧ l2 = l1)) ∨ ((bb hd'.form hd'.name [76] = true ∧ L.length = 1) ∧ Ok l2 ∧ ∃ j : Nat, 0 < j ∧ ImpC Tryd.prog 46 [.one (.vp 700 0), I .i64 3] (mO l1 (left - 1)) (I .i64 j) (mO l2 (left - 1))) := by
    by_cases hX : bb hd'.form hd'.name [76] = true ∧ L.length = 1
    · obtain ⟨j, l2, _, hl2, cJ⟩ := e_next l1 (left - 1) 3 (by decide) hl1
      by_cases hj : j = 0
      · exact ⟨l2, .inl ⟨hl2, .inl ⟨hX, j, hj, cJ⟩⟩⟩
      · exact ⟨l2, .inr ⟨hX, hl2, j, by omega, cJ⟩⟩
    · exact ⟨l1, .inl ⟨hl1, .inr ⟨hX, rfl⟩⟩⟩
  obtain ⟨l2, ⟨hl2, hl12⟩ | ⟨hX, hl2, j, hj, cJ⟩⟩ := hl2e
  rotate_left
  · obtain ⟨x, rfl⟩ : ∃ x, L = [x] := List.length_eq_one_iff.1 hX.2
    obtain ⟨e3, e4⟩ := bb_true hX.1
    have d3 : decide (hd'.form = 3) = true := decide_eq_true e3
    have d4 : decide (hd'.name = [76]) = true := decide_eq_true e4
    obtain ⟨kx, _, gx, _, hkx⟩ := hLg
    have cG := c_given19 [67] [x] (by simp)
    obtain ⟨c1, l3, le1, m1, g1, hl3, ⟨b1, b1', b1''⟩, cS1⟩ := hS (by omega) (moreV v [] t) x kx l2 (left - 1) hv1 (by omega) (by omega) gx (by omega) hl2 (by omega) (by omega)
    obtain ⟨c2, l4, le2, m2, g2, hl4, ⟨b2, b2', b2''⟩, cS2⟩ := hS (by omega) (moreV v [] t) t n l3 le1 hv1 (by omega) (by omega) hg (by omega) hl3 (by omega) (by omega)
    have cA1 := c_apply19 (givenR [67] [x]) c1
    have cA2 := c_apply19 (.mk 4 0 [] zTy [givenR [67] [x], c1] [] []) c2
    refine ⟨.mk 4 0 [] zTy [.mk 4 0 [] zTy [givenR [67] [x], c1] [] [], c2] [] [], l4, le2, 9 + 1 + m1 + 1 + m2 + 1, .app (.app (.tapp gx (by omega) (.con (by decide))) g1) g2, hl4, ⟨by omega, by omega, by omega⟩, ?_⟩
    refine impC (n := 374) tok Tryd.func48 rfl rfl rfl ?_
    refine awp_seq (ag [] rfl ?_)
    refine awp_seq (ag [] rfl ?_ (hc := by repeat (first | exact trivial | refine ⟨by first | rfl | omega | (simp [Ty.form, Ty.name, Ty.n]; omega) | (simp; done), ?_⟩)))
    refine awp_seq (awp_seq (agF 6 [] rfl rfl rfl ?_))
    refine awp_cond rfl (fun hb => absurd (by simpa using hb) hlf) (fun _ => ?_)
    refine awp_skip ?_
    refine awp_seq (awp_seq (awp_rg mixed ?_))
    refine ak 1 [] rfl ?_
    refine kc cN ?_
    refine az ?_
    refine awp_block (awp_seq (ag [] rfl ?_))
    refine awp_cond rfl (fun hb => absurd (by have := of_decide_eq_true hb; omega) hi0) (fun _ => ?_)
    refine awp_seq (ag [] rfl ?_)
    refine awp_cond rfl (fun hb => absurd (by have := of_decide_eq_true hb; omega) hi1) (fun _ => ?_)
    refine awp_seq (ag [] rfl ?_)
    refine awp_cond rfl (fun hb => absurd (by have := of_decide_eq_true hb; omega) hi2) (fun _ => ?_)
    refine awp_seq (ag [] rfl ?_)
    refine awp_cond rfl (fun hb => absurd (by have := of_decide_eq_true hb; omega) hi3) (fun _ => ?_)
    refine awp_seq (ag [] rfl ?_)
    refine awp_cond rfl (fun hb => absurd (by have := of_decide_eq_true hb; omega) hi4) (fun _ => ?_)
    refine awp_skip ?_
    refine awp_seq (awp_rg mixed ?_)
    refine ak 1 [] rfl ?_
    refine kc (cSp) ?_
    refine ak 6 [] rfl ?_
    refine az ?_
    refine awp_seq (awp_block (awp_seq (agF 4 [] rfl rfl rfl ?_)))
    refine awp_cond rfl (fun hb => absurd hb hI) (fun _ => ?_)
    refine awp_seq (agF 4 [] rfl rfl rfl ?_)
    refine awp_cond rfl (fun hb => absurd hb hB) (fun _ => ?_)
    refine awp_seq ?_
    refine awp_rg mixed ?_
    refine ak 15 [(3, .bv true), (7, .bv true), (8, .bv true), (12, .bv true)] rfl ?_
    refine kcG cJ ?_
    refine ak 3 [(17, .bv true)] rfl ?_
    refine az ?_
    refine awp_cond rfl (fun _ => ?_) (fun hb => absurd (of_decide_eq_false hb) (by omega))
    refine awp_seq (awp_rg mixed ?_)
    refine ak 1 [] rfl ?_
    refine kc (cG) ?_
    refine ak 3 [] rfl ?_
    refine kc (cM) ?_
    refine ak 3 [(7, .row 0 []), (8, .row 0 (encTy x))] rfl ?_
    refine kc (cS1) ?_
    refine kc (cA1) ?_
    refine ak 3 [] rfl ?_
    refine kc (cM) ?_
    refine ak 1 [] rfl ?_
    refine kc (cS2) ?_
    refine kc (cA2) ?_
    refine ak 1 [] rfl ?_
    refine az ?_
    exact awp_ret (rtC trw)
  by_cases hP : bb hd'.form hd'.name [80] = true ∧ L.length = 2
  · obtain ⟨x, y, rfl⟩ : ∃ x y, L = [x, y] := by
      match L, hP.2 with
      | [x, y], _ => exact ⟨x, y, rfl⟩
    obtain ⟨e3, e4⟩ := bb_true hP.1
    have d3 : decide (hd'.form = 3) = true := decide_eq_true e3
    have d4 : decide (hd'.name = [76]) = false := by rw [e4]; rfl
    obtain ⟨kx, mx, gx, ⟨ky, _, gy, _, hky⟩, hkx⟩ := hLg
    have cG := c_given19 [80] [x, y] (by simp)
    obtain ⟨c1, l3, le1, m1, g1, hl3, ⟨b1, b1', b1''⟩, cS1⟩ := hS (by omega) (moreV v [] t) x kx l1 (left - 1) hv1 (by omega) (by omega) gx (by omega) hl1 (by omega) (by omega)
    obtain ⟨c2, l4, le2, m2, g2, hl4, ⟨b2, b2', b2''⟩, cS2⟩ := hS (by omega) (moreV v [] t) y ky l3 le1 hv1 (by omega) (by omega) gy (by omega) hl3 (by omega) (by omega)
    have cA1 := c_apply19 (givenR [80] [x, y]) c1
    have cA2 := c_apply19 (.mk 4 0 [] zTy [givenR [80] [x, y], c1] [] []) c2
    refine ⟨.mk 4 0 [] zTy [.mk 4 0 [] zTy [givenR [80] [x, y], c1] [] [], c2] [] [], l4, le2, 9 + 1 + 1 + m1 + 1 + m2 + 1, .app (.app (.tapp gy (by omega) (.tapp gx (by omega) (.con (by decide)))) g1) g2, hl4, ⟨by omega, by omega, by omega⟩, ?_⟩
    refine impC (n := 374) tok Tryd.func48 rfl rfl rfl ?_
    refine awp_seq (ag [] rfl ?_)
    refine awp_seq (ag [] rfl ?_ (hc := by repeat (first | exact trivial | refine ⟨by first | rfl | omega | (simp [Ty.form, Ty.name, Ty.n]; omega) | (simp; done), ?_⟩)))
    refine awp_seq (awp_seq (agF 6 [] rfl rfl rfl ?_))
    refine awp_cond rfl (fun hb => absurd (by simpa using hb) hlf) (fun _ => ?_)
    refine awp_skip ?_
    refine awp_seq (awp_seq (awp_rg mixed ?_))
    refine ak 1 [] rfl ?_
    refine kc cN ?_
    refine az ?_
    refine awp_block (awp_seq (ag [] rfl ?_))
    refine awp_cond rfl (fun hb => absurd (by have := of_decide_eq_true hb; omega) hi0) (fun _ => ?_)
    refine awp_seq (ag [] rfl ?_)
    refine awp_cond rfl (fun hb => absurd (by have := of_decide_eq_true hb; omega) hi1) (fun _ => ?_)
    refine awp_seq (ag [] rfl ?_)
    refine awp_cond rfl (fun hb => absurd (by have := of_decide_eq_true hb; omega) hi2) (fun _ => ?_)
    refine awp_seq (ag [] rfl ?_)
    refine awp_cond rfl (fun hb => absurd (by have := of_decide_eq_true hb; omega) hi3) (fun _ => ?_)
    refine awp_seq (ag [] rfl ?_)
    refine awp_cond rfl (fun hb => absurd (by have := of_decide_eq_true hb; omega) hi4) (fun _ => ?_)
    refine awp_skip ?_
    refine awp_seq (awp_rg mixed ?_)
    refine ak 1 [] rfl ?_
    refine kc (cSp) ?_
    refine ak 6 [] rfl ?_
    refine az ?_
    refine awp_seq (awp_block (awp_seq (agF 4 [] rfl rfl rfl ?_)))
    refine awp_cond rfl (fun hb => absurd hb hI) (fun _ => ?_)
    refine awp_seq (agF 4 [] rfl rfl rfl ?_)
    refine awp_cond rfl (fun hb => absurd hb hB) (fun _ => ?_)
    refine awp_seq (ag [(3, .bv true), (7, .bv true), (8, .bv false), (12, .bv false)] rfl ?_)
    refine awp_cond rfl (fun hb => by cases hb) (fun _ => ?_)
    refine awp_seq (agF 4 [] rfl rfl rfl ?_)
    refine awp_cond rfl (fun _ => ?_) (fun hb => ?_)
    · refine awp_seq (awp_rg mixed ?_)
      refine ak 1 [] rfl ?_
      refine kc (cG) ?_
      refine ak 3 [] rfl ?_
      refine kc (cM) ?_
      refine ak 3 [(7, .row 0 []), (8, .row 0 (encTy x))] rfl ?_
      refine kc (cS1) ?_
      refine kc (cA1) ?_
      refine ak 3 [] rfl ?_
      refine kc (cM) ?_
      refine ak 3 [(16, .row 1 []), (17, .row 1 (encTy y))] rfl ?_
      refine kc (cS2) ?_
      refine kc (cA2) ?_
      refine ak 1 [] rfl ?_
      refine az ?_
      exact awp_ret (rtC trw)
    · exfalso
      simp [e3, e4] at hb
  rcases e_function hg with ⟨m1, m2, a, b, ga, gb, hnm, hte, cF⟩ | cF
  · obtain ⟨s, l3, hs, hl3, cNm⟩ := e_name l2 (left - 1) v hl2
    have hs6 : s ∈ nm6 := List.mem_append.2 (.inl hs)
    obtain ⟨hvs, cMs⟩ := more v s a m1 hv h0 (by omega) ga (by omega) (.inr hs6)
    have hds : (moreV v s a).deep = v.deep + 1 := rfl
    obtain ⟨c3, l4, le3, m3, g3, hl4, ⟨b3, b3', b3''⟩, cS3⟩ := hS (by omega) (moreV v s a) b m2 l3 (left - 1) hvs (by omega) (by omega) gb (by omega) hl3 (by omega) (by omega)
    refine ⟨.mk 5 0 s a [c3] [] [], l4, le3, m3 + 4, .lam hs6 ga (by omega) g3, hl4, ⟨by omega, by omega, by omega⟩, ?_⟩
    refine impC (n := 374) tok Tryd.func48 rfl rfl rfl ?_
    refine awp_seq (ag [] rfl ?_)
    refine awp_seq (ag [] rfl ?_ (hc := by repeat (first | exact trivial | refine ⟨by first | rfl | omega | (simp [Ty.form, Ty.name, Ty.n]; omega) | (simp; done), ?_⟩)))
    refine awp_seq (awp_seq (agF 6 [] rfl rfl rfl ?_))
    refine awp_cond rfl (fun hb => absurd (by simpa using hb) hlf) (fun _ => ?_)
    refine awp_skip ?_
    refine awp_seq (awp_seq (awp_rg mixed ?_))
    refine ak 1 [] rfl ?_
    refine kc cN ?_
    refine az ?_
    refine awp_block (awp_seq (ag [] rfl ?_))
    refine awp_cond rfl (fun hb => absurd (by have := of_decide_eq_true hb; omega) hi0) (fun _ => ?_)
    refine awp_seq (ag [] rfl ?_)
    refine awp_cond rfl (fun hb => absurd (by have := of_decide_eq_true hb; omega) hi1) (fun _ => ?_)
    refine awp_seq (ag [] rfl ?_)
    refine awp_cond rfl (fun hb => absurd (by have := of_decide_eq_true hb; omega) hi2) (fun _ => ?_)
    refine awp_seq (ag [] rfl ?_)
    refine awp_cond rfl (fun hb => absurd (by have := of_decide_eq_true hb; omega) hi3) (fun _ => ?_)
    refine awp_seq (ag [] rfl ?_)
    refine awp_cond rfl (fun hb => absurd (by have := of_decide_eq_true hb; omega) hi4) (fun _ => ?_)
    refine awp_skip ?_
    refine awp_seq (awp_rg mixed ?_)
    refine ak 1 [] rfl ?_
    refine kc (cSp) ?_
    refine ak 6 [] rfl ?_
    refine az ?_
    refine awp_seq (awp_block (awp_seq (agF 4 [] rfl rfl rfl ?_)))
    refine awp_cond rfl (fun hb => absurd hb hI) (fun _ => ?_)
    refine awp_seq (agF 4 [] rfl rfl rfl ?_)
    refine awp_cond rfl (fun hb => absurd hb hB) (fun _ => ?_)
    refine awp_seq (AWp.cut (mk [(0, .one (.vp 700 0)), (4, .one (.vp 4 0)), (5, .one (.vp 5 0)), (6, .one (.vp 6 0)), (21, .one (.vp 21 0)), (22, .one (.hs 510 0 L.length L.length)), (268, B false)] ([(4, .var 89 (vR v)), (5, .var 34 (tR t)), (6, .var 38 [.c (.int .i64 0), .c (.int .i64 0), .c (.str []), .c (.int .i64 0), .c (.int .i64 0), .c (.str []), .c .nl, .c .nl, .c .nl, .c .nl]), (21, .var 34 (tR hd')), (510, .arr 34 4 (L.map encTy) 2)] ++ mO l2 (left - 1))) ?_ ?_)
    · rcases hl12 with ⟨hX, j, hj0, cJ⟩ | ⟨hX, rfl⟩
      · obtain ⟨e3, e4⟩ := bb_true hX.1
        have d3 : decide (hd'.form = 3) = true := decide_eq_true e3
        have d4 : decide (hd'.name = [76]) = true := decide_eq_true e4
        have d5 : decide ((L.length : Int) = 1) = true := decide_eq_true (by rw [hX.2]; rfl)
        subst hj0
        refine awp_rg mixed ?_
        refine ak 15 [(3, .bv true), (7, .bv true), (8, .bv true), (12, .bv true), (13, .bv true)] rfl ?_
        refine kcG cJ ?_ (hw := d5)
        refine ak 3 [(13, .bv true), (17, .bv true)] rfl ?_
        refine az ?_
        exact sl
      · by_cases e3 : hd'.form = 3
        · have d3 : decide (hd'.form = 3) = true := decide_eq_true e3
          by_cases e4 : hd'.name = [76]
          · have d4 : decide (hd'.name = [76]) = true := decide_eq_true e4
            have e5 : ¬ L.length = 1 := fun h => hX ⟨by unfold bb; rw [d3, d4]; rfl, h⟩
            have d5 : decide ((L.length : Int) = 1) = false := decide_eq_false (by omega)
            exact ag [(3, .bv true), (7, .bv true), (8, .bv true), (12, .bv true), (13, .bv false), (17, .bv false)] rfl sl
          · have d4 : decide (hd'.name = [76]) = false := decide_eq_false e4
            exact ag [(3, .bv true), (7, .bv true), (8, .bv false), (12, .bv false)] rfl sl
        · have d3 : decide (hd'.form = 3) = false := decide_eq_false e3
          exact ag [(3, .bv false), (7, .bv false)] rfl sl
    refine awp_cond rfl (fun hb => by cases hb) (fun _ => ?_)
    refine awp_seq (agF 4 [] rfl rfl rfl ?_)
    refine awp_cond rfl (fun hb => absurd (bb_len hb) hP) (fun _ => ?_)
    refine awp_skip ?_
    refine awp_seq (awp_seq (awp_rg mixed ?_))
    refine ak 1 [] rfl ?_
    refine kc cF ?_
    refine az ?_
    refine awp_cond rfl (fun _ => ?_) (fun hb => by cases hb)
    subst hte
    refine awp_seq (awp_rg mixed ?_)
    refine ak 2 [] rfl ?_
    refine kc (cNm) ?_
    refine ak 1 [] rfl ?_
    refine az ?_
    refine awp_seq (awp_rg mixed ?_)
    refine ak 18 [(3, .row 0 (encTy (tapp (.mk 3 0 arrow []) a))), (6, .row 1 (encTy a)), (13, .row 0 (encTy (tapp (.mk 3 0 arrow []) a))), (16, .row 1 (encTy a))] rfl ?_
    refine kc (cMs) ?_
    refine ak 4 [(21, .row 1 (encTy b))] rfl ?_
    refine kc (cS3) ?_
    refine ak 3 [(24, .all)] rfl ?_
    refine az ?_
    exact awp_ret (rtC trw)
  · obtain ⟨c2, l5, m2, g2, hm2, hl5, cLf⟩ := e_leaf n n t (Nat.le_refl _) hg (by omega) v l2 (left - 1) hv (by omega) hl2
    refine ⟨c2, l5, left - 1, m2, g2, hl5, ⟨by omega, by omega, by omega⟩, ?_⟩
    refine impC (n := 374) tok Tryd.func48 rfl rfl rfl ?_
    refine awp_seq (ag [] rfl ?_)
    refine awp_seq (ag [] rfl ?_ (hc := by repeat (first | exact trivial | refine ⟨by first | rfl | omega | (simp [Ty.form, Ty.name, Ty.n]; omega) | (simp; done), ?_⟩)))
    refine awp_seq (awp_seq (agF 6 [] rfl rfl rfl ?_))
    refine awp_cond rfl (fun hb => absurd (by simpa using hb) hlf) (fun _ => ?_)
    refine awp_skip ?_
    refine awp_seq (awp_seq (awp_rg mixed ?_))
    refine ak 1 [] rfl ?_
    refine kc cN ?_
    refine az ?_
    refine awp_block (awp_seq (ag [] rfl ?_))
    refine awp_cond rfl (fun hb => absurd (by have := of_decide_eq_true hb; omega) hi0) (fun _ => ?_)
    refine awp_seq (ag [] rfl ?_)
    refine awp_cond rfl (fun hb => absurd (by have := of_decide_eq_true hb; omega) hi1) (fun _ => ?_)
    refine awp_seq (ag [] rfl ?_)
    refine awp_cond rfl (fun hb => absurd (by have := of_decide_eq_true hb; omega) hi2) (fun _ => ?_)
    refine awp_seq (ag [] rfl ?_)
    refine awp_cond rfl (fun hb => absurd (by have := of_decide_eq_true hb; omega) hi3) (fun _ => ?_)
    refine awp_seq (ag [] rfl ?_)
    refine awp_cond rfl (fun hb => absurd (by have := of_decide_eq_true hb; omega) hi4) (fun _ => ?_)
    refine awp_skip ?_
    refine awp_seq (awp_rg mixed ?_)
    refine ak 1 [] rfl ?_
    refine kc (cSp) ?_
    refine ak 6 [] rfl ?_
    refine az ?_
    refine awp_seq (awp_block (awp_seq (agF 4 [] rfl rfl rfl ?_)))
    refine awp_cond rfl (fun hb => absurd hb hI) (fun _ => ?_)
    refine awp_seq (agF 4 [] rfl rfl rfl ?_)
    refine awp_cond rfl (fun hb => absurd hb hB) (fun _ => ?_)
    refine awp_seq (AWp.cut (mk [(0, .one (.vp 700 0)), (4, .one (.vp 4 0)), (5, .one (.vp 5 0)), (6, .one (.vp 6 0)), (21, .one (.vp 21 0)), (22, .one (.hs 510 0 L.length L.length)), (268, B false)] ([(4, .var 89 (vR v)), (5, .var 34 (tR t)), (6, .var 38 [.c (.int .i64 0), .c (.int .i64 0), .c (.str []), .c (.int .i64 0), .c (.int .i64 0), .c (.str []), .c .nl, .c .nl, .c .nl, .c .nl]), (21, .var 34 (tR hd')), (510, .arr 34 4 (L.map encTy) 2)] ++ mO l2 (left - 1))) ?_ ?_)
    · rcases hl12 with ⟨hX, j, hj0, cJ⟩ | ⟨hX, rfl⟩
      · obtain ⟨e3, e4⟩ := bb_true hX.1
        have d3 : decide (hd'.form = 3) = true := decide_eq_true e3
        have d4 : decide (hd'.name = [76]) = true := decide_eq_true e4
        have d5 : decide ((L.length : Int) = 1) = true := decide_eq_true (by rw [hX.2]; rfl)
        subst hj0
        refine awp_rg mixed ?_
        refine ak 15 [(3, .bv true), (7, .bv true), (8, .bv true), (12, .bv true), (13, .bv true)] rfl ?_
        refine kcG cJ ?_ (hw := d5)
        refine ak 3 [(13, .bv true), (17, .bv true)] rfl ?_
        refine az ?_
        exact sl
      · by_cases e3 : hd'.form = 3
        · have d3 : decide (hd'.form = 3) = true := decide_eq_true e3
          by_cases e4 : hd'.name = [76]
          · have d4 : decide (hd'.name = [76]) = true := decide_eq_true e4
            have e5 : ¬ L.length = 1 := fun h => hX ⟨by unfold bb; rw [d3, d4]; rfl, h⟩
            have d5 : decide ((L.length : Int) = 1) = false := decide_eq_false (by omega)
            exact ag [(3, .bv true), (7, .bv true), (8, .bv true), (12, .bv true), (13, .bv false), (17, .bv false)] rfl sl
          · have d4 : decide (hd'.name = [76]) = false := decide_eq_false e4
            exact ag [(3, .bv true), (7, .bv true), (8, .bv false), (12, .bv false)] rfl sl
        · have d3 : decide (hd'.form = 3) = false := decide_eq_false e3
          exact ag [(3, .bv false), (7, .bv false)] rfl sl
    refine awp_cond rfl (fun hb => by cases hb) (fun _ => ?_)
    refine awp_seq (agF 4 [] rfl rfl rfl ?_)
    refine awp_cond rfl (fun hb => absurd (bb_len hb) hP) (fun _ => ?_)
    refine awp_skip ?_
    refine awp_seq (awp_seq (awp_rg mixed ?_))
    refine ak 1 [] rfl ?_
    refine kc cF ?_
    refine az ?_
    refine awp_cond rfl (fun hb => by cases hb) (fun _ => ?_)
    refine awp_skip ?_
    refine awp_seq (awp_rg mixed ?_)
    refine ak 3 [] rfl ?_
    refine kc (cLf) ?_
    refine ak 1 [] rfl ?_
    refine az ?_
    exact awp_ret (rtC trw)
end Go.Proofs.YtojcjjjpniimiaaDoor

/- CORE OF A TYPE, made of numbers (fugueref19.Typed). -/
namespace Go.Proofs.YtojcjjjpniimiaaDoor
open Go Go.AM
set_option maxRecDepth 20000
set_option maxHeartbeats 4000000

theorem e_some : ∀ F : Nat, SomeSpec F
  | 0 => by
    have := some_step (-1) (fun h => by omega)
    intro v t n l left hv hF hd hg hn hl hle hlo
    exact this v t n l left hv (by omega) hd hg hn hl hle hlo
  | F + 1 => some_step F fun _ => e_some F
theorem c_all19 (s : Str) (t : Ty) : ImpC Tryd.prog 49 [Go.AM.T s, tyV t] [] (tyV (.mk 5 0 s [t])) [] := by
  refine impC (n := 9) tok Tryd.func49 rfl rfl rfl ?_
  refine awp_seq (ag [] rfl ?_)
  refine awp_seq (ag [(2, .all)] rfl ?_)
  exact awp_ret (rtC trw)
/-- Core of a type, and the type. -/
theorem e_typed (l : List Int) (hl : Nums l) (hf : Fits l) : ∃ (c : Core) (t : Ty) (m : Nat), GC m c ∧ m ≤ 110000 ∧ ((∃ n, GT n t ∧ n ≤ 29) ∨ ∃ n u, GT n u ∧ n ≤ 33 ∧ t = .mk 5 0 [97] [u]) ∧
    ImpC Tryd.prog 18 [.one (.c (.sl 1 (l.map encI)))] [] (.tup [.pa (encCore c), tyV t]) [] := by
  have hl' : Nums (l.take 60) := fun x hx => hl x (List.mem_of_mem_take hx)
  have hf' : Fits (l.take 60) := by
    unfold Fits at *
    rw [List.length_take]
    omega
  have cI := c_ints l 60 hf (by omega)
  obtain ⟨t, l1, n, gt, hn, hl1, cT⟩ := e_typ [] (fun x hx => by cases hx) (by simp) 3 0 (by omega) (by omega) (l.take 60) 26 ⟨hl', hf'⟩
  have hn : n ≤ 29 := hn
  obtain ⟨i, l2, hi, hl2, cN⟩ := e_next l1 26 3 (by decide) hl1
  have hp : pos 26 = 25 := rfl
  by_cases h0 : i = 0
  · subst h0
    have gA : GT 1 (.mk 2 0 [97] []) := .var _ (by decide)
    have gF := gA.fn gt
    have cF := c_fun (.mk 2 0 [97] []) t
    obtain ⟨c, l3, le, m, gc, hl3, ⟨b1, b2, b3⟩, cS⟩ := e_some 7 ⟨[], [[97]], 0⟩ (tfun (.mk 2 0 [97] []) t) _ l2 26 ⟨fun x hx => (by cases hx), fun x hx => by rw [List.mem_singleton.1 hx]; decide, Int.le_refl _, by decide, by decide⟩ (by decide) (by decide) gF (by show _ ≤ 33 + 8 * (0 : Int); omega) hl2 (by decide) (by rw [hp]; decide)
    have hp2 : 0 ≤ pos le := by unfold pos; omega
    have cA := c_all19 [97] (tfun (.mk 2 0 [97] []) t)
    refine ⟨.mk 7 0 [97] zTy [c] [] [], _, m + 9, .tlam (by decide) gc, by omega, .inr ⟨_, _, gF, by omega, rfl⟩, ?_⟩
    refine impC (n := 35) tok Tryd.func18 rfl rfl rfl ?_
    refine awp_seq (ag [] rfl ?_)
    refine awp_seq (awp_rg mixed ?_)
    refine ak 1 [] rfl ?_
    refine kc cI ?_
    refine ak 3 [(3, .id 700)] rfl ?_
    refine az ?_
    refine awp_seq (awp_rg mixed ?_)
    refine ak 1 [] rfl ?_
    refine kc cT ?_
    refine ak 2 [] rfl ?_
    refine az ?_
    refine awp_seq (awp_seq (awp_rg mixed ?_))
    refine ak 1 [] rfl ?_
    refine kc cN ?_
    refine ak 1 [] rfl ?_
    refine az ?_
    refine awp_cond rfl (fun _ => ?_) (fun hb => by cases hb)
    refine awp_seq (awp_rg mixed ?_)
    refine ak 2 [] rfl ?_
    refine kc cF ?_
    refine ak 2 [] rfl ?_
    refine az ?_
    refine awp_seq (awp_rg mixed ?_)
    refine ak 4 [(1, .all)] rfl ?_
    refine kc cS ?_
    refine ak 2 [] rfl ?_
    refine az ?_
    refine awp_seq (awp_rg mixed ?_)
    refine ak 4 [(1, .all)] rfl ?_
    refine kc cA ?_
    refine ak 2 [] rfl ?_
    refine az ?_
    refine awp_ret ?_
    exact ⟨.inr rfl, ⟨_, _, .cell rfl (tg rfl) rfl rfl rfl (.cell rfl (tg rfl) rfl rfl rfl .nil), .cons (.pa (.c .refl (.c .refl (.c .refl (.c .refl (.c .refl (.c .refl (.c .nl (.c .refl (.c .nl (.c .nl .nil))))))))))) (.cons .refl .nil), rfl⟩, trivial, rfl⟩
  · obtain ⟨c, l3, le, m, gc, hl3, ⟨b1, b2, b3⟩, cS⟩ := e_some 7 ⟨[], [], 0⟩ t n l2 26 ⟨fun x hx => (by cases hx), fun x hx => (by cases hx), Int.le_refl _, by decide, by decide⟩ (by decide) (by decide) gt (by show _ ≤ 33 + 8 * (0 : Int); omega) hl2 (by decide) (by rw [hp]; decide)
    have hp2 : 0 ≤ pos le := by unfold pos; omega
    refine ⟨c, t, m, gc, by omega, .inl ⟨n, gt, hn⟩, ?_⟩
    refine impC (n := 35) tok Tryd.func18 rfl rfl rfl ?_
    refine awp_seq (ag [] rfl ?_)
    refine awp_seq (awp_rg mixed ?_)
    refine ak 1 [] rfl ?_
    refine kc cI ?_
    refine ak 3 [(3, .id 700)] rfl ?_
    refine az ?_
    refine awp_seq (awp_rg mixed ?_)
    refine ak 1 [] rfl ?_
    refine kc cT ?_
    refine ak 2 [] rfl ?_
    refine az ?_
    refine awp_seq (awp_seq (awp_rg mixed ?_))
    refine ak 1 [] rfl ?_
    refine kc cN ?_
    refine ak 1 [] rfl ?_
    refine az ?_
    refine awp_cond rfl (fun hb => absurd (by have := of_decide_eq_true hb; omega) h0) (fun _ => ?_)
    refine awp_skip ?_
    refine awp_seq (awp_rg mixed ?_)
    refine ak 3 [] rfl ?_
    refine kc cS ?_
    refine ak 3 [] rfl ?_
    refine az ?_
    refine awp_ret ?_
    exact ⟨.inr rfl, ⟨_, _, .cell rfl (tg rfl) rfl rfl rfl (.cell rfl (tg rfl) rfl rfl rfl .nil), .cons .refl (.cons .refl .nil), rfl⟩, trivial, rfl⟩
end Go.Proofs.YtojcjjjpniimiaaDoor
