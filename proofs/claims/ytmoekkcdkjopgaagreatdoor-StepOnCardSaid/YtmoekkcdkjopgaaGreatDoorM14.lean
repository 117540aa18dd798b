/-
  The law StepOn holds: whatever its arguments, the call returns true; the row and its card.
-/
import Derived.Test.YtmoekkcdkjopgaaGreatDoorM13
import Derived.Test.YtmoekkcdkjopgaaGreatDoorCards
import Derived.Test.YtmoekkcdkjopgaaGreatDoorTie
import Derived.ProofKit
import Derived.Lib.LaidTab
import Derived.Stop.LaidErr
import Derived.OpenShut
import Derived.LaidMore
import Derived.Lay
import Derived.SevenTiedAt
import Derived.Stop.Joined
open List (all_eq_true append_nil cons_append length_append length_cons length_eq_one_iff length_map length_nil length_take length_zip map_append map_cons map_map map_nil mem_append mem_cons mem_cons_of_mem mem_cons_self mem_map mem_of_mem_take mem_singleton nil_append not_mem_nil sum_cons sum_nil take_length take_succ_cons)
open Nat (le_mul_of_pos_right le_refl le_succ sub_zero zero_le)
namespace Go.Proofs.YtmoekkcdkjopgaaGreatDoor
open Go Go.AM
set_option maxRecDepth 20000
set_option maxHeartbeats 4000000
theorem xS (F : Int) (hS : 0 ≤ F → qJ F) : qJ (F + 1) := by
 intro v t n l left hv hF hd hg hn hl hle hlo;have hM : 1000000000 ≤ maxLen := by decide
 have h0 := hv.d0;have hlen := hv.len;have hvlen := hv.vlen;have hp0 : 0 ≤ pos left := by unfold pos; omega
 by_cases hlf : left - 1 < 1 ∨ 6 < v.deep
 ·obtain ⟨c, l', m, gc, hm, hl', cL⟩ := aE0 n n t (le_refl _) hg (by omega) v l (left - 1) hv (by omega) hl;have hp1 : pos (left - 1) ≤ pos left ∧ pos left ≤ pos (left - 1) + 1 := by unfold pos; omega
  refine ⟨c, l', left - 1, m, gc, hl', ⟨by omega, by unfold pos at *; omega, by omega⟩, ?_⟩;refine bT (n := 374) tok Tryz.func39 rfl rfl rfl ?_;refine a8 (ag [] rfl ?_);refine a8 (ag [] rfl ?_ (hc := by repeat (first | exact trivial | refine ⟨by first | rfl | omega | (simp; omega) | (unfold Ty.name; simp; omega) | (simp; done), ?_⟩)));refine a8 (a8 (agF 6 [] rfl rfl rfl ?_));refine aA rfl (fun _ => ?_) (fun hb => absurd hlf (by simpa using hb));refine a8 (aE mixed ?_);refine ak 3 [] rfl ?_;refine kc cL ?_;refine ak 1 [] rfl ?_;refine az ?_;exact aI (rtC trw)
 have hF0 : 0 ≤ F := by omega
 have hps : pos (left - 1) = pos left - 1 := by unfold pos; omega
 have hp1 : 0 ≤ pos (left - 1) := by unfold pos; omega
 have more : ∀ (v : Gv) (s : Str) (u : Ty) (k : Nat), Gok v → 0 ≤ v.deep → v.deep ≤ 8 → GT k u → k ≤ 100 → (s = [] ∨ s ∈ nm6) → Gok (dP v s u) ∧ aU Tryz.prog 90 [.pa (wO v), Go.AM.T s, tyV u] [] (.pa (wO (dP v s u))) [] := fun v s u k h h0 h8 hu hk hs => by
  have := h.len;exact ⟨h.more hs hu hk, wV v s u (by omega) ⟨h0, by omega⟩⟩
 obtain ⟨hv1, cM⟩ := more v [] t n hv h0 (by omega) hg (by omega) (.inl rfl);have hd1 : (dP v [] t).deep = v.deep + 1 := rfl;obtain ⟨i, l1, hi, hl1, cN⟩ := j1 l (left - 1) 12 (by decide) hl;by_cases hi0 : i = 0
 ·obtain ⟨u, l2, k, gu, hk, hl2, cU⟩ := wQ v.vars hv.vars (by omega) 2 1 (by omega) (by omega) l1 (left - 1) hl1;have hk : k ≤ 13 := hk;obtain ⟨s, l3, hs, hl3, cNm⟩ := aEz l2 (left - 1) v hl2;have hs6 : s ∈ nm6 := mem_append.2 (.inl hs);obtain ⟨hvs, cMs⟩ := more v s u k hv h0 (by omega) gu (by omega) (.inr hs6);have hds : (dP v s u).deep = v.deep + 1 := rfl;obtain ⟨c1, l4, le1, m1, g1, hl4, ⟨b1, b1', b1''⟩, cS1⟩ := hS (by omega) (dP v s u) t n l3 (left - 1) hvs (by omega) (by omega) hg (by omega) hl3 (by omega) (by omega);obtain ⟨c2, l5, le2, m2, g2, hl5, ⟨b2, b2', b2''⟩, cS2⟩ := hS (by omega) (dP v [] t) u k l4 le1 hv1 (by omega) (by omega) gu (by omega) hl4 (by omega) (by omega);have cA := fY (.mk 5 0 s u [c1] [] []) c2;refine ⟨.mk 4 0 [] zTy [.mk 5 0 s u [c1] [] [], c2] [] [], l5, le2, m1 + 4 + m2 + 1, .app (.lam hs6 gu (by omega) g1) g2, hl5, ⟨by omega, by omega, by omega⟩, ?_⟩;refine bT (n := 374) tok Tryz.func39 rfl rfl rfl ?_;refine a8 (ag [] rfl ?_);refine a8 (ag [] rfl ?_ (hc := by repeat (first | exact trivial | refine ⟨by first | rfl | omega | (simp; omega) | (unfold Ty.name; simp; omega) | (simp; done), ?_⟩)));refine a8 (a8 (agF 6 [] rfl rfl rfl ?_));refine aA rfl (fun hb => absurd (by simpa using hb) hlf) (fun _ => ?_);refine aD ?_;refine a8 (a8 (aE mixed ?_));refine ak 1 [] rfl ?_;refine kc cN ?_;refine az ?_;refine aB (a8 (ag [] rfl ?_));refine aA rfl (fun _ => ?_) (fun hb => absurd (of_decide_eq_false hb) (by omega));refine a8 (aE mixed ?_);refine ak 3 [] rfl ?_;refine kc (cU) ?_;refine ak 2 [] rfl ?_;refine az ?_;refine a8 (aE mixed ?_);refine ak 2 [] rfl ?_;refine kc (cNm) ?_;refine ak 1 [] rfl ?_;refine az ?_;refine a8 (aE mixed ?_);refine ak 6 [] rfl ?_;refine kc (cMs) ?_;refine ak 1 [] rfl ?_;refine kc (cS1) ?_;refine ak 4 [(9, .all)] rfl ?_;refine az ?_;refine AWp.sub (vp 9 (aC (.mk 5 0 s u [c1] [] []))) ?_;refine a8 (aE mixed ?_);refine ak 4 [] rfl ?_;refine kc (cM) ?_;refine ak 1 [] rfl ?_;refine kc (cS2) ?_;refine kc (cA) ?_;refine ak 1 [] rfl ?_;refine az ?_;exact aI (rtC trw)
 by_cases hi1 : i = 1
 ·obtain ⟨u, l2, k, gu, hk, hl2, cU⟩ := wQ v.vars hv.vars (by omega) 2 1 (by omega) (by omega) l1 (left - 1) hl1;have hk : k ≤ 13 := hk;obtain ⟨s, l3, hs, hl3, cNm⟩ := aEz l2 (left - 1) v hl2;have hs6 : s ∈ nm6 := mem_append.2 (.inl hs);obtain ⟨hvs, cMs⟩ := more v s u k hv h0 (by omega) gu (by omega) (.inr hs6);have hds : (dP v s u).deep = v.deep + 1 := rfl;obtain ⟨c1, l4, le1, m1, g1, hl4, ⟨b1, b1', b1''⟩, cS1⟩ := hS (by omega) (dP v s u) u k l3 (left - 1) hvs (by omega) (by omega) gu (by omega) hl3 (by omega) (by omega);obtain ⟨c2, l5, le2, m2, g2, hl5, ⟨b2, b2', b2''⟩, cS2⟩ := hS (by omega) (dP v s u) t n l4 le1 hvs (by omega) (by omega) hg (by omega) hl4 (by omega) (by omega);refine ⟨.mk 8 0 [] zTy [c2] [.mk s u c1] [], l5, le2, m2 + m1 + 5, .lt hs6 gu (by omega) g2 g1, hl5, ⟨by omega, by omega, by omega⟩, ?_⟩;refine bT (n := 374) tok Tryz.func39 rfl rfl rfl ?_;refine a8 (ag [] rfl ?_);refine a8 (ag [] rfl ?_ (hc := by repeat (first | exact trivial | refine ⟨by first | rfl | omega | (simp; omega) | (unfold Ty.name; simp; omega) | (simp; done), ?_⟩)));refine a8 (a8 (agF 6 [] rfl rfl rfl ?_));refine aA rfl (fun hb => absurd (by simpa using hb) hlf) (fun _ => ?_);refine aD ?_;refine a8 (a8 (aE mixed ?_));refine ak 1 [] rfl ?_;refine kc cN ?_;refine az ?_;refine aB (a8 (ag [] rfl ?_));refine aA rfl (fun hb => absurd (by have := of_decide_eq_true hb; omega) hi0) (fun _ => ?_);refine a8 (ag [] rfl ?_);refine aA rfl (fun _ => ?_) (fun hb => absurd (of_decide_eq_false hb) (by omega));refine a8 (aE mixed ?_);refine ak 3 [] rfl ?_;refine kc (cU) ?_;refine ak 2 [] rfl ?_;refine az ?_;refine a8 (aE mixed ?_);refine ak 2 [] rfl ?_;refine kc (cNm) ?_;refine ak 1 [] rfl ?_;refine az ?_;refine a8 (aE mixed ?_);refine ak 3 [] rfl ?_;refine kc (cMs) ?_;refine ak 2 [] rfl ?_;refine az ?_;refine a8 (aE mixed ?_);refine ak 3 [] rfl ?_;refine kc (cS1) ?_;refine ak 2 [] rfl ?_;refine az ?_;refine a8 (aE mixed ?_);refine ak 8 [(4, .all)] rfl ?_;refine kc (cS2) ?_;refine ak 3 [(9, .all)] rfl ?_;refine az ?_;exact aI (rtC trw)
 by_cases hi2 : i = 2
 ·obtain ⟨c1, l2, le1, m1, g1, hl2, ⟨b1, b1', b1''⟩, cC⟩ := aSq F (hS (by omega)) v t n l1 (left - 1) hv (by omega) (by omega) hg (by omega) hl1 (by omega) (by omega);refine ⟨c1, l2, le1, m1, g1, hl2, ⟨by omega, by omega, by omega⟩, ?_⟩;refine bT (n := 374) tok Tryz.func39 rfl rfl rfl ?_;refine a8 (ag [] rfl ?_);refine a8 (ag [] rfl ?_ (hc := by repeat (first | exact trivial | refine ⟨by first | rfl | omega | (simp; omega) | (unfold Ty.name; simp; omega) | (simp; done), ?_⟩)));refine a8 (a8 (agF 6 [] rfl rfl rfl ?_));refine aA rfl (fun hb => absurd (by simpa using hb) hlf) (fun _ => ?_);refine aD ?_;refine a8 (a8 (aE mixed ?_));refine ak 1 [] rfl ?_;refine kc cN ?_;refine az ?_;refine aB (a8 (ag [] rfl ?_));refine aA rfl (fun hb => absurd (by have := of_decide_eq_true hb; omega) hi0) (fun _ => ?_);refine a8 (ag [] rfl ?_);refine aA rfl (fun hb => absurd (by have := of_decide_eq_true hb; omega) hi1) (fun _ => ?_);refine a8 (ag [] rfl ?_);refine aA rfl (fun _ => ?_) (fun hb => absurd (of_decide_eq_false hb) (by omega));refine a8 (aE mixed ?_);refine ak 3 [] rfl ?_;refine kc (cC) ?_;refine ak 1 [] rfl ?_;refine az ?_;exact aI (rtC trw)
 by_cases hi3 : i = 3
 ·obtain ⟨u, l2, k, gu, hk, hl2, cU⟩ := wQ v.vars hv.vars (by omega) 2 1 (by omega) (by omega) l1 (left - 1) hl1;have hk : k ≤ 13 := hk;obtain ⟨j, l3, hj, hl3, cJ⟩ := j1 l2 (left - 1) 3 (by decide) hl2;have hj : j < 3 := by omega
  obtain ⟨s, hs⟩ : ∃ s, ([[97], [98], [99]] : List Str)[j]? = some s := aK (by simpa using hj);have hs' := bQ bN hs;have hs1 : s.length = 1 := by
   have : j = 0 ∨ j = 1 ∨ j = 2 := by omega
   rcases this with rfl | rfl | rfl <;> (simp at hs; subst hs; rfl)
  have hs8 : s ++ [39] ∈ tvN := by
   have : j = 0 ∨ j = 1 ∨ j = 2 := by omega
   rcases this with rfl | rfl | rfl <;> (simp at hs; subst hs; decide)
  have gX : GT 1 (.mk 2 0 (s ++ [39]) []) := .var _ hs8
  have hvi : Gok ⟨v.l, v.vars ++ [s ++ [39]], v.deep + 1⟩ := ⟨hv.all, fun x hx => by
   rcases mem_append.1 hx with hx | hx
   ·exact hv.vars x hx
   ·rw [mem_singleton.1 hx]; exact hs8, by show 0 ≤ v.deep + 1; omega, by show (v.l.length : Int) ≤ v.deep + 1; omega, by show ((v.vars ++ [s ++ [39]]).length : Int) ≤ v.deep + 1 + 1; rw [length_append]; simp only [length_cons, length_nil]; omega⟩
  obtain ⟨hvp, cP⟩ := more ⟨v.l, v.vars ++ [s ++ [39]], v.deep + 1⟩ [112] _ 1 hvi (by show 0 ≤ v.deep + 1; omega) (by show v.deep + 1 ≤ 8; omega) gX (by omega) (.inr (by decide));have hdp : (dP ⟨v.l, v.vars ++ [s ++ [39]], v.deep + 1⟩ [112] (.mk 2 0 (s ++ [39]) [])).deep = v.deep + 1 + 1 := rfl;obtain ⟨c1, l4, le1, m1, g1, hl4, ⟨b1, b1', b1''⟩, cS1⟩ := hS (by omega) _ t n l3 (left - 1) hvp (by omega) (by omega) hg (by omega) hl3 (by omega) (by omega);have cH := aWw v.vars (s ++ [39]) (by unfold Fits; omega);have head : ∀ (c : Core) (l' : List Int) (le' : Int), (s ++ [39] ∈ v.vars → aU Tryz.prog 88 [.one (.vp 700 0), .pa (wO v), tyV t] (mO l4 le1) (.pa (aC c)) (mO l' le')) →
    (¬ s ++ [39] ∈ v.vars → ∃ c2 : Core, c = .mk 4 0 [] zTy [.mk 6 0 [] u [.mk 7 0 (s ++ [39]) zTy [.mk 5 0 [112] (.mk 2 0 (s ++ [39]) []) [c1] [] []] [] []] [] [], c2] [] [] ∧ aU Tryz.prog 39 [.one (.vp 700 0), .pa (wO (dP v [] t)), tyV u] (mO l4 le1) (.pa (aC c2)) (mO l' le')) →
    aU Tryz.prog 39 [.one (.vp 700 0), .pa (wO v), tyV t] (mO l left) (.pa (aC c)) (mO l' le') := by
   intro c l' le' hA hB;refine bT (n := 374) tok Tryz.func39 rfl rfl rfl ?_;refine a8 (ag [] rfl ?_);refine a8 (ag [] rfl ?_ (hc := by repeat (first | exact trivial | refine ⟨by first | rfl | omega | (simp; omega) | (unfold Ty.name; simp; omega) | (simp; done), ?_⟩)));refine a8 (a8 (agF 6 [] rfl rfl rfl ?_));refine aA rfl (fun hb => absurd (by simpa using hb) hlf) (fun _ => ?_);refine aD ?_;refine a8 (a8 (aE mixed ?_));refine ak 1 [] rfl ?_;refine kc cN ?_;refine az ?_;refine aB (a8 (ag [] rfl ?_));refine aA rfl (fun hb => absurd (by have := of_decide_eq_true hb; omega) hi0) (fun _ => ?_);refine a8 (ag [] rfl ?_);refine aA rfl (fun hb => absurd (by have := of_decide_eq_true hb; omega) hi1) (fun _ => ?_);refine a8 (ag [] rfl ?_);refine aA rfl (fun hb => absurd (by have := of_decide_eq_true hb; omega) hi2) (fun _ => ?_);refine a8 (ag [] rfl ?_);refine aA rfl (fun _ => ?_) (fun hb => absurd (of_decide_eq_false hb) (by omega));refine a8 (aE mixed ?_);refine ak 3 [] rfl ?_;refine kc (cU) ?_;refine ak 2 [] rfl ?_;refine az ?_;refine a8 (aE mixed ?_);refine ak 2 [] rfl ?_;refine kc (cJ) ?_;refine ak 3 [(3, .row j []), (4, .row j (bN s))] rfl ?_;refine az ?_;refine a8 (ag [] rfl ?_ (hc := by repeat (first | exact trivial | refine ⟨by first | rfl | omega | (simp; omega) | (unfold Ty.name; simp; omega) | (simp; done), ?_⟩)));refine a8 (ag [(4, .all)] rfl ?_);refine a8 (ag [] rfl ?_ (hc := by repeat (first | exact trivial | refine ⟨by first | rfl | omega | (simp; omega) | (unfold Ty.name; simp; omega) | (simp; done), ?_⟩)));refine a8 (ag [] rfl ?_ (hc := by repeat (first | exact trivial | refine ⟨by first | rfl | omega | (simp; omega) | (unfold Ty.name; simp; omega) | (simp; done), ?_⟩)));refine AWp.sub (Sub.freeze (id := 132) rfl) ?_;rw [show v.vars.map bN ++ [[C.str (s ++ [39])]] = (v.vars ++ [s ++ [39]]).map bN by rw [map_append]; rfl];refine AWp.sub (vp 16 (wO ⟨v.l, v.vars ++ [s ++ [39]], v.deep + 1⟩) (hp := .c .refl (.hs rfl (by simp) (Go.AM.take_all (by simp)) (.c .refl .nil)))) ?_;refine AWp.sub (vp 17 (bD (.mk 2 0 (s ++ [39]) []))) ?_;refine a8 (aE mixed ?_);refine ak 4 [] rfl ?_;refine kc (cP) ?_;refine ak 1 [] rfl ?_;refine kc (cS1) ?_;refine ak 4 [(7, .all)] rfl ?_;refine az ?_;refine AWp.sub (vp 18 (aC (.mk 5 0 [112] (.mk 2 0 (s ++ [39]) []) [c1] [] []))) ?_;refine a8 (a8 (aE mixed ?_));refine ak 4 [] rfl ?_ (hc := by repeat (first | exact trivial | refine ⟨by first | rfl | omega | (simp; omega) | (unfold Ty.name; simp; omega) | (simp; done), ?_⟩));refine kc cH ?_;refine az ?_;refine aA rfl (fun hb => ?_) (fun hb => ?_)
   ·have cLf := hA (of_decide_eq_true hb);refine a8 (aE mixed ?_);refine ak 3 [] rfl ?_;refine kc (cLf) ?_;refine ak 1 [] rfl ?_;refine az ?_;exact aI (rtC trw)
   obtain ⟨c2, rfl, cS2⟩ := hB (of_decide_eq_false hb);have cA := fY (.mk 6 0 [] u [.mk 7 0 (s ++ [39]) zTy [.mk 5 0 [112] (.mk 2 0 (s ++ [39]) []) [c1] [] []] [] []] [] []) c2;refine aD ?_;refine a8 (ag [(3, .all)] rfl ?_ (hc := by repeat (first | exact trivial | refine ⟨by first | rfl | omega | (simp; omega) | (unfold Ty.name; simp; omega) | (simp; done), ?_⟩)));refine AWp.sub (vp 19 (aC (.mk 7 0 (s ++ [39]) zTy [.mk 5 0 [112] (.mk 2 0 (s ++ [39]) []) [c1] [] []] [] []))) ?_;refine a8 (aE mixed ?_);refine ak 7 [(2, .all)] rfl ?_;refine kc (cM) ?_;refine ak 1 [] rfl ?_;refine kc (cS2) ?_;refine kc (cA) ?_;refine ak 1 [] rfl ?_;refine az ?_;exact aI (rtC trw)
  by_cases hH : s ++ [39] ∈ v.vars
  ·obtain ⟨c2, l5, m2, g2, hm2, hl5, cLf⟩ := aE0 n n t (le_refl _) hg (by omega) v l4 le1 hv (by omega) hl4;exact ⟨c2, l5, le1, m2, g2, hl5, ⟨by omega, by omega, by omega⟩, head _ _ _ (fun _ => cLf) (fun h => absurd hH h)⟩
  ·obtain ⟨c2, l5, le2, m2, g2, hl5, ⟨b2, b2', b2''⟩, cS2⟩ := hS (by omega) (dP v [] t) u k l4 le1 hv1 (by omega) (by omega) gu (by omega) hl4 (by omega) (by omega);exact ⟨_, l5, le2, m1 + 4 + 20 + 1 + m2 + 1, .app (.tapp gu (by omega) (.tlam hs8 (.lam (by decide) gX (by omega) g1))) g2, hl5, ⟨by omega, by omega, by omega⟩, head _ _ _ (fun h => absurd h hH) (fun _ => ⟨c2, rfl, cS2⟩)⟩
 by_cases hi4 : i = 4
 ·obtain ⟨u, l2, k, gu, hk, hl2, cU⟩ := wQ v.vars hv.vars (by omega) 1 2 (by omega) (by omega) l1 (left - 1) hl1;have hk : k ≤ 5 := hk;have gF : GT (k + n + 3) (i7 u t) := gu.fn hg;have cFn := rU u t;obtain ⟨c1, l3, le1, m1, g1, hl3, ⟨b1, b1', b1''⟩, cS1⟩ := hS (by omega) (dP v [] t) (i7 u t) (k + n + 3) l2 (left - 1) hv1 (by omega) (by omega) gF (by omega) hl2 (by omega) (by omega);obtain ⟨c2, l4, le2, m2, g2, hl4, ⟨b2, b2', b2''⟩, cS2⟩ := hS (by omega) (dP v [] t) u k l3 le1 hv1 (by omega) (by omega) gu (by omega) hl3 (by omega) (by omega);have cA := fY c1 c2;refine ⟨.mk 4 0 [] zTy [c1, c2] [] [], l4, le2, m1 + m2 + 1, .app g1 g2, hl4, ⟨by omega, by omega, by omega⟩, ?_⟩;refine bT (n := 374) tok Tryz.func39 rfl rfl rfl ?_;refine a8 (ag [] rfl ?_);refine a8 (ag [] rfl ?_ (hc := by repeat (first | exact trivial | refine ⟨by first | rfl | omega | (simp; omega) | (unfold Ty.name; simp; omega) | (simp; done), ?_⟩)));refine a8 (a8 (agF 6 [] rfl rfl rfl ?_));refine aA rfl (fun hb => absurd (by simpa using hb) hlf) (fun _ => ?_);refine aD ?_;refine a8 (a8 (aE mixed ?_));refine ak 1 [] rfl ?_;refine kc cN ?_;refine az ?_;refine aB (a8 (ag [] rfl ?_));refine aA rfl (fun hb => absurd (by have := of_decide_eq_true hb; omega) hi0) (fun _ => ?_);refine a8 (ag [] rfl ?_);refine aA rfl (fun hb => absurd (by have := of_decide_eq_true hb; omega) hi1) (fun _ => ?_);refine a8 (ag [] rfl ?_);refine aA rfl (fun hb => absurd (by have := of_decide_eq_true hb; omega) hi2) (fun _ => ?_);refine a8 (ag [] rfl ?_);refine aA rfl (fun hb => absurd (by have := of_decide_eq_true hb; omega) hi3) (fun _ => ?_);refine a8 (ag [] rfl ?_);refine aA rfl (fun _ => ?_) (fun hb => absurd (of_decide_eq_false hb) (by omega));refine a8 (aE mixed ?_);refine ak 3 [] rfl ?_;refine kc (cU) ?_;refine ak 1 [] rfl ?_;refine kc (cFn) ?_;refine ak 2 [] rfl ?_;refine az ?_;refine a8 (aE mixed ?_);refine ak 3 [] rfl ?_;refine kc (cM) ?_;refine ak 1 [] rfl ?_;refine kc (cS1) ?_;refine ak 3 [] rfl ?_;refine kc (cM) ?_;refine ak 7 [(12, .row 0 (bD (tapp (.mk 3 0 arrow []) u))), (15, .row 1 (bD u))] rfl ?_;refine kc (cS2) ?_;refine kc (cA) ?_;refine ak 1 [] rfl ?_;refine az ?_;exact aI (rtC trw)
 obtain ⟨hd', L, hLg, hLn, cSp⟩ := aKv hg (by omega);by_cases hI : bb hd'.form hd'.name [73, 110, 116] = true
 ·obtain ⟨j, l2, hj, hl2, cJ⟩ := j1 l1 (left - 1) 4 (by decide) hl1;have hj : j < 4 := by omega
  obtain ⟨s, hs⟩ : ∃ s, ([[97, 100, 100], [115, 117, 98], [109, 117, 108], [100, 105, 118]] : List Str)[j]? = some s := aK (by simpa using hj);have hs' := bQ bN hs;have hsp : s ∈ r6 := by
   have : j = 0 ∨ j = 1 ∨ j = 2 ∨ j = 3 := by omega
   rcases this with rfl | rfl | rfl | rfl <;> (simp at hs; subst hs; decide)
  obtain ⟨c1, l3, le1, m1, g1, hl3, ⟨b1, b1', b1''⟩, cS1⟩ := hS (by omega) (dP v [] t) t n l2 (left - 1) hv1 (by omega) (by omega) hg (by omega) hl2 (by omega) (by omega);obtain ⟨c2, l4, le2, m2, g2, hl4, ⟨b2, b2', b2''⟩, cS2⟩ := hS (by omega) (dP v [] t) t n l3 le1 hv1 (by omega) (by omega) hg (by omega) hl3 (by omega) (by omega);refine ⟨.mk 10 0 s zTy [c1, c2] [] [], l4, le2, m1 + m2 + 5, .prim hsp g1 g2, hl4, ⟨by omega, by omega, by omega⟩, ?_⟩;refine bT (n := 374) tok Tryz.func39 rfl rfl rfl ?_;refine a8 (ag [] rfl ?_);refine a8 (ag [] rfl ?_ (hc := by repeat (first | exact trivial | refine ⟨by first | rfl | omega | (simp; omega) | (unfold Ty.name; simp; omega) | (simp; done), ?_⟩)));refine a8 (a8 (agF 6 [] rfl rfl rfl ?_));refine aA rfl (fun hb => absurd (by simpa using hb) hlf) (fun _ => ?_);refine aD ?_;refine a8 (a8 (aE mixed ?_));refine ak 1 [] rfl ?_;refine kc cN ?_;refine az ?_;refine aB (a8 (ag [] rfl ?_));refine aA rfl (fun hb => absurd (by have := of_decide_eq_true hb; omega) hi0) (fun _ => ?_);refine a8 (ag [] rfl ?_);refine aA rfl (fun hb => absurd (by have := of_decide_eq_true hb; omega) hi1) (fun _ => ?_);refine a8 (ag [] rfl ?_);refine aA rfl (fun hb => absurd (by have := of_decide_eq_true hb; omega) hi2) (fun _ => ?_);refine a8 (ag [] rfl ?_);refine aA rfl (fun hb => absurd (by have := of_decide_eq_true hb; omega) hi3) (fun _ => ?_);refine a8 (ag [] rfl ?_);refine aA rfl (fun hb => absurd (by have := of_decide_eq_true hb; omega) hi4) (fun _ => ?_);refine aD ?_;refine a8 (aE mixed ?_);refine ak 1 [] rfl ?_;refine kc (cSp) ?_;refine ak 6 [] rfl ?_;refine az ?_;refine a8 (aB (a8 (agF 4 [] rfl rfl rfl ?_)));refine aA rfl (fun _ => ?_) (fun hb => by have := hI.symm.trans hb; cases this);refine a8 (aE mixed ?_);refine ak 2 [] rfl ?_;refine kc (cJ) ?_;refine ak 3 [(3, .row j []), (4, .row j (bN s))] rfl ?_;refine az ?_;refine a8 (aE mixed ?_);refine ak 4 [] rfl ?_;refine kc (cM) ?_;refine ak 1 [] rfl ?_;refine kc (cS1) ?_;refine ak 3 [] rfl ?_;refine kc (cM) ?_;refine ak 1 [] rfl ?_;refine kc (cS2) ?_;refine ak 3 [(13, .all)] rfl ?_;refine az ?_;exact aI (rtC trw)
 by_cases hB : bb hd'.form hd'.name [66, 111, 111, 108] = true
 ·obtain ⟨j, l2, hj, hl2, cJ⟩ := j1 l1 (left - 1) 2 (by decide) hl1;have hj : j < 2 := by omega
  obtain ⟨s, hs⟩ : ∃ s, ([[101, 113], [108, 116]] : List Str)[j]? = some s := aK (by simpa using hj);have hs' := bQ bN hs;have hsp : s ∈ r6 := by
   have : j = 0 ∨ j = 1 := by omega
   rcases this with rfl | rfl <;> (simp at hs; subst hs; decide)
  have gI : GT 1 uZ := .con _ (by decide);obtain ⟨c1, l3, le1, m1, g1, hl3, ⟨b1, b1', b1''⟩, cS1⟩ := hS (by omega) (dP v [] t) uZ 1 l2 (left - 1) hv1 (by omega) (by omega) gI (by omega) hl2 (by omega) (by omega);obtain ⟨c2, l4, le2, m2, g2, hl4, ⟨b2, b2', b2''⟩, cS2⟩ := hS (by omega) (dP v [] t) uZ 1 l3 le1 hv1 (by omega) (by omega) gI (by omega) hl3 (by omega) (by omega);refine ⟨.mk 10 0 s zTy [c1, c2] [] [], l4, le2, m1 + m2 + 5, .prim hsp g1 g2, hl4, ⟨by omega, by omega, by omega⟩, ?_⟩;refine bT (n := 374) tok Tryz.func39 rfl rfl rfl ?_;refine a8 (ag [] rfl ?_);refine a8 (ag [] rfl ?_ (hc := by repeat (first | exact trivial | refine ⟨by first | rfl | omega | (simp; omega) | (unfold Ty.name; simp; omega) | (simp; done), ?_⟩)));refine a8 (a8 (agF 6 [] rfl rfl rfl ?_));refine aA rfl (fun hb => absurd (by simpa using hb) hlf) (fun _ => ?_);refine aD ?_;refine a8 (a8 (aE mixed ?_));refine ak 1 [] rfl ?_;refine kc cN ?_;refine az ?_;refine aB (a8 (ag [] rfl ?_));refine aA rfl (fun hb => absurd (by have := of_decide_eq_true hb; omega) hi0) (fun _ => ?_);refine a8 (ag [] rfl ?_);refine aA rfl (fun hb => absurd (by have := of_decide_eq_true hb; omega) hi1) (fun _ => ?_);refine a8 (ag [] rfl ?_);refine aA rfl (fun hb => absurd (by have := of_decide_eq_true hb; omega) hi2) (fun _ => ?_);refine a8 (ag [] rfl ?_);refine aA rfl (fun hb => absurd (by have := of_decide_eq_true hb; omega) hi3) (fun _ => ?_);refine a8 (ag [] rfl ?_);refine aA rfl (fun hb => absurd (by have := of_decide_eq_true hb; omega) hi4) (fun _ => ?_);refine aD ?_;refine a8 (aE mixed ?_);refine ak 1 [] rfl ?_;refine kc (cSp) ?_;refine ak 6 [] rfl ?_;refine az ?_;refine a8 (aB (a8 (agF 4 [] rfl rfl rfl ?_)));refine aA rfl (fun hb => absurd hb hI) (fun _ => ?_);refine a8 (agF 4 [] rfl rfl rfl ?_);refine aA rfl (fun _ => ?_) (fun hb => by have := hB.symm.trans hb; cases this);refine a8 (aE mixed ?_);refine kc (gH [73, 110, 116]) ?_;refine ak 2 [] rfl ?_;refine az ?_;refine a8 (aE mixed ?_);refine ak 2 [] rfl ?_;refine kc (cJ) ?_;refine ak 5 [(3, .row j []), (4, .row j (bN s))] rfl ?_;refine kc (cM) ?_;refine ak 1 [] rfl ?_;refine kc (cS1) ?_;refine ak 3 [] rfl ?_;refine kc (cM) ?_;refine ak 1 [] rfl ?_;refine kc (cS2) ?_;refine ak 3 [(17, .all)] rfl ?_;refine az ?_;exact aI (rtC trw)
 have hl2e : ∃ l2, Ok l2 ∧ (((bb hd'.form hd'.name [76] = true ∧ L.length = 1) ∧ ∃ j : Nat, j = 0 ∧ aU Tryz.prog 37 [.one (.vp 700 0), I .i64 3] (mO l1 (left - 1)) (I .i64 j) (mO l2 (left - 1))) ∨ (¬ (bb hd'.form hd'.name [76] = true ∧ L.length = 1) ∧ l2 = l1)) ∨ ((bb hd'.form hd'.name [76] = true ∧ L.length = 1) ∧ Ok l2 ∧ ∃ j : Nat, 0 < j ∧ aU Tryz.prog 37 [.one (.vp 700 0), I .i64 3] (mO l1 (left - 1)) (I .i64 j) (mO l2 (left - 1))) := by
  by_cases hX : bb hd'.form hd'.name [76] = true ∧ L.length = 1
  ·obtain ⟨j, l2, _, hl2, cJ⟩ := j1 l1 (left - 1) 3 (by decide) hl1;by_cases hj : j = 0
   ·exact ⟨l2, .inl ⟨hl2, .inl ⟨hX, j, hj, cJ⟩⟩⟩
   ·exact ⟨l2, .inr ⟨hX, hl2, j, by omega, cJ⟩⟩
  ·exact ⟨l1, .inl ⟨hl1, .inr ⟨hX, rfl⟩⟩⟩
 obtain ⟨l2, ⟨hl2, hl12⟩ | ⟨hX, hl2, j, hj, cJ⟩⟩ := hl2e
 rotate_left
 ·obtain ⟨x, rfl⟩ : ∃ x, L = [x] := length_eq_one_iff.1 hX.2;obtain ⟨e3, e4⟩ := oT hX.1;have d3 : decide (hd'.form = 3) = true := decide_eq_true e3;have d4 : decide (hd'.name = [76]) = true := decide_eq_true e4;obtain ⟨kx, _, gx, _, hkx⟩ := hLg;have cG := o5 [67] [x] (by simp);obtain ⟨c1, l3, le1, m1, g1, hl3, ⟨b1, b1', b1''⟩, cS1⟩ := hS (by omega) (dP v [] t) x kx l2 (left - 1) hv1 (by omega) (by omega) gx (by omega) hl2 (by omega) (by omega);obtain ⟨c2, l4, le2, m2, g2, hl4, ⟨b2, b2', b2''⟩, cS2⟩ := hS (by omega) (dP v [] t) t n l3 le1 hv1 (by omega) (by omega) hg (by omega) hl3 (by omega) (by omega);have cA1 := fY (gU [67] [x]) c1;have cA2 := fY (.mk 4 0 [] zTy [gU [67] [x], c1] [] []) c2;refine ⟨.mk 4 0 [] zTy [.mk 4 0 [] zTy [gU [67] [x], c1] [] [], c2] [] [], l4, le2, 9 + 1 + m1 + 1 + m2 + 1, .app (.app (.tapp gx (by omega) (.con (by decide))) g1) g2, hl4, ⟨by omega, by omega, by omega⟩, ?_⟩;refine bT (n := 374) tok Tryz.func39 rfl rfl rfl ?_;refine a8 (ag [] rfl ?_);refine a8 (ag [] rfl ?_ (hc := by repeat (first | exact trivial | refine ⟨by first | rfl | omega | (simp; omega) | (unfold Ty.name; simp; omega) | (simp; done), ?_⟩)));refine a8 (a8 (agF 6 [] rfl rfl rfl ?_));refine aA rfl (fun hb => absurd (by simpa using hb) hlf) (fun _ => ?_);refine aD ?_;refine a8 (a8 (aE mixed ?_));refine ak 1 [] rfl ?_;refine kc cN ?_;refine az ?_;refine aB (a8 (ag [] rfl ?_));refine aA rfl (fun hb => absurd (by have := of_decide_eq_true hb; omega) hi0) (fun _ => ?_);refine a8 (ag [] rfl ?_);refine aA rfl (fun hb => absurd (by have := of_decide_eq_true hb; omega) hi1) (fun _ => ?_);refine a8 (ag [] rfl ?_);refine aA rfl (fun hb => absurd (by have := of_decide_eq_true hb; omega) hi2) (fun _ => ?_);refine a8 (ag [] rfl ?_);refine aA rfl (fun hb => absurd (by have := of_decide_eq_true hb; omega) hi3) (fun _ => ?_);refine a8 (ag [] rfl ?_);refine aA rfl (fun hb => absurd (by have := of_decide_eq_true hb; omega) hi4) (fun _ => ?_);refine aD ?_;refine a8 (aE mixed ?_);refine ak 1 [] rfl ?_;refine kc (cSp) ?_;refine ak 6 [] rfl ?_;refine az ?_;refine a8 (aB (a8 (agF 4 [] rfl rfl rfl ?_)));refine aA rfl (fun hb => absurd hb hI) (fun _ => ?_);refine a8 (agF 4 [] rfl rfl rfl ?_);refine aA rfl (fun hb => absurd hb hB) (fun _ => ?_);refine a8 ?_;refine aE mixed ?_;refine ak 15 [(3, .bv true), (7, .bv true), (8, .bv true), (12, .bv true)] rfl ?_;refine kcG cJ ?_;refine ak 3 [(17, .bv true)] rfl ?_;refine az ?_;refine aA rfl (fun _ => ?_) (fun hb => absurd (of_decide_eq_false hb) (by omega));refine a8 (aE mixed ?_);refine ak 1 [] rfl ?_;refine kc (cG) ?_;refine ak 3 [] rfl ?_;refine kc (cM) ?_;refine ak 3 [(7, .row 0 []), (8, .row 0 (bD x))] rfl ?_;refine kc (cS1) ?_;refine kc (cA1) ?_;refine ak 3 [] rfl ?_;refine kc (cM) ?_;refine ak 1 [] rfl ?_;refine kc (cS2) ?_;refine kc (cA2) ?_;refine ak 1 [] rfl ?_;refine az ?_;exact aI (rtC trw)
 by_cases hP : bb hd'.form hd'.name [80] = true ∧ L.length = 2
 ·obtain ⟨x, y, rfl⟩ : ∃ x y, L = [x, y] := by
   match L, hP.2 with
   | [x, y], _ => exact ⟨x, y, rfl⟩
  obtain ⟨e3, e4⟩ := oT hP.1;have d3 : decide (hd'.form = 3) = true := decide_eq_true e3;have d4 : decide (hd'.name = [76]) = false := by rw [e4]; rfl
  obtain ⟨kx, mx, gx, ⟨ky, _, gy, _, hky⟩, hkx⟩ := hLg;have cG := o5 [80] [x, y] (by simp);obtain ⟨c1, l3, le1, m1, g1, hl3, ⟨b1, b1', b1''⟩, cS1⟩ := hS (by omega) (dP v [] t) x kx l1 (left - 1) hv1 (by omega) (by omega) gx (by omega) hl1 (by omega) (by omega);obtain ⟨c2, l4, le2, m2, g2, hl4, ⟨b2, b2', b2''⟩, cS2⟩ := hS (by omega) (dP v [] t) y ky l3 le1 hv1 (by omega) (by omega) gy (by omega) hl3 (by omega) (by omega);have cA1 := fY (gU [80] [x, y]) c1;have cA2 := fY (.mk 4 0 [] zTy [gU [80] [x, y], c1] [] []) c2;refine ⟨.mk 4 0 [] zTy [.mk 4 0 [] zTy [gU [80] [x, y], c1] [] [], c2] [] [], l4, le2, 9 + 1 + 1 + m1 + 1 + m2 + 1, .app (.app (.tapp gy (by omega) (.tapp gx (by omega) (.con (by decide)))) g1) g2, hl4, ⟨by omega, by omega, by omega⟩, ?_⟩;refine bT (n := 374) tok Tryz.func39 rfl rfl rfl ?_;refine a8 (ag [] rfl ?_);refine a8 (ag [] rfl ?_ (hc := by repeat (first | exact trivial | refine ⟨by first | rfl | omega | (simp; omega) | (unfold Ty.name; simp; omega) | (simp; done), ?_⟩)));refine a8 (a8 (agF 6 [] rfl rfl rfl ?_));refine aA rfl (fun hb => absurd (by simpa using hb) hlf) (fun _ => ?_);refine aD ?_;refine a8 (a8 (aE mixed ?_));refine ak 1 [] rfl ?_;refine kc cN ?_;refine az ?_;refine aB (a8 (ag [] rfl ?_));refine aA rfl (fun hb => absurd (by have := of_decide_eq_true hb; omega) hi0) (fun _ => ?_);refine a8 (ag [] rfl ?_);refine aA rfl (fun hb => absurd (by have := of_decide_eq_true hb; omega) hi1) (fun _ => ?_);refine a8 (ag [] rfl ?_);refine aA rfl (fun hb => absurd (by have := of_decide_eq_true hb; omega) hi2) (fun _ => ?_);refine a8 (ag [] rfl ?_);refine aA rfl (fun hb => absurd (by have := of_decide_eq_true hb; omega) hi3) (fun _ => ?_);refine a8 (ag [] rfl ?_);refine aA rfl (fun hb => absurd (by have := of_decide_eq_true hb; omega) hi4) (fun _ => ?_);refine aD ?_;refine a8 (aE mixed ?_);refine ak 1 [] rfl ?_;refine kc (cSp) ?_;refine ak 6 [] rfl ?_;refine az ?_;refine a8 (aB (a8 (agF 4 [] rfl rfl rfl ?_)));refine aA rfl (fun hb => absurd hb hI) (fun _ => ?_);refine a8 (agF 4 [] rfl rfl rfl ?_);refine aA rfl (fun hb => absurd hb hB) (fun _ => ?_);refine a8 (ag [(3, .bv true), (7, .bv true), (8, .bv false), (12, .bv false)] rfl ?_);refine aA rfl (fun hb => by cases hb) (fun _ => ?_);refine a8 (agF 4 [] rfl rfl rfl ?_);refine aA rfl (fun _ => ?_) (fun hb => ?_)
  ·refine a8 (aE mixed ?_);refine ak 1 [] rfl ?_;refine kc (cG) ?_;refine ak 3 [] rfl ?_;refine kc (cM) ?_;refine ak 3 [(7, .row 0 []), (8, .row 0 (bD x))] rfl ?_;refine kc (cS1) ?_;refine kc (cA1) ?_;refine ak 3 [] rfl ?_;refine kc (cM) ?_;refine ak 3 [(16, .row 1 []), (17, .row 1 (bD y))] rfl ?_;refine kc (cS2) ?_;refine kc (cA2) ?_;refine ak 1 [] rfl ?_;refine az ?_;exact aI (rtC trw)
  ·exfalso;simp [e3, e4] at hb
 rcases uC hg with ⟨m1, m2, a, b, ga, gb, hnm, hte, cF⟩ | cF
 ·obtain ⟨s, l3, hs, hl3, cNm⟩ := aEz l2 (left - 1) v hl2;have hs6 : s ∈ nm6 := mem_append.2 (.inl hs);obtain ⟨hvs, cMs⟩ := more v s a m1 hv h0 (by omega) ga (by omega) (.inr hs6);have hds : (dP v s a).deep = v.deep + 1 := rfl;obtain ⟨c3, l4, le3, m3, g3, hl4, ⟨b3, b3', b3''⟩, cS3⟩ := hS (by omega) (dP v s a) b m2 l3 (left - 1) hvs (by omega) (by omega) gb (by omega) hl3 (by omega) (by omega);refine ⟨.mk 5 0 s a [c3] [] [], l4, le3, m3 + 4, .lam hs6 ga (by omega) g3, hl4, ⟨by omega, by omega, by omega⟩, ?_⟩;refine bT (n := 374) tok Tryz.func39 rfl rfl rfl ?_;refine a8 (ag [] rfl ?_);refine a8 (ag [] rfl ?_ (hc := by repeat (first | exact trivial | refine ⟨by first | rfl | omega | (simp; omega) | (unfold Ty.name; simp; omega) | (simp; done), ?_⟩)));refine a8 (a8 (agF 6 [] rfl rfl rfl ?_));refine aA rfl (fun hb => absurd (by simpa using hb) hlf) (fun _ => ?_);refine aD ?_;refine a8 (a8 (aE mixed ?_));refine ak 1 [] rfl ?_;refine kc cN ?_;refine az ?_;refine aB (a8 (ag [] rfl ?_));refine aA rfl (fun hb => absurd (by have := of_decide_eq_true hb; omega) hi0) (fun _ => ?_);refine a8 (ag [] rfl ?_);refine aA rfl (fun hb => absurd (by have := of_decide_eq_true hb; omega) hi1) (fun _ => ?_);refine a8 (ag [] rfl ?_);refine aA rfl (fun hb => absurd (by have := of_decide_eq_true hb; omega) hi2) (fun _ => ?_);refine a8 (ag [] rfl ?_);refine aA rfl (fun hb => absurd (by have := of_decide_eq_true hb; omega) hi3) (fun _ => ?_);refine a8 (ag [] rfl ?_);refine aA rfl (fun hb => absurd (by have := of_decide_eq_true hb; omega) hi4) (fun _ => ?_);refine aD ?_;refine a8 (aE mixed ?_);refine ak 1 [] rfl ?_;refine kc (cSp) ?_;refine ak 6 [] rfl ?_;refine az ?_;refine a8 (aB (a8 (agF 4 [] rfl rfl rfl ?_)));refine aA rfl (fun hb => absurd hb hI) (fun _ => ?_);refine a8 (agF 4 [] rfl rfl rfl ?_);refine aA rfl (fun hb => absurd hb hB) (fun _ => ?_);refine a8 (AWp.cut (mk [(0, .one (.vp 700 0)), (4, .one (.vp 4 0)), (5, .one (.vp 5 0)), (6, .one (.vp 6 0)), (21, .one (.vp 21 0)), (22, .one (.hs 510 0 L.length L.length)), (268, B false)] ([(4, .var 92 (vRt v)), (5, .var 33 (tR t)), (6, .var 37 [.c (.int .i64 0), .c (.int .i64 0), .c (.str []), .c (.int .i64 0), .c (.int .i64 0), .c (.str []), .c .nl, .c .nl, .c .nl, .c .nl]), (21, .var 33 (tR hd')), (510, .arr 33 4 (L.map bD) 2)] ++ mO l2 (left - 1))) ?_ ?_)
  ·rcases hl12 with ⟨hX, j, hj0, cJ⟩ | ⟨hX, rfl⟩
   ·obtain ⟨e3, e4⟩ := oT hX.1;have d3 : decide (hd'.form = 3) = true := decide_eq_true e3;have d4 : decide (hd'.name = [76]) = true := decide_eq_true e4;have d5 : decide ((L.length : Int) = 1) = true := decide_eq_true (by rw [hX.2]; rfl);subst hj0;refine aE mixed ?_;refine ak 15 [(3, .bv true), (7, .bv true), (8, .bv true), (12, .bv true), (13, .bv true)] rfl ?_;refine kcG cJ ?_ (hw := d5);refine ak 3 [(13, .bv true), (17, .bv true)] rfl ?_;refine az ?_;exact sl
   ·by_cases e3 : hd'.form = 3
    ·have d3 : decide (hd'.form = 3) = true := decide_eq_true e3;by_cases e4 : hd'.name = [76]
     ·have d4 : decide (hd'.name = [76]) = true := decide_eq_true e4;have e5 : ¬ L.length = 1 := fun h => hX ⟨by unfold bb; rw [d3, d4]; rfl, h⟩
      have d5 : decide ((L.length : Int) = 1) = false := decide_eq_false (by omega);exact ag [(3, .bv true), (7, .bv true), (8, .bv true), (12, .bv true), (13, .bv false), (17, .bv false)] rfl sl
     ·have d4 : decide (hd'.name = [76]) = false := decide_eq_false e4;exact ag [(3, .bv true), (7, .bv true), (8, .bv false), (12, .bv false)] rfl sl
    ·have d3 : decide (hd'.form = 3) = false := decide_eq_false e3;exact ag [(3, .bv false), (7, .bv false)] rfl sl
  refine aA rfl (fun hb => by cases hb) (fun _ => ?_);refine a8 (agF 4 [] rfl rfl rfl ?_);refine aA rfl (fun hb => absurd (aFe hb) hP) (fun _ => ?_);refine aD ?_;refine a8 (a8 (aE mixed ?_));refine ak 1 [] rfl ?_;refine kc cF ?_;refine az ?_;refine aA rfl (fun _ => ?_) (fun hb => by cases hb);subst hte;refine a8 (aE mixed ?_);refine ak 2 [] rfl ?_;refine kc (cNm) ?_;refine ak 1 [] rfl ?_;refine az ?_;refine a8 (aE mixed ?_);refine ak 18 [(3, .row 0 (bD (tapp (.mk 3 0 arrow []) a))), (6, .row 1 (bD a)), (13, .row 0 (bD (tapp (.mk 3 0 arrow []) a))), (16, .row 1 (bD a))] rfl ?_;refine kc (cMs) ?_;refine ak 4 [(21, .row 1 (bD b))] rfl ?_;refine kc (cS3) ?_;refine ak 3 [(24, .all)] rfl ?_;refine az ?_;exact aI (rtC trw)
 ·obtain ⟨c2, l5, m2, g2, hm2, hl5, cLf⟩ := aE0 n n t (le_refl _) hg (by omega) v l2 (left - 1) hv (by omega) hl2;refine ⟨c2, l5, left - 1, m2, g2, hl5, ⟨by omega, by omega, by omega⟩, ?_⟩;refine bT (n := 374) tok Tryz.func39 rfl rfl rfl ?_;refine a8 (ag [] rfl ?_);refine a8 (ag [] rfl ?_ (hc := by repeat (first | exact trivial | refine ⟨by first | rfl | omega | (simp; omega) | (unfold Ty.name; simp; omega) | (simp; done), ?_⟩)));refine a8 (a8 (agF 6 [] rfl rfl rfl ?_));refine aA rfl (fun hb => absurd (by simpa using hb) hlf) (fun _ => ?_);refine aD ?_;refine a8 (a8 (aE mixed ?_));refine ak 1 [] rfl ?_;refine kc cN ?_;refine az ?_;refine aB (a8 (ag [] rfl ?_));refine aA rfl (fun hb => absurd (by have := of_decide_eq_true hb; omega) hi0) (fun _ => ?_);refine a8 (ag [] rfl ?_);refine aA rfl (fun hb => absurd (by have := of_decide_eq_true hb; omega) hi1) (fun _ => ?_);refine a8 (ag [] rfl ?_);refine aA rfl (fun hb => absurd (by have := of_decide_eq_true hb; omega) hi2) (fun _ => ?_);refine a8 (ag [] rfl ?_);refine aA rfl (fun hb => absurd (by have := of_decide_eq_true hb; omega) hi3) (fun _ => ?_);refine a8 (ag [] rfl ?_);refine aA rfl (fun hb => absurd (by have := of_decide_eq_true hb; omega) hi4) (fun _ => ?_);refine aD ?_;refine a8 (aE mixed ?_);refine ak 1 [] rfl ?_;refine kc (cSp) ?_;refine ak 6 [] rfl ?_;refine az ?_;refine a8 (aB (a8 (agF 4 [] rfl rfl rfl ?_)));refine aA rfl (fun hb => absurd hb hI) (fun _ => ?_);refine a8 (agF 4 [] rfl rfl rfl ?_);refine aA rfl (fun hb => absurd hb hB) (fun _ => ?_);refine a8 (AWp.cut (mk [(0, .one (.vp 700 0)), (4, .one (.vp 4 0)), (5, .one (.vp 5 0)), (6, .one (.vp 6 0)), (21, .one (.vp 21 0)), (22, .one (.hs 510 0 L.length L.length)), (268, B false)] ([(4, .var 92 (vRt v)), (5, .var 33 (tR t)), (6, .var 37 [.c (.int .i64 0), .c (.int .i64 0), .c (.str []), .c (.int .i64 0), .c (.int .i64 0), .c (.str []), .c .nl, .c .nl, .c .nl, .c .nl]), (21, .var 33 (tR hd')), (510, .arr 33 4 (L.map bD) 2)] ++ mO l2 (left - 1))) ?_ ?_)
  ·rcases hl12 with ⟨hX, j, hj0, cJ⟩ | ⟨hX, rfl⟩
   ·obtain ⟨e3, e4⟩ := oT hX.1;have d3 : decide (hd'.form = 3) = true := decide_eq_true e3;have d4 : decide (hd'.name = [76]) = true := decide_eq_true e4;have d5 : decide ((L.length : Int) = 1) = true := decide_eq_true (by rw [hX.2]; rfl);subst hj0;refine aE mixed ?_;refine ak 15 [(3, .bv true), (7, .bv true), (8, .bv true), (12, .bv true), (13, .bv true)] rfl ?_;refine kcG cJ ?_ (hw := d5);refine ak 3 [(13, .bv true), (17, .bv true)] rfl ?_;refine az ?_;exact sl
   ·by_cases e3 : hd'.form = 3
    ·have d3 : decide (hd'.form = 3) = true := decide_eq_true e3;by_cases e4 : hd'.name = [76]
     ·have d4 : decide (hd'.name = [76]) = true := decide_eq_true e4;have e5 : ¬ L.length = 1 := fun h => hX ⟨by unfold bb; rw [d3, d4]; rfl, h⟩
      have d5 : decide ((L.length : Int) = 1) = false := decide_eq_false (by omega);exact ag [(3, .bv true), (7, .bv true), (8, .bv true), (12, .bv true), (13, .bv false), (17, .bv false)] rfl sl
     ·have d4 : decide (hd'.name = [76]) = false := decide_eq_false e4;exact ag [(3, .bv true), (7, .bv true), (8, .bv false), (12, .bv false)] rfl sl
    ·have d3 : decide (hd'.form = 3) = false := decide_eq_false e3;exact ag [(3, .bv false), (7, .bv false)] rfl sl
  refine aA rfl (fun hb => by cases hb) (fun _ => ?_);refine a8 (agF 4 [] rfl rfl rfl ?_);refine aA rfl (fun hb => absurd (aFe hb) hP) (fun _ => ?_);refine aD ?_;refine a8 (a8 (aE mixed ?_));refine ak 1 [] rfl ?_;refine kc cF ?_;refine az ?_;refine aA rfl (fun hb => by cases hb) (fun _ => ?_);refine aD ?_;refine a8 (aE mixed ?_);refine ak 3 [] rfl ?_;refine kc (cLf) ?_;refine ak 1 [] rfl ?_;refine az ?_;exact aI (rtC trw)
theorem aKw : ∀ F : Nat, qJ F
 | 0 => by
  have := xS (-1) (fun h => by omega);intro v t n l left hv hF hd hg hn hl hle hlo;exact this v t n l left hv (by omega) hd hg hn hl hle hlo
 | F + 1 => xS F fun _ => aKw F
theorem oR (s : Str) (t : Ty) : aU Tryz.prog 40 [Go.AM.T s, tyV t] [] (tyV (.mk 5 0 s [t])) [] := by
 refine bT (n := 9) tok Tryz.func40 rfl rfl rfl ?_;refine a8 (ag [] rfl ?_);refine a8 (ag [(2, .all)] rfl ?_);exact aI (rtC trw)
theorem aSo (l : List Int) (hl : aAj l) (hf : Fits l) : ∃ (c : Core) (t : Ty) (m : Nat), GC m c ∧ m ≤ 110000 ∧ ((∃ n, GT n t ∧ n ≤ 29) ∨ ∃ n u, GT n u ∧ n ≤ 33 ∧ t = .mk 5 0 [97] [u]) ∧
  aU Tryz.prog 10 [.one (.c (.sl 1 (l.map aGr)))] [] (.tup [.pa (aC c), tyV t]) [] := by
 have hl' : aAj (l.take 60) := fun x hx => hl x (mem_of_mem_take hx)
 have hf' : Fits (l.take 60) := by
  unfold Fits at *;rw [length_take];omega
 have cI := aQv l 60 hf (by omega);obtain ⟨t, l1, n, gt, hn, hl1, cT⟩ := wQ [] (fun x hx => by cases hx) (by simp) 3 0 (by omega) (by omega) (l.take 60) 26 ⟨hl', hf'⟩;have hn : n ≤ 29 := hn;obtain ⟨i, l2, hi, hl2, cN⟩ := j1 l1 26 3 (by decide) hl1;have hp : pos 26 = 25 := rfl;by_cases h0 : i = 0
 ·subst h0;have gA : GT 1 (.mk 2 0 [97] []) := .var _ (by decide);have gF := gA.fn gt;have cF := rU (.mk 2 0 [97] []) t;obtain ⟨c, l3, le, m, gc, hl3, ⟨b1, b2, b3⟩, cS⟩ := aKw 7 ⟨[], [[97]], 0⟩ (i7 (.mk 2 0 [97] []) t) _ l2 26 ⟨fun x hx => (by cases hx), fun x hx => by rw [mem_singleton.1 hx]; decide, Int.le_refl _, by decide, by decide⟩ (by decide) (by decide) gF (by show _ ≤ 33 + 8 * (0 : Int); omega) hl2 (by decide) (by rw [hp]; decide);have hp2 : 0 ≤ pos le := by unfold pos; omega
  have cA := oR [97] (i7 (.mk 2 0 [97] []) t);refine ⟨.mk 7 0 [97] zTy [c] [] [], _, m + 20, .tlam (by decide) gc, by omega, .inr ⟨_, _, gF, by omega, rfl⟩, ?_⟩;refine bT (n := 35) tok Tryz.func10 rfl rfl rfl ?_;refine a8 (ag [] rfl ?_);refine a8 (aE mixed ?_);refine ak 1 [] rfl ?_;refine kc cI ?_;refine ak 3 [(3, .id 700)] rfl ?_;refine az ?_;refine a8 (aE mixed ?_);refine ak 1 [] rfl ?_;refine kc cT ?_;refine ak 2 [] rfl ?_;refine az ?_;refine a8 (a8 (aE mixed ?_));refine ak 1 [] rfl ?_;refine kc cN ?_;refine ak 1 [] rfl ?_;refine az ?_;refine aA rfl (fun _ => ?_) (fun hb => by cases hb);refine a8 (aE mixed ?_);refine ak 2 [] rfl ?_;refine kc cF ?_;refine ak 2 [] rfl ?_;refine az ?_;refine a8 (aE mixed ?_);refine ak 4 [(1, .all)] rfl ?_;refine kc cS ?_;refine ak 2 [] rfl ?_;refine az ?_;refine a8 (aE mixed ?_);refine ak 4 [(1, .all)] rfl ?_;refine kc cA ?_;refine ak 2 [] rfl ?_;refine az ?_;refine aI ?_;exact ⟨.inr rfl, ⟨_, _, .cell rfl (tg rfl) rfl rfl rfl (.cell rfl (tg rfl) rfl rfl rfl .nil), .cons (.pa (.c .refl (.c .refl (.c .refl (.c .refl (.c .refl (.c .refl (.c .nl (.c .refl (.c .nl (.c .nl .nil))))))))))) (.cons .refl .nil), rfl⟩, trivial, rfl⟩
 ·obtain ⟨c, l3, le, m, gc, hl3, ⟨b1, b2, b3⟩, cS⟩ := aKw 7 ⟨[], [], 0⟩ t n l2 26 ⟨fun x hx => (by cases hx), fun x hx => (by cases hx), Int.le_refl _, by decide, by decide⟩ (by decide) (by decide) gt (by show _ ≤ 33 + 8 * (0 : Int); omega) hl2 (by decide) (by rw [hp]; decide);have hp2 : 0 ≤ pos le := by unfold pos; omega
  refine ⟨c, t, m, gc, by omega, .inl ⟨n, gt, hn⟩, ?_⟩;refine bT (n := 35) tok Tryz.func10 rfl rfl rfl ?_;refine a8 (ag [] rfl ?_);refine a8 (aE mixed ?_);refine ak 1 [] rfl ?_;refine kc cI ?_;refine ak 3 [(3, .id 700)] rfl ?_;refine az ?_;refine a8 (aE mixed ?_);refine ak 1 [] rfl ?_;refine kc cT ?_;refine ak 2 [] rfl ?_;refine az ?_;refine a8 (a8 (aE mixed ?_));refine ak 1 [] rfl ?_;refine kc cN ?_;refine ak 1 [] rfl ?_;refine az ?_;refine aA rfl (fun hb => absurd (by have := of_decide_eq_true hb; omega) h0) (fun _ => ?_);refine aD ?_;refine a8 (aE mixed ?_);refine ak 3 [] rfl ?_;refine kc cS ?_;refine ak 3 [] rfl ?_;refine az ?_;refine aI ?_;exact ⟨.inr rfl, ⟨_, _, .cell rfl (tg rfl) rfl rfl rfl (.cell rfl (tg rfl) rfl rfl rfl .nil), .cons .refl (.cons .refl .nil), rfl⟩, trivial, rfl⟩
structure TM (V : List Str) (k : Nat) (t : Ty) : Prop where
 wf : wfS t = true
 w : ∀ E ρ, (∀ x, ρ x ≤ E) → tW j6 t ρ ≤ k + E
 v : ∀ x ∈ tfR t, x ∈ V
structure MW (V : List Str) (c : Core) : Prop where
 q : fF (QL 403) c
 w : ∀ E ρ, (∀ x, ρ x ≤ E) → cw j6 E c ρ ≤ 3 + E
 v : ∀ x ∈ tyR c, x ∈ V
section
variable {V : List Str} {k : Nat}
theorem TM.mono {k' : Nat} {t : Ty} (h : TM V k t) (hk : k ≤ k') : TM V k' t := ⟨h.wf, fun E ρ hρ => by have := h.w E ρ hρ; omega, h.v⟩
theorem TM.var {s : Str} (h : s ∈ V) : TM V k (.mk 2 0 s []) := ⟨rfl, fun E ρ hρ => by rw [tW, if_pos rfl]; have := hρ s; omega, fun x hx => by
 have : tfR (.mk 2 0 s []) = [s] := by rw [tfR, if_pos rfl]
 rw [this] at hx; rw [mem_singleton.1 hx]; exact h⟩
theorem TM.con {s : Str} : TM V k (.mk 3 0 s []) := ⟨rfl, fun E ρ hρ => by
 have : tW j6 (.mk 3 0 s []) ρ = 0 := by rw [tW, if_neg (by decide), if_neg (by decide), tWs]; rfl
 omega, fun x hx => by
 obtain ⟨u, hu, _⟩ := sO (by decide) hx
 cases hu⟩
theorem TM.z : TM V k zTy := ⟨rfl, fun E ρ hρ => by
 have : tW j6 zTy ρ = 0 := by unfold zTy; rw [tW, if_neg (by decide), if_neg (by decide), tWs]; rfl
 omega, fun x hx => by
 have : tfR zTy = [] := rfl
 rw [this] at hx; cases hx⟩
theorem TM.app {a b : Ty} (ha : TM V k a) (hb : TM V k b) : TM V k (.mk 4 0 [] [a, b]) := ⟨by rw [wfS, aAm, aAm, aAm, ha.wf, hb.wf]; rfl, fun E ρ hρ => by
 have h1 := ha.w E ρ hρ;have h2 := hb.w E ρ hρ;have : tW j6 (.mk 4 0 [] [a, b]) ρ = max (tW j6 a ρ) (max (tW j6 b ρ) 0) := by rw [tW, if_neg (by decide), if_neg (by decide), tWs, tWs, tWs]; rfl
 omega, fun x hx => by
 obtain ⟨u, hu, hy, _⟩ := sO (by decide) hx;have : u = a ∨ u = b := by simpa using hu
 rcases this with rfl | rfl
 ·exact ha.v x hy
 ·exact hb.v x hy⟩
theorem TM.all {s : Str} {a : Ty} (ha : TM V k a) : TM V (k + 1) (.mk 5 0 s [a]) := ⟨by rw [wfS, aAm, aAm, ha.wf]; rfl, fun E ρ hρ => by
 have h1 := ha.w E (fO ρ s 0) fun x => by unfold fO; split; exact zero_le _; exact hρ x
 have : tW j6 (.mk 5 0 s [a]) ρ = 1 + max (tW j6 a (fO ρ s 0)) 0 := by rw [tW, if_neg (by decide), if_pos rfl, tWs, tWs]; rfl
 omega, fun x hx => by
 obtain ⟨u, hu, hx, _⟩ := sO (by decide) hx;rw [mem_singleton.1 hu] at hx
 exact ha.v x hx⟩
theorem i6 {f n : Int} {s : Str} {t : Ty} {ks : List Core} {bs : List Bind} {al : List Alt} (hq : QL 403 f s t ks.length (bs.map bhd) (al.map ahd)) (ht : TM V 3 t) (hk : ∀ x ∈ ks, MW V x) (hb : ∀ b ∈ bs, TM V 3 b.ty ∧ MW V b.body) (ha : ∀ a ∈ al, MW V a.body) : MW V (.mk f n s t ks bs al) := by
 refine ⟨bE.2 ⟨hq, fun x hx => (hk x hx).q, fun x hx => (hb x hx).2.q, fun x hx => (ha x hx).q⟩, fun E ρ hρ => fU.2 ⟨by rw [dK]; omega, ht.w E ρ hρ, fun x hx => (hk x hx).w E _ fun y => ?_, fun x hx => ⟨(hb x hx).1.w E ρ hρ, (hb x hx).2.w E ρ hρ⟩, fun x hx => (ha x hx).w E ρ hρ⟩, fun x hx => ?_⟩
 ·split
  ·unfold fO;split
   ·exact le_refl _
   ·exact hρ y
  ·exact hρ y
 ·rcases bM.1 hx with h | ⟨y, hy, h, _⟩ | ⟨y, hy, h | h⟩ | ⟨y, hy, h⟩
  ·exact ht.v x h
  ·exact (hk y hy).v x h
  ·exact (hb y hy).1.v x h
  ·exact (hb y hy).2.v x h
  ·exact (ha y hy).v x h
theorem aG5 {s : Str} (h : s.length ≤ 30) : w30 s = 30 := by unfold w30; omega
theorem cO {f : Int} {s : Str} {t : Ty} {nk : Nat} (hf : okF f nk 0 0 = true) (h7 : f = 7 → t = zTy ∧ ¬ s = []) (ht : wfS t = true) (hs : s.length ≤ 30) (h5 : f = 5 → nh s) : QL 403 f s t nk [] [] :=
 ⟨hf, h7, ht, by simp, by unfold lw; rw [aG5 hs]; decide, h5, by simp, by simp⟩
theorem ST.of {c : Core} (h : MW V c) (ht : tlC c ≤ 6000) (hs : m30 c ≤ 3500000) (n : Nat) : ST n V c :=
 ⟨h.q, fun E _ => h.w E r0 fun _ => zero_le _, h.v, ht, hs⟩
end
theorem uU : ∀ (f : Nat) (l : List Int), TM l9 f (cD f l).1
 | 0, l => by
  unfold cD;split
  ·exact .var (fL (by decide))
  ·exact .con
 | f + 1, l => by
  have h1 := uU f (aT l).2;have h2 := uU f (cD f (aT l).2).2;unfold cD;split
  ·exact .var (fL (by decide))
  split
  ·exact .con
  split
  ·exact (TM.app (TM.app .con h1) h2).mono (le_succ _)
  split
  ·exact (TM.app .con h1).mono (le_succ _)
  ·exact .all h1
theorem aR4 : ∀ s ∈ nmL, nh s := by unfold nh; decide
theorem aNs : ∀ s ∈ nmL, s.length ≤ 30 := by decide
theorem aQn : ∀ s ∈ aK8, s.length ≤ 30 := by decide
theorem aBi : ∀ s ∈ r6, s.length ≤ 30 := by decide
theorem aUa : ∀ s ∈ l9, ¬ s = [] := by decide
theorem aUb : ∀ s ∈ l9, s.length ≤ 30 := by decide
theorem aGi (n : Int) (i : Nat) : nameAt n i ∈ nmL := fL (by decide)
theorem mQ (n : Int) : ∀ (i : Nat), ∀ s ∈ dX n i, s ∈ nmL
 | 0, s, h => by cases h
 | i + 1, s, h => by
  rw [dX] at h;unfold aTl at h;split at h
  ·exact mQ n i s h
  ·rcases mem_append.1 h with h | h
   ·exact mQ n i s h
   ·rw [mem_singleton.1 h]; exact aGi _ _
theorem tQ (l : List Int) : ∀ s ∈ (aY l).1, s ∈ nmL := mQ _ _
def MkM (g : List Int → Int → Mk) : Prop := ∀ l left, MW l9 (g l left).1
theorem zN {g : List Int → Int → Mk} (h : MkM g) (ns : List Str) (hns : ∀ s ∈ ns, s ∈ nmL) (l : List Int) (left : Int) : ∀ i : Nat, i ≤ ns.length → (bL g ns l left i).1.length = i ∧ ∀ b ∈ (bL g ns l left i).1, b.name ∈ nmL ∧ TM l9 3 b.ty ∧ MW l9 b.body
 | 0, _ => ⟨rfl, fun b hb => by cases hb⟩
 | i + 1, hi => by
  obtain ⟨h0, h1⟩ := zN h ns hns l left i (by omega);simp only [bL];generalize bL g ns l left i = r at h0 h1 ⊢;refine ⟨by rw [length_append, h0]; rfl, fun b hb => ?_⟩;rcases mem_append.1 hb with hb | hb
  ·exact h1 b hb
  ·rw [mem_singleton.1 hb];obtain ⟨s, hs⟩ := aK (show i < ns.length by omega);refine ⟨?_, (uU 2 _).mono (by omega), h _ _⟩;show ns[i]?.getD [] ∈ nmL;rw [hs]; exact hns s (List.mem_of_getElem? hs)
theorem aFl {g : List Int → Int → Mk} (h : MkM g) (n : Int) (l : List Int) (left : Int) : ∀ i : Nat, (cE g n l left i).1.length = i ∧ ∀ b ∈ (cE g n l left i).1, b.name.length ≤ 30 ∧ (b.vars.length ≤ 3 ∧ ∀ v ∈ b.vars, v ∈ nmL) ∧ MW l9 b.body
 | 0 => ⟨rfl, fun b hb => by cases hb⟩
 | i + 1 => by
  obtain ⟨h0, h1⟩ := aFl h n l left i;simp only [cE];generalize cE g n l left i = r at h0 h1 ⊢;refine ⟨by rw [length_append, h0]; rfl, fun b hb => ?_⟩;rcases mem_append.1 hb with hb | hb
  ·exact h1 b hb
  ·rw [mem_singleton.1 hb];have hg := h (aY r.2.1).2 r.2.2;split
   ·exact ⟨zero_le _, ⟨zero_le _, fun v hv => by cases hv⟩, hg⟩
   ·split
    ·exact ⟨zero_le _, ⟨zero_le _, fun v hv => by cases hv⟩, hg⟩
    ·exact ⟨aQn _ (fL (by decide)), ⟨iC _, tQ _⟩, hg⟩
theorem aK4 {g : List Int → Int → Mk} (h : MkM g) (n k : Int) (l : List Int) (left : Int) : MW l9 (dY g n k l left).1 := by
 have h1 := h l left;have h2 := h (g l left).2.1 (g l left).2.2;have h3 := h (cD 2 l).2 left;have ht : TM l9 3 (cD 2 l).1 := (uU 2 l).mono (by omega);have two : ∀ {x y : Core}, MW l9 x → MW l9 y → ∀ z ∈ [x, y], MW l9 z := fun hx hy z hz => by
  rcases mem_cons.1 hz with rfl | hz
  ·exact hx
  ·rw [mem_singleton.1 hz]; exact hy
 have one : ∀ {x : Core}, MW l9 x → ∀ z ∈ [x], MW l9 z := fun hx z hz => by rw [mem_singleton.1 hz]; exact hx
 have hnm : oneOf nmL (n / 14) ∈ nmL := fL (by decide);have htn : oneOf l9 (n / 14) ∈ l9 := fL (by decide);unfold dY;split
 ·exact i6 (cO rfl (fun h => by cases h) rfl (aNs _ hnm) (fun h => by cases h)) .z (by simp) (by simp) (by simp)
 split
 ·exact i6 (cO rfl (fun h => by cases h) rfl (aQn _ (fL (by decide))) (fun h => by cases h)) .z (by simp) (by simp) (by simp)
 split
 ·exact i6 (cO rfl (fun h => by cases h) rfl (by decide) (fun h => by cases h)) .z (by simp) (by simp) (by simp)
 split
 ·exact i6 (cO rfl (fun h => by cases h) rfl (by decide) (fun h => by cases h)) .z (two h1 h2) (by simp) (by simp)
 split
 ·exact i6 (cO rfl (fun h => by cases h) ht.wf (aNs _ hnm) (fun _ => aR4 _ hnm)) ht (one h3) (by simp) (by simp)
 split
 ·exact i6 (cO rfl (fun h => by cases h) ht.wf (by decide) (fun h => by cases h)) ht (one h3) (by simp) (by simp)
 split
 ·exact i6 (cO rfl (fun _ => ⟨rfl, aUa _ htn⟩) rfl (aUb _ htn) (fun h => by cases h)) .z (one h1) (by simp) (by simp)
 split
 ·obtain ⟨b0, b1⟩ := zN h (aY l).1 (tQ l) (aY l).2 left (aY l).1.length (le_refl _);have h3' := iC l;generalize bL g (aY l).1 (aY l).2 left (aY l).1.length = r at b0 b1 ⊢;refine i6 ⟨rfl, fun h => (by cases h), rfl, fun p hp => ?_, ?_, fun h => (by cases h), fun p hp => ?_, by simp⟩ .z (one (h _ _)) (fun b hb => (b1 b hb).2) (by simp)
  ·obtain ⟨b, hb, rfl⟩ := mem_map.1 hp;exact (b1 b hb).2.1.wf
  ·unfold lw;have h4 := k8 (g := fun p : Str × Ty => 1 + w30 p.1) (K := 31) (l := r.1.map bhd) fun p hp => by
    obtain ⟨b, hb, rfl⟩ := mem_map.1 hp;have := aG5 (aNs _ (b1 b hb).1);show 1 + w30 b.name ≤ 31;omega
   rw [length_map, b0] at h4;have h5 : w30 [] = 30 := rfl;simp only [map_nil, sum_nil];omega
  ·obtain ⟨b, hb, rfl⟩ := mem_map.1 hp;exact aR4 _ (b1 b hb).1
 split
 ·dsimp only;have h14 : (n / 14 % 4).toNat ≤ 3 := by omega
  obtain ⟨b0, b1⟩ := aFl h n (g (cD 2 l).2 left).2.1 (g (cD 2 l).2 left).2.2 (n / 14 % 4).toNat;generalize cE g n (g (cD 2 l).2 left).2.1 (g (cD 2 l).2 left).2.2 (n / 14 % 4).toNat = r at b0 b1 ⊢;refine i6 ⟨rfl, fun h => (by cases h), ht.wf, by simp, ?_, fun h => (by cases h), by simp, fun p hp v hv => ?_⟩ ht (one h3) (by simp) (fun b hb => (b1 b hb).2.2)
  ·unfold lw;have h4 := k8 (g := fun p : Str × List Str => 1 + w30 p.1 + (p.2.map fun v => 1 + w30 v).sum) (K := 124) (l := r.1.map ahd) fun p hp => by
    obtain ⟨b, hb, rfl⟩ := mem_map.1 hp;obtain ⟨g1, ⟨g2, g3⟩, _⟩ := b1 b hb;have e1 := aG5 g1;have e2 := k8 (g := fun v : Str => 1 + w30 v) (K := 31) (l := b.vars) fun v hv => by
     have := aG5 (aNs _ (g3 v hv));omega
    show 1 + w30 b.name + (b.vars.map fun v => 1 + w30 v).sum ≤ 124;omega
   rw [length_map, b0] at h4;have h5 : w30 [] = 30 := rfl;simp only [map_nil, sum_nil];omega
  ·obtain ⟨b, hb, rfl⟩ := mem_map.1 hp;exact aR4 _ ((b1 b hb).2.1.2 v hv)
 split
 ·exact i6 (cO rfl (fun h => by cases h) rfl (aBi _ (fL (by decide))) (fun h => by cases h)) .z (two h1 h2) (by simp) (by simp)
 ·exact i6 (cO rfl (fun h => by cases h) ht.wf (by decide) (fun h => by cases h)) ht (by simp) (by simp) (by simp)
theorem aK1 : ∀ f : Nat, MkM (nV f)
 | 0 => fun l left => aK4 (g := fun l left => ((.mk 0 0 [] zTy [] [] [], l, left) : Mk)) (fun _ _ => i6 (cO rfl (fun h => by cases h) rfl (by decide) (fun h => by cases h)) .z (by simp) (by simp) (by simp)) _ _ _ _
 | f + 1 => fun l left => aK4 (aK1 f) _ _ _ _
mutual
theorem aPl : ∀ t : Ty, t30 t ≤ 31 * tn t
 | .mk f n s a => by
  rw [tn, t30];have := aH9 a;omega
theorem aH9 : ∀ l : List Ty, aXd l ≤ 31 * tns l
 | [] => le_refl _
 | t :: l => by
  rw [tns, aXd];have := aPl t;have := aH9 l;omega
end
theorem aPm : ∀ vs : List Str, (vs.map fun v => 1 + w30 v).sum ≤ 31 * (vs.map fun v => 1 + v.length).sum
 | [] => le_refl _
 | v :: vs => by
  simp only [map_cons, sum_cons];have := aPm vs;unfold w30;unfold w30 at this;omega
mutual
theorem nK : ∀ c : Core, m30 c ≤ 31 * b6 c
 | .mk _ _ s _ ks bs al => by
  rw [b6, m30, w30];have := tY ks;have := tZ bs;have := u0 al;omega
theorem tY : ∀ l : List Core, cZ l ≤ 31 * bJ l
 | [] => by rw [bJ, cZ]; exact le_refl _
 | c :: l => by
  rw [bJ, cZ];have := nK c;have := tY l;omega
theorem tZ : ∀ l : List Bind, fV l ≤ 31 * cB l
 | [] => by rw [cB, fV]; exact le_refl _
 | .mk s _ c :: l => by
  rw [cB, bsize, fV, w30];have := nK c;have := tZ l;omega
theorem u0 : ∀ l : List Alt, hY l ≤ 31 * bZ l
 | [] => by rw [bZ, hY]; exact le_refl _
 | .mk _ _ s vs c :: l => by
  rw [bZ, lZ, hY, w30];have := nK c;have := u0 l;have := aPm vs;omega
end
def MkW (g : List Int → Int → Mk) : Prop := ∀ l left, wfC (g l left).1 = true ∧ allT (TOk 2790) (g l left).1
theorem aT9 : TOk 2790 zTy := ⟨by decide, by decide⟩
theorem aC6 (l : List Int) : TOk 2790 (cD 2 l).1 := by
 obtain ⟨h1, h2⟩ := aAo 2 l;have h3 := aPl (cD 2 l).1;have h4 : tsm 2 = 42 := rfl;exact ⟨h1, by omega⟩
theorem aCj : ∀ a b, oX (a ++ b) = (oX a && oX b)
 | [], b => by rw [nil_append, oX, Bool.true_and]
 | .mk s t c :: a, b => by rw [cons_append, oX, oX, aCj a b, Bool.and_assoc]
theorem aCl : ∀ a b, oY (a ++ b) = (oY a && oY b)
 | [], b => by rw [nil_append, oY, Bool.true_and]
 | .mk f n s v c :: a, b => by rw [cons_append, oY, oY, aCl a b, Bool.and_assoc]
theorem zM {g : List Int → Int → Mk} (h : MkW g) (ns : List Str) (l : List Int) (left : Int) : ∀ i : Nat, oX (bL g ns l left i).1 = true ∧ xA (TOk 2790) (bL g ns l left i).1
 | 0 => ⟨by simp [bL, oX], trivial⟩
 | i + 1 => by
  obtain ⟨h1, h2⟩ := zM h ns l left i;simp only [bL];generalize bL g ns l left i = r at h1 h2 ⊢;obtain ⟨h3, h4⟩ := h (cD 2 r.2.1).2 r.2.2;refine ⟨by rw [aCj, h1, oX, oX, h3]; rfl, kY.2 fun x hx => ?_⟩;rcases mem_append.1 hx with hx | hx
  ·exact kY.1 h2 x hx
  ·rw [mem_singleton.1 hx];exact ⟨aC6 _, h4⟩
theorem aFk {g : List Int → Int → Mk} (h : MkW g) (n : Int) (l : List Int) (left : Int) : ∀ i : Nat, oY (cE g n l left i).1 = true ∧ xB (TOk 2790) (cE g n l left i).1
 | 0 => ⟨by simp [cE, oY], trivial⟩
 | i + 1 => by
  obtain ⟨h1, h2⟩ := aFk h n l left i;simp only [cE];generalize cE g n l left i = r at h1 h2 ⊢;obtain ⟨h3, h4⟩ := h (aY r.2.1).2 r.2.2;have hx : ∃ f n' s v, (if i = 1 then Alt.mk 2 (n / 14) [] [] (g (aY r.2.1).2 r.2.2).1 else if i = 2 then .mk 3 0 [] [] (g (aY r.2.1).2 r.2.2).1 else .mk 1 0 (oneOf aK8 (n / 14 + i)) (aY r.2.1).1 (g (aY r.2.1).2 r.2.2).1) = .mk f n' s v (g (aY r.2.1).2 r.2.2).1 := by
   split
   ·exact ⟨_, _, _, _, rfl⟩
   ·split
    ·exact ⟨_, _, _, _, rfl⟩
    ·exact ⟨_, _, _, _, rfl⟩
  obtain ⟨f, n', s, v, e⟩ := hx;rw [e];refine ⟨by rw [aCl, h1, oY, oY, h3]; rfl, kZ.2 fun x hx => ?_⟩;rcases mem_append.1 hx with hx | hx
  ·exact kZ.1 h2 x hx
  ·rw [mem_singleton.1 hx];exact h4
theorem aK3 {g : List Int → Int → Mk} (h : MkW g) (n k : Int) (l : List Int) (left : Int) : wfC (dY g n k l left).1 = true ∧ allT (TOk 2790) (dY g n k l left).1 := by
 obtain ⟨h1, t1⟩ := h l left;obtain ⟨h2, t2⟩ := h (g l left).2.1 (g l left).2.2;obtain ⟨h3, t3⟩ := h (cD 2 l).2 left;have ht := aC6 l;have hz := aT9;unfold dY;split
 ·exact ⟨by simp [wfC, xH, oX, oY], hz, trivial, trivial, trivial⟩
 split
 ·exact ⟨by simp [wfC, xH, oX, oY], hz, trivial, trivial, trivial⟩
 split
 ·exact ⟨by simp [wfC, xH, oX, oY], hz, trivial, trivial, trivial⟩
 split
 ·exact ⟨by simp [wfC, xH, oX, oY, h1, h2], hz, ⟨t1, t2, trivial⟩, trivial, trivial⟩
 split
 ·exact ⟨by simp [wfC, xH, oX, oY, h3], ht, ⟨t3, trivial⟩, trivial, trivial⟩
 split
 ·exact ⟨by simp [wfC, xH, oX, oY, h3], ht, ⟨t3, trivial⟩, trivial, trivial⟩
 split
 ·exact ⟨by simp [wfC, xH, oX, oY, h1], hz, ⟨t1, trivial⟩, trivial, trivial⟩
 split
 ·obtain ⟨b1, b2⟩ := zM h (aY l).1 (aY l).2 left (aY l).1.length;generalize bL g (aY l).1 (aY l).2 left (aY l).1.length = r at b1 b2 ⊢;obtain ⟨h4, t4⟩ := h r.2.1 r.2.2;exact ⟨by simp [wfC, xH, oY, b1, h4], hz, ⟨t4, trivial⟩, b2, trivial⟩
 split
 ·obtain ⟨b1, b2⟩ := aFk h n (g (cD 2 l).2 left).2.1 (g (cD 2 l).2 left).2.2 (n / 14 % 4).toNat;dsimp only;generalize cE g n (g (cD 2 l).2 left).2.1 (g (cD 2 l).2 left).2.2 (n / 14 % 4).toNat = r at b1 b2 ⊢;exact ⟨by simp [wfC, xH, oX, b1, h3], ht, ⟨t3, trivial⟩, trivial, b2⟩
 split
 ·exact ⟨by simp [wfC, xH, oX, oY, h1, h2], hz, ⟨t1, t2, trivial⟩, trivial, trivial⟩
 ·exact ⟨by simp [wfC, xH, oX, oY], ht, trivial, trivial, trivial⟩
theorem aK0 : ∀ f : Nat, MkW (nV f)
 | 0 => fun l left => aK3 (g := fun l left => ((.mk 0 0 [] zTy [] [] [], l, left) : Mk)) (fun _ _ => ⟨by simp [wfC, xH, oX, oY], aT9, trivial, trivial, trivial⟩) _ _ _ _
 | f + 1 => fun l left => aK3 (aK0 f) _ _ _ _
theorem aVl (l : List Int) : wfC (lW l) = true ∧ allT (TOk 2790) (lW l) ∧ m30 (lW l) ≤ 93000 := by
 obtain ⟨h1, h2⟩ := aK0 6 (l.take 60) 30;have h3 := nK (lW l);have h4 := (aEe l).2
 exact ⟨h1, h2, by omega⟩
theorem aHb : ∀ {k : Nat} {t : Ty}, GT k t → TM tvN 3 t := by
 intro k t h
 induction h with
 | var s hs => exact .var hs
 | con s hs => exact .con
 | app ha hb iha ihb => exact .app iha ihb
theorem yG : ∀ s ∈ nm6, nh s := by unfold nh; decide
theorem tM : ∀ s ∈ nm6, s.length ≤ 30 := by decide
theorem aXt : ∀ s ∈ tvN, ¬ s = [] := by decide
theorem lwA {s : Str} {vs : List Str} (h3 : s.length ≤ 8) (h4 : ∀ x ∈ vs, x ∈ nm6) (h5 : vs.length ≤ 2) : 1 + w30 s + (vs.map fun v => 1 + w30 v).sum ≤ 93 := by
 have e1 := aG5 (show s.length ≤ 30 by omega);have e2 := k8 (g := fun v : Str => 1 + w30 v) (K := 31) (l := vs) fun v hv => by
  have := aG5 (tM _ (h4 v hv));omega
 omega
theorem aZj : ∀ {m : Nat} {c : Core}, GC m c → MW tvN c ∧ m30 c ≤ 31 * m ∧ 20 * tlC c ≤ m := by
 intro m c h;have hw0 : w30 ([] : Str) = 30 := rfl;have two : ∀ {x y : Core}, MW tvN x → MW tvN y → ∀ z ∈ [x, y], MW tvN z := fun hx hy z hz => by
  rcases mem_cons.1 hz with rfl | hz
  ·exact hx
  ·rw [mem_singleton.1 hz]; exact hy
 have one : ∀ {x : Core}, MW tvN x → ∀ z ∈ [x], MW tvN z := fun hx z hz => by rw [mem_singleton.1 hz]; exact hx
 induction h with
 | @var s h =>
  have := aG5 (tM _ h);refine ⟨i6 (cO rfl (fun h => by cases h) rfl (tM _ h) (fun h => by cases h)) .z (by simp) (by simp) (by simp), ?_, ?_⟩
  ·rw [m30, cZ, fV, hY]; omega
  ·rw [tlC, jI, pN, oZ, if_neg (by decide)]; omega
 | @con s h =>
  have := aG5 (show s.length ≤ 30 by omega);refine ⟨i6 (cO rfl (fun h => by cases h) rfl (by omega) (fun h => by cases h)) .z (by simp) (by simp) (by simp), ?_, ?_⟩
  ·rw [m30, cZ, fV, hY]; omega
  ·rw [tlC, jI, pN, oZ, if_neg (by decide)]; omega
 | int h =>
  refine ⟨i6 (cO rfl (fun h => by cases h) rfl (by decide) (fun h => by cases h)) .z (by simp) (by simp) (by simp), ?_, ?_⟩
  ·rw [m30, cZ, fV, hY]; omega
  ·rw [tlC, jI, pN, oZ, if_neg (by decide)]; omega
 | app ha hb iha ihb =>
  obtain ⟨a1, a2, a3⟩ := iha;obtain ⟨b1, b2, b3⟩ := ihb;refine ⟨i6 (cO rfl (fun h => by cases h) rfl (by decide) (fun h => by cases h)) .z (two a1 b1) (by simp) (by simp), ?_, ?_⟩
  ·rw [m30, cZ, cZ, cZ, fV, hY]; omega
  ·rw [tlC, jI, jI, jI, pN, oZ, if_neg (by decide)]; omega
 | @lam m k s t a h ht hk ha iha =>
  obtain ⟨a1, a2, a3⟩ := iha;have := aG5 (tM _ h);refine ⟨i6 (cO rfl (fun h => by cases h) (aHb ht).wf (tM _ h) (fun _ => yG _ h)) (aHb ht) (one a1) (by simp) (by simp), ?_, ?_⟩
  ·rw [m30, cZ, cZ, fV, hY]; omega
  ·rw [tlC, jI, jI, pN, oZ, if_neg (by decide)]; omega
 | tapp ht hk ha iha =>
  obtain ⟨a1, a2, a3⟩ := iha;refine ⟨i6 (cO rfl (fun h => by cases h) (aHb ht).wf (by decide) (fun h => by cases h)) (aHb ht) (one a1) (by simp) (by simp), ?_, ?_⟩
  ·rw [m30, cZ, cZ, fV, hY]; omega
  ·rw [tlC, jI, jI, pN, oZ, if_neg (by decide)]; omega
 | @tlam m s a h ha iha =>
  obtain ⟨a1, a2, a3⟩ := iha;have h8 := aY1 s h;have := aG5 (show s.length ≤ 30 by omega);refine ⟨i6 (cO rfl (fun _ => ⟨rfl, aXt s h⟩) rfl (by omega) (fun h => by cases h)) .z (one a1) (by simp) (by simp), ?_, ?_⟩
  ·rw [m30, cZ, cZ, fV, hY]; omega
  ·rw [tlC, jI, jI, pN, oZ, if_pos rfl]; omega
 | @lt m n k s t a b h ht hk ha hb iha ihb =>
  obtain ⟨a1, a2, a3⟩ := iha;obtain ⟨b1, b2, b3⟩ := ihb;have := aG5 (tM _ h);refine ⟨i6 ⟨rfl, fun h => (by cases h), rfl, fun p hp => ?_, ?_, fun h => (by cases h), fun p hp => ?_, by simp⟩ .z (one a1) (fun x hx => ?_) (by simp), ?_, ?_⟩
  ·rw [mem_singleton.1 hp]; exact (aHb ht).wf
  ·unfold lw;show 1 + w30 [] + (1 + w30 s + 0) + 0 ≤ 403;omega
  ·rw [mem_singleton.1 hp]; exact yG _ h
  ·rw [mem_singleton.1 hx]; exact ⟨aHb ht, b1⟩
  ·rw [m30, cZ, cZ, fV, fV, hY]; omega
  ·rw [tlC, jI, jI, pN, pN, oZ, if_neg (by decide)]; omega
 | @case1 m n k t a b f i s vs ht hk ha hb h1 h2 h3 h4 h5 iha ihb =>
  obtain ⟨a1, a2, a3⟩ := iha;obtain ⟨b1, b2, b3⟩ := ihb;have hl := lwA h3 h4 h5;refine ⟨i6 ⟨rfl, fun h => (by cases h), (aHb ht).wf, by simp, ?_, fun h => (by cases h), by simp, fun p hp v hv => ?_⟩ (aHb ht) (one a1) (by simp) (fun x hx => ?_), ?_, ?_⟩
  ·unfold lw;show 1 + w30 [] + 0 + (1 + w30 s + (vs.map fun v => 1 + w30 v).sum + 0) ≤ 403;omega
  ·rw [mem_singleton.1 hp] at hv; exact yG _ (h4 v hv)
  ·rw [mem_singleton.1 hx]; exact b1
  ·rw [m30, cZ, cZ, fV, hY, hY]; omega
  ·rw [tlC, jI, jI, pN, oZ, oZ, if_neg (by decide)]; omega
 | @case2 m n o k t a b c f i s vs f' i' s' vs' ht hk ha hb hc h1 h2 h3 h4 h5 h1' h2' h3' h4' h5' iha ihb ihc =>
  obtain ⟨a1, a2, a3⟩ := iha;obtain ⟨b1, b2, b3⟩ := ihb;obtain ⟨c1, c2, c3⟩ := ihc;have hl := lwA h3 h4 h5;have hl' := lwA h3' h4' h5';refine ⟨i6 ⟨rfl, fun h => (by cases h), (aHb ht).wf, by simp, ?_, fun h => (by cases h), by simp, fun p hp v hv => ?_⟩ (aHb ht) (one a1) (by simp) (fun x hx => ?_), ?_, ?_⟩
  ·unfold lw;show 1 + w30 [] + 0 + (1 + w30 s + (vs.map fun v => 1 + w30 v).sum + (1 + w30 s' + (vs'.map fun v => 1 + w30 v).sum + 0)) ≤ 403;omega
  ·have : p = (s, vs) ∨ p = (s', vs') := by simpa [ahd, Alt.name, Alt.vars] using hp
   rcases this with rfl | rfl
   ·exact yG _ (h4 v hv)
   ·exact yG _ (h4' v hv)
  ·have : x = .mk f i s vs b ∨ x = .mk f' i' s' vs' c := by simpa using hx
   rcases this with rfl | rfl
   ·exact b1
   ·exact c1
  ·rw [m30, cZ, cZ, fV, hY, hY, hY]; omega
  ·rw [tlC, jI, jI, pN, oZ, oZ, oZ, if_neg (by decide)]; omega
 | @prim m n s a b h ha hb iha ihb =>
  obtain ⟨a1, a2, a3⟩ := iha;obtain ⟨b1, b2, b3⟩ := ihb;have := aG5 (aBi _ h);refine ⟨i6 (cO rfl (fun h => by cases h) rfl (aBi _ h) (fun h => by cases h)) .z (two a1 b1) (by simp) (by simp), ?_, ?_⟩
  ·rw [m30, cZ, cZ, cZ, fV, hY]; omega
  ·rw [tlC, jI, jI, jI, pN, oZ, if_neg (by decide)]; omega
 | fail ht hk =>
  refine ⟨i6 (cO rfl (fun h => by cases h) (aHb ht).wf (by decide) (fun h => by cases h)) (aHb ht) (by simp) (by simp) (by simp), ?_, ?_⟩
  ·rw [m30, cZ, fV, hY]; omega
  ·rw [tlC, jI, pN, oZ, if_neg (by decide)]; omega
def V0 : List Str := l9 ++ tvN
theorem aW8 : ¬ ([] : Str) ∈ V0 := by decide
theorem aQ8 : V0.length = 8 := rfl
theorem MW.mono {V W : List Str} {c : Core} (h : MW V c) (hv : ∀ x ∈ V, x ∈ W) : MW W c := ⟨h.q, h.w, fun x hx => hv x (h.v x hx)⟩
structure MK (c : Core) : Prop where
 m : MW V0 c
 t : tlC c ≤ 6000
 s : m30 c ≤ 3500000
theorem MK.st {c : Core} (h : MK c) (n : Nat) : ST n V0 c := ST.of h.m h.t h.s n
theorem aJr (l : List Int) : MK (lW l) := by
 obtain ⟨_, _, h3⟩ := aVl l;have hm : MW l9 (lW l) := aK1 6 (l.take 60) 30;refine ⟨hm.mono fun x hx => mem_append.2 (.inl hx), ?_, by omega⟩;have h1 := n5 (lW l);have h2 := (aEe l).2
 have h4 := size_le (lW l);omega
theorem aYg {m : Nat} {c : Core} (h : GC m c) (hm : m ≤ 110000) : MK c := by
 obtain ⟨h1, h2, h3⟩ := aZj h;exact ⟨h1.mono fun x hx => mem_append.2 (.inr hx), by omega, by omega⟩
def fA : Ty := .mk 2 0 [97] []
def fB : Ty := .mk 2 0 [98] []
def tcn (s : Str) : Ty := .mk 3 0 s []
def tap (f a : Ty) : Ty := .mk 4 0 [] [f, a]
def tal (s : Str) (t : Ty) : Ty := .mk 5 0 s [t]
def kS : Ty := tap (tcn [76]) fA
def wM : Ty := tap (tap (tcn [80]) fA) fB
def fId : Ty := tal [98] (i7 fB fB)
def aSl : Ty := tap (tcn [75, 64]) fA
def aJj : Str := [66, 111, 111, 108]
def FL : List Fld := [⟨[78], 0, 2, 0, tal [97] kS⟩, ⟨[67], 1, 2, 2, tal [97] (i7 fA (i7 kS kS))⟩, ⟨[80], 0, 1, 2, tal [97] (tal [98] (i7 fA (i7 fB wM)))⟩,
 ⟨[70, 97, 108, 115, 101], 0, 2, 0, tcn aJj⟩, ⟨[84, 114, 117, 101], 1, 2, 0, tcn aJj⟩, ⟨[75, 64], 0, 1, 2, tal [97] (i7 fA (i7 fId aSl))⟩]
theorem aOs : aU Tryz.prog 34 [] [] (.one (.c (.sl 8 (FL.map iO)))) [] := by
 have h1 := gH [76];have h2 := gH [80];have h3 := gH [75, 64];have h4 := gH aJj;have h5 := rU fB fB;have h6 := oR [97] kS;have h7 := rU kS kS;have h8 := rU fA (i7 kS kS);have h9 := oR [97] (i7 fA (i7 kS kS));have h10 := rU fB wM;have h11 := rU fA (i7 fB wM);have h12 := oR [98] (i7 fA (i7 fB wM));have h13 := oR [97] (tal [98] (i7 fA (i7 fB wM)));have h14 := rU fId aSl;have h15 := rU fA (i7 fId aSl);have h16 := oR [97] (i7 fA (i7 fId aSl));refine bT (n := 59) tok Tryz.func34 rfl rfl rfl ?_;refine a8 (ag [] rfl ?_);refine a8 (ag [] rfl ?_);refine AWp.sub (vp 1 (bD fA)) ?_;refine a8 (ag [] rfl ?_);refine AWp.sub (vp 2 (bD fB)) ?_;refine a8 (ag [(0, .pc (tyV (tcn [76]))), (2, .all)] rfl ?_);refine a8 (ag [(0, .pc (tyV (tcn [80]))), (2, .all), (5, .all)] rfl ?_);refine a8 (ag [(2, .pc (tyV (i7 fB fB))), (3, .all)] rfl ?_);refine a8 (ag [(0, .pc (tyV (tcn [75, 64]))), (2, .all)] rfl ?_);refine a8 (ag [(1, .pc (tyV (tal [97] kS))), (6, .pc (tyV (i7 kS kS))), (7, .pc (tyV (i7 fA (i7 kS kS)))), (8, .pc (tyV (tal [97] (i7 fA (i7 kS kS))))), (13, .pc (tyV (i7 fB wM))), (14, .pc (tyV (i7 fA (i7 fB wM)))), (15, .pc (tyV (tal [98] (i7 fA (i7 fB wM))))), (16, .pc (tyV (tal [97] (tal [98] (i7 fA (i7 fB wM)))))), (18, .pc (tyV (tcn aJj))), (20, .pc (tyV (tcn aJj))), (25, .pc (tyV (i7 fId aSl))), (26, .pc (tyV (i7 fA (i7 fId aSl)))), (27, .pc (tyV (tal [97] (i7 fA (i7 fId aSl))))), (29, .all)] rfl ?_);exact aI rtT
theorem aA4 {l : List Core} {i : Nat} {x : Core} (h : l[i]? = some x) : bK (l.take (i + 1)) = bK (l.take i) + eU x := by
 induction l generalizing i with
 | nil => simp at h
 | cons c l ih => cases i with
  | zero =>
   have : c = x := by simpa using h
   subst this;simp [bK]
  | succ i =>
   rw [take_succ_cons, take_succ_cons, bK, bK, ih (by simpa using h)]; omega
theorem aA5 {l : List Bind} {i : Nat} {x : Bind} (h : l[i]? = some x) : dL (l.take (i + 1)) = dL (l.take i) + eU x.body := by
 induction l generalizing i with
 | nil => simp at h
 | cons c l ih => cases i with
  | zero =>
   have : c = x := by simpa using h
   subst this;obtain ⟨s, t, c⟩ := c;simp [dL, Bind.body]
  | succ i =>
   obtain ⟨s, t, c⟩ := c;rw [take_succ_cons, take_succ_cons, dL, dL, ih (by simpa using h)]; omega
theorem aA6 {l : List Alt} {i : Nat} {x : Alt} (h : l[i]? = some x) : dS (l.take (i + 1)) = dS (l.take i) + eU x.body := by
 induction l generalizing i with
 | nil => simp at h
 | cons c l ih => cases i with
  | zero =>
   have : c = x := by simpa using h
   subst this;obtain ⟨f, n, s, v, c⟩ := c;simp [dS, Alt.body]
  | succ i =>
   obtain ⟨f, n, s, v, c⟩ := c;rw [take_succ_cons, take_succ_cons, dS, dS, ih (by simpa using h)]; omega
theorem aIc {l : List Core} (i : Nat) : bK (l.take i) ≤ bK l := by
 induction l generalizing i with
 | nil => simp
 | cons c l ih => cases i with
  | zero => simp [bK]
  | succ i => rw [take_succ_cons, bK, bK]; have := ih i; omega
theorem aIe {l : List Bind} (i : Nat) : dL (l.take i) ≤ dL l := by
 induction l generalizing i with
 | nil => simp
 | cons c l ih => cases i with
  | zero => simp [dL]
  | succ i => obtain ⟨s, t, c⟩ := c; rw [take_succ_cons, dL, dL]; have := ih i; omega
theorem aIf {l : List Alt} (i : Nat) : dS (l.take i) ≤ dS l := by
 induction l generalizing i with
 | nil => simp
 | cons c l ih => cases i with
  | zero => simp [dS]
  | succ i => obtain ⟨f, n, s, v, c⟩ := c; rw [take_succ_cons, dS, dS]; have := ih i; omega
def xD (c : Core) : Prop := b6 c ≤ 570000000000 → aU Tryz.prog 13 [.pa (aC c)] [] (I .i64 (eU c : Nat)) []
theorem wT (c : Core) (ih : ∀ x, b6 x < b6 c → xD x) : xD c := by
 intro hsz;have hsl := size_le c;obtain ⟨f, n, s, t, ks, bs, al⟩ := c;obtain ⟨ihk, ihb, iha, hkl', hbl', hal'⟩ := @kA f n s t ks bs al;rw [eU, show 1 + (bK ks + (dL bs + dS al)) = 1 + bK ks + dL bs + dS al by omega] at hsl ⊢;have hkB : (aR bs).length = bs.length := by rw [bO, length_map]
 have hkK : (aQ ks).length = ks.length := by rw [bC, length_map]
 have hkA : (c9 al).length = al.length := by rw [bH, length_map]
 have t1 : ∀ i, bK (ks.take i) ≤ bK ks := fun i => aIc i
 have t2 : ∀ i, dL (bs.take i) ≤ dL bs := fun i => aIe i
 have t3 : ∀ i, dS (al.take i) ≤ dS al := fun i => aIf i
 refine bT (n := 55) tok Tryz.func13 rfl rfl rfl ?_;refine a8 (ag [] rfl ?_);refine a8 (ag [] rfl ?_);refine a8 (a8 (ag [] rfl ?_));refine aB ?_;refine aL (fun i : Nat => mk [(1, .one (.vp 1 0)), (3, I .i64 (1 + bK (ks.take i) : Nat)), (4, I .i64 i)] [(1, .var 37 (bB (.mk f n s t ks bs al)))]) (fun i => i ≤ ks.length) (fun i => ks.length - i) 0 (zero_le _) sl ?_;intro i hi;refine a8 (a8 (ag [] rfl ?_));refine aA rfl (fun hb => ?_) (fun hb => ?_)
 ·have hlt : i < ks.length := ltD hb hkK;obtain ⟨x, hx⟩ := aK hlt;have hxm := List.mem_of_getElem? hx;have hx' : (aQ ks)[i]? = some (aC x) := by rw [bC]; exact bQ aC hx
  have hc := ih x (ihk x hxm) (by have := ihk x hxm; omega);have hst := aA4 hx;have h1 := t1 (i + 1);have e : (((1 + bK (ks.take i) : Nat) : Nat) : Int) + ((eU x : Nat) : Int) = ((1 + bK (ks.take (i + 1)) : Nat) : Int) := by omega
  refine aD ?_;refine a8 (aB ?_);refine aE mixed ?_;refine ak 6 [(4, .row i (aC x))] rfl ?_;refine kc hc ?_;refine ak 2 [] rfl ?_;refine az ?_;refine ag [] rfl ?_;refine ⟨i + 1, hlt, by dsimp only; omega, ?_⟩;dsimp only;rw [← e];exact sl
 have hge := geD hb hkK hi;subst hge;rw [take_length];refine aM ?_;refine a8 (a8 (ag [] rfl ?_));refine aB ?_;refine aL (fun i : Nat => mk [(1, .one (.vp 1 0)), (3, I .i64 (1 + bK ks + dL (bs.take i) : Nat)), (5, I .i64 i)] [(1, .var 37 (bB (.mk f n s t ks bs al)))]) (fun i => i ≤ bs.length) (fun i => bs.length - i) 0 (zero_le _) sl ?_;intro i hi;refine a8 (a8 (ag [] rfl ?_));refine aA rfl (fun hb => ?_) (fun hb => ?_)
 ·have hlt : i < bs.length := ltD hb hkB;obtain ⟨x, hx⟩ := aK hlt;have hxm := List.mem_of_getElem? hx;have hx' := dC hx;have hc := ih x.body (ihb x hxm) (by have := ihb x hxm; omega);have hst := aA5 hx;have h1 := t2 (i + 1);obtain ⟨xs, xt, xc⟩ := x;dsimp only [Bind.body] at hc hst;have e : (((1 + bK ks + dL (bs.take i) : Nat) : Nat) : Int) + ((eU xc : Nat) : Int) = ((1 + bK ks + dL (bs.take (i + 1)) : Nat) : Int) := by omega
  refine aD ?_;refine a8 (aB ?_);refine aE mixed ?_;refine ak 7 [(4, .row i (bA (.mk xs xt xc)))] rfl ?_;refine kc hc ?_;refine ak 2 [] rfl ?_;refine az ?_;refine ag [] rfl ?_;refine ⟨i + 1, hlt, by dsimp only; omega, ?_⟩;dsimp only;rw [← e];exact sl
 have hge := geD hb hkB hi;subst hge;rw [take_length];refine aM ?_;refine a8 (a8 (ag [] rfl ?_));refine aB ?_;refine aL (fun i : Nat => mk [(1, .one (.vp 1 0)), (3, I .i64 (1 + bK ks + dL bs + dS (al.take i) : Nat)), (6, I .i64 i)] [(1, .var 37 (bB (.mk f n s t ks bs al)))]) (fun i => i ≤ al.length) (fun i => al.length - i) 0 (zero_le _) sl ?_;intro i hi;refine a8 (a8 (ag [] rfl ?_));refine aA rfl (fun hb => ?_) (fun hb => ?_)
 ·have hlt : i < al.length := ltD hb hkA;obtain ⟨x, hx⟩ := aK hlt;have hxm := List.mem_of_getElem? hx;have hx' := oM hx;have hc := ih x.body (iha x hxm) (by have := iha x hxm; omega);have hst := aA6 hx;have h1 := t3 (i + 1);obtain ⟨xf, xn, xs, xv, xc⟩ := x;dsimp only [Alt.body] at hc hst;have e : (((1 + bK ks + dL bs + dS (al.take i) : Nat) : Nat) : Int) + ((eU xc : Nat) : Int) = ((1 + bK ks + dL bs + dS (al.take (i + 1)) : Nat) : Int) := by omega
  refine aD ?_;refine a8 (aB ?_);refine aE mixed ?_;refine ak 7 [(4, .row i (dQ (.mk xf xn xs xv xc)))] rfl ?_;refine kc hc ?_;refine ak 2 [] rfl ?_;refine az ?_;refine ag [] rfl ?_;refine ⟨i + 1, hlt, by dsimp only; omega, ?_⟩;dsimp only;rw [← e];exact sl
 have hge := geD hb hkA hi;subst hge;rw [take_length];refine aM ?_;refine a8 (ag [] rfl ?_);exact aI rtT
theorem aE8 : ∀ (n : Nat) (c : Core), b6 c ≤ n → xD c
 | 0, c, h => by have := eZ c; omega
 | n + 1, c, h => wT c fun x hx => aE8 n x (by omega)
def aKt (x : List Int) : List C := [.sl 1 (x.map aGr)]
def nm3 : List Str := [[120], [121], [98]]
def TyC (l : List Int) (p : Core × Ty) : Prop := MK p.1 ∧ aU Tryz.prog 10 [aVw l] [] (.tup [.pa (aC p.1), tyV p.2]) []
theorem aWd (l : List Int) (hl : aAj l) (hf : Fits l) : ∃ p, TyC l p := by
 obtain ⟨c, t, m, h1, h2, _, h3⟩ := aSo l hl hf;exact ⟨(c, t), aYg h1 h2, h3⟩
def aD9 (g : List Int → Core × Ty) (typed : Bool) (p : List Int × Str) : Bind := .mk p.2 (g p.1).2 (if typed = true then (g p.1).1 else lW p.1)
theorem aOg (ls : List (List Int)) (typed : Bool) (hl : ∀ x ∈ ls, aAj x ∧ Fits x) (hf : ls.length ≤ 1152921504606846976) :
  ∃ bd : List Bind, bd.length ≤ 3 ∧ (∀ b ∈ bd, MK b.body) ∧ aU Tryz.prog 8 [.one (.c (.sl 1 (ls.map aKt))), B typed] [] (.tup [.pa (jK ⟨FL, bd⟩), .pa (jK ⟨FL, bd⟩)]) [] := by
 have hch : ∀ x : List Int, ∃ p : Core × Ty, x ∈ ls → TyC x p := fun x => by
  by_cases hx : x ∈ ls
  ·obtain ⟨p, hp⟩ := aWd x (hl x hx).1 (hl x hx).2;exact ⟨p, fun _ => hp⟩
  ·exact ⟨(zC, zTy), fun h => absurd h hx⟩
 obtain ⟨g, hg⟩ := Classical.axiomOfChoice hch;have hzl : (ls.zip nm3).length = min ls.length 3 := by rw [length_zip]; rfl
 refine ⟨(ls.zip nm3).map (aD9 g typed), by rw [length_map]; omega, fun b hb => ?_, ?_⟩
 ·obtain ⟨p, hp, rfl⟩ := mem_map.1 hb;have hp1 := (List.of_mem_zip (a := p.1) (b := p.2) hp).1
  unfold aD9;dsimp only [Bind.body];split
  ·exact (hg p.1 hp1).1
  ·exact aJr p.1
 have hfl := aOs;have hkl : (ls.map aKt).length = ls.length := length_map _;refine bT (n := 53) tok Tryz.func8 rfl rfl rfl ?_;refine a8 (ag [] rfl ?_);refine a8 (ag [] rfl ?_);refine AWp.sub (Sub.own (t := 6) (id := 720) 73 15 rfl rfl) ?_;refine a8 (a8 (ag [] rfl ?_));refine aB ?_;refine aL (fun i : Nat => mk [(0, .one (.c (.sl 1 (ls.map aKt)))), (1, B typed), (4, .one (.vp 4 0)), (5, .one (.vp 5 0)), (6, .one (.hs 720 0 i i)), (7, I .i64 i)] [(4, .var 27 [.c .nl, .c .nl]), (5, .var 28 [.c .nl, .c .nl]), (720, .arr 73 15 (((ls.zip nm3).take i).map fun p => bA (aD9 g typed p)) 0)]) (fun i => i ≤ (ls.zip nm3).length) (fun i => (ls.zip nm3).length - i) 0 (zero_le _) sl ?_;intro i hi;refine a8 (a8 (agF 5 [] rfl rfl rfl ?_));refine aA rfl (fun hb => ?_) (fun hb => ?_)
 ·have hlt : i < ls.length ∧ i < 3 := by
   have h := oW hb;rw [hkl] at h;omega
  obtain ⟨x, hx⟩ := aK hlt.1;obtain ⟨s, hs⟩ := aK (show i < nm3.length from hlt.2);have hxm := List.mem_of_getElem? hx;have hx' := bQ aKt hx;have hs' := bQ bN hs;have hz : (ls.zip nm3)[i]? = some (x, s) := by rw [List.getElem?_zip_eq_some]; exact ⟨hx, hs⟩
  have hrows := qQ (fun p => bA (aD9 g typed p)) hz;obtain ⟨h1, h2⟩ := hg x hxm;have hmd := aQu x (hl x hxm).1 (hl x hxm).2;refine aD ?_;refine a8 (aB ?_);refine a8 (aE mixed ?_);refine ak 4 [(2, .row i (aKt x))] rfl ?_;refine kc h2 ?_;refine ak 7 [] rfl ?_;refine az ?_;refine a8 (a8 (ag [] rfl ?_));refine AWp.cut (mk [(0, .one (.c (.sl 1 (ls.map aKt)))), (1, B typed), (4, .one (.vp 4 0)), (5, .one (.vp 5 0)), (6, .one (.hs 720 0 i i)), (7, I .i64 i), (8, .one (.vp 8 0)), (9, .one (.vp 9 0))] [(4, .var 27 [.c .nl, .c .nl]), (5, .var 28 [.c .nl, .c .nl]), (8, .var 37 (bB (aD9 g typed (x, s)).body)), (9, .var 33 ((bD (g x).2).map .c)), (720, .arr 73 15 (((ls.zip nm3).take i).map fun p => bA (aD9 g typed p)) 0)]) ?_ ?_
  ·cases typed with
   | true =>
    refine aA rfl (fun hb => by cases hb) (fun _ => ?_);exact aD sl
   | false =>
    refine aA rfl (fun _ => ?_) (fun hb => by cases hb);refine aE mixed ?_;refine ak 4 [(2, .row i (aKt x))] rfl ?_;refine kc hmd ?_;refine ak 1 [] rfl ?_;refine az ?_;exact sl
  have hbd : aD9 g typed (x, s) = .mk s (g x).2 (aD9 g typed (x, s)).body := rfl;rw [hbd] at hrows;generalize (aD9 g typed (x, s)).body = body at *;have hi3 : i ≤ 3 := by omega
  have hki : i = (((ls.zip nm3).take i).map fun p => bA (aD9 g typed p)).length := by rw [length_map, length_take]; omega
  have hs2 : ([[C.str [120]], [C.str [121]], [C.str [98]]] : List (List C))[i]? = some (bN s) := hs';refine ag [(1, .all), (3, .row i (bN s)), (8, .all)] rfl ?_;refine ag [] rfl ?_;exact ⟨i + 1, by omega, by dsimp only; omega, sl (he := ⟨rfl, rfl, rfl, rfl, Go.AM.hs_ren (by show _ + 1 = i + 1; omega) (by show _ + 1 = i + 1; omega), rfl, trivial⟩)⟩
 have hge : i = (ls.zip nm3).length := by
  have hn : ¬ (i < ls.length ∧ i < 3) := by
   rintro ⟨h1, h2⟩;have e1 : decide ((i : Int) < ((ls.map aKt).length : Int)) = true := decide_eq_true (by rw [hkl]; omega);have e2 : decide ((i : Int) < 3) = true := decide_eq_true (by omega);have hb : (bif decide ((i : Int) < ((ls.map aKt).length : Int)) then decide ((i : Int) < 3) else false) = false := hb;rw [e1, e2] at hb;cases hb
  omega
 subst hge;have hKs : ((ls.zip nm3).take (ls.zip nm3).length).map (fun p => bA (aD9 g typed p)) = ((ls.zip nm3).map (aD9 g typed)).map bA := by rw [take_length, map_map]; rfl
 rw [hKs];have hl2 : (ls.zip nm3).length = (((ls.zip nm3).map (aD9 g typed)).map bA).length := by rw [length_map, length_map]
 refine aM ?_;refine AWp.sub (Sub.freeze (id := 720) rfl) (AWp.sub (cv 6 (((ls.zip nm3).map (aD9 g typed)).map bA)) ?_);refine a8 (aE mixed ?_);refine kc hfl ?_;refine ak 1 [] rfl ?_;refine az ?_;refine a8 (ag [] rfl ?_);exact aI (aZe trw)
theorem aVv : dR 540000000000 := fun k hk => aLi k (by omega)
theorem aY0 {bd : List Bind} (h3 : bd.length ≤ 3) (h : ∀ b ∈ bd, MK b.body) : BI V0 bd := ⟨by omega, fun b hb => (h b hb).st 0⟩
theorem uO (x : Int) (k : Nat) (hk : 1 ≤ k) : ∃ d : Nat, d < k ∧ jX x k = (d : Int) := by
 obtain ⟨h1, h2⟩ := dU x (k := k) (by omega);exact ⟨(jX x k).toNat, by omega, by omega⟩
theorem aYz : ∀ x ∈ FL, x.arity ≤ ((10 : Nat) : Int) := by
 intro x hx;simp only [FL, mem_cons, not_mem_nil, or_false] at hx;rcases hx with rfl | rfl | rfl | rfl | rfl | rfl <;> decide
theorem aYw {m : Mod} {n F : Nat} {c : Core} (hB : BI V0 m.binds) (hF : n + F ≤ 78) (h : ST n V0 c) : VG m n V0 F c :=
 ⟨by omega, h, aW8, hB, by have := h.tl; have := aQ8; omega⟩
theorem aV4 {F d : Nat} {c : Core} {G : Nat} (hG : 400000000 ≤ G) (hF : F ≤ 78) (hd : d ≤ 10) (hs : m30 c ≤ 3500000) : F * MZ + m30 c + d < G := by
 have h1 := aTo hF;have h2 : MZ = 3500001 := rfl;omega
theorem aOv (l : List Int) (ls : List (List Int)) (typed : Bool) (x3 x4 : Int) (hl : aAj l) (hf : Fits l) (hls : ∀ x ∈ ls, aAj x ∧ Fits x) (hlf : ls.length ≤ 1152921504606846976) (h3 : i64 x3) (h4 : i64 x4) :
  aU Tryz.prog 5 [aVw l, .one (.c (.sl 1 (ls.map aKt))), B typed, I .i64 x3, I .i64 x4] [] (B true) [] := by
 have hI := aVv;obtain ⟨bd, b1, b2, hm⟩ := aOg ls typed hls hlf;have hmd := aQu l hl hf;obtain ⟨tp, tm, ht⟩ := aWd l hl hf;obtain ⟨d0, hd, hde⟩ := uO x3 4 (by omega);obtain ⟨k0, hk, hke⟩ := uO x4 40 (by omega);have ha3 := j3 x3 4 h3 (by omega);have ha4 := j3 x4 40 h4 (by omega);rw [show ((4 : Int)) = ((4 : Nat) : Int) from rfl, hde] at ha3;rw [show ((40 : Int)) = ((40 : Nat) : Int) from rfl, hke] at ha4;obtain ⟨d, hdd⟩ : ∃ d : Nat, d = d0 + 1 := ⟨_, rfl⟩
 obtain ⟨k, hkk⟩ : ∃ k : Nat, k = k0 + 8 := ⟨_, rfl⟩
 have hdi : (1 : Int) + (d0 : Int) = (d : Int) := by omega
 have hki : (8 : Int) + (k0 : Int) = (k : Int) := by omega
 obtain ⟨c, hc⟩ : ∃ c, c = if typed = true then tp.1 else lW l := ⟨_, rfl⟩
 have hcM : MK c := by
  rw [hc];split
  ·exact tm
  ·exact aJr l
 have hB : BI V0 (Mod.mk FL bd).binds := aY0 b1 b2;obtain ⟨g, hG⟩ : ∃ g, 400000000 ≤ g + 1 := ⟨400000000, by omega⟩
 have hU : V0.length ≤ 480000 := by rw [aQ8]; omega
 have hV : ∀ (n F : Nat) (x : Core), n + F ≤ 78 → ST n V0 x → aU Tryz.prog 17 [.pa (jK ⟨FL, bd⟩), .pa (aC x), I .i64 d, I .i64 F] [] (veV (dV ⟨FL, bd⟩ (g + 1) d F x)) [] := fun n F x hF hx =>
  aS9 hI (m := ⟨FL, bd⟩) (by show FL.length ≤ 1000; decide) (g + 1) d n F V0 x (by omega) (aYw hB hF hx) (aV4 hG (by omega) (by omega) hx.sz)
 have hA := hV 0 k c (by omega) (hcM.st 0);have fA := uW (m := ⟨FL, bd⟩) (K := 10) aYz (g + 1) d k c;generalize hAe : dV ⟨FL, bd⟩ (g + 1) d k c = A at *;have hsA := aS1 (K := 10) (by omega) _ A.1 (le_refl _) fA;have hlv := aLh;obtain ⟨av, aF, ae⟩ := A;dsimp only at hsA;refine bT (n := 89) tok Tryz.func5 rfl rfl rfl ?_;refine a8 (ag [] rfl ?_);refine a8 (aE mixed ?_);refine ak 2 [] rfl ?_;refine kc hm ?_;refine ak 7 [] rfl ?_;refine az ?_;refine a8 (ag [(1, .pc (.pa (aC (lW l))))] rfl ?_);refine a8 (a8 (ag [] rfl ?_));refine AWp.cut (mk [(3, I .i64 x3), (4, I .i64 x4), (11, .one (.vp 11 0)), (13, .one (.vp 13 0))] [(11, .var 27 ((jK ⟨FL, bd⟩).map .c)), (13, .var 37 (bB c))]) ?_ ?_
 ·cases typed with
  | true =>
   have e : c = tp.1 := hc;rw [e];refine aA rfl (fun _ => ?_) (fun hb => by cases hb);refine ag [(1, .pc (.tup [.pa (aC tp.1), tyV tp.2]))] rfl ?_;exact sl
  | false =>
   have e : c = lW l := hc;rw [e];refine aA rfl (fun hb => by cases hb) (fun _ => ?_);exact aD sl
 refine a8 (ag [(1, .pc (I .i64 (d0 : Int)))] rfl ?_);refine a8 (ag [(1, .pc (I .i64 (k0 : Int)))] rfl ?_);rw [hdi, hki];refine a8 (aE mixed ?_);refine ak 4 [] rfl ?_;refine kc hA ?_;refine ak 6 [] rfl ?_;refine az ?_;refine a8 (a8 (ag [] rfl ?_));refine aB ?_;refine aL (fun p : Nat × Core => mk [(11, .one (.vp 11 0)), (13, .one (.vp 13 0)), (14, I .i64 d), (15, I .i64 k), (16, .one (.vp 16 0)), (17, I .i64 ae), (18, I .i64 (p.1 + 1 : Nat))] [(11, .var 27 ((jK ⟨FL, bd⟩).map .c)), (13, .var 37 (bB p.2)), (16, .var 52 ((jE av).map .c))]) (fun p => p.1 ≤ 8 ∧ ST p.1 V0 p.2 ∧ (dV ⟨FL, bd⟩ (g + 1) d (k - p.1) p.2).1 = av ∧ (dV ⟨FL, bd⟩ (g + 1) d (k - p.1) p.2).2.2 = ae) (fun p => 8 - p.1) (0, c) ⟨by omega, hcM.st 0, by rw [sub_zero, hAe], by rw [sub_zero, hAe]⟩ sl ?_;rintro ⟨i, x⟩ ⟨hi, hx, hv1, hv2⟩;dsimp only at hi hx hv1 hv2 ⊢;refine a8 (a8 (ag [] rfl ?_));refine aA rfl (fun hb => ?_) (fun hb => ?_)
 ·have hlt : i < 8 := by have := of_decide_eq_true hb; omega
  have hst := aLn hI (n := i) (U := V0) (by omega) hU aW8 (m := ⟨FL, bd⟩) hB hx;have hok := pQ hI (n := i) (by omega) hU hB (m30 x) x (le_refl _) hx;have hszx := hx.sz;obtain ⟨F, hF⟩ : ∃ F, k - i = F + 1 := ⟨k - i - 1, by omega⟩
  have hki2 : ((k : Nat) : Int) - (((i + 1 : Nat) : Nat) : Int) = ((F : Nat) : Int) := by omega
  have hon := fun h1 h2 h3 => aRj (md := ⟨FL, bd⟩) (g := g) (d := d) (F := F) (c := x) h1 h2 h3
  rw [hF] at hv1 hv2;have hsp : (∃ e, ¬ e = 0 ∧ vD bd x = (zC, e)) ∨ (shC x = false ∧ (cV bd (m30 x) x).2 = 0 ∧ vD bd x = ((cV bd (m30 x) x).1, 0)) := by
   unfold vD;cases hs : shC x with
   | true => exact .inl ⟨21, by decide, by rw [if_pos rfl]⟩
   | false =>
    by_cases h0 : (cV bd (m30 x) x).2 = 0
    ·exact .inr ⟨rfl, h0, by rw [if_neg Bool.false_ne_true, if_pos h0]⟩
    ·exact .inl ⟨_, h0, by rw [if_neg Bool.false_ne_true, if_neg h0]⟩
  have hst : aU Tryz.prog 11 [.pa (jK ⟨FL, bd⟩), .pa (aC x)] [] (fH (vD bd x)) [] := hst;rcases hsp with ⟨e, he, hse⟩ | ⟨hs, h0, hse⟩
  ·rw [hse] at hst;have e1 : (!decide (e = 0)) = true := by simp [he]
   refine aD ?_;refine a8 (aB ?_);refine a8 (aE mixed ?_);refine ak 2 [] rfl ?_;refine kc hst ?_;refine ak 6 [] rfl ?_;refine az ?_;refine a8 (a8 (ag [(2, .bv true), (6, .bv true)] rfl ?_));refine aA rfl (fun _ => ?_) (fun hb => by cases hb);refine aM ?_;refine a8 (aE mixed ?_);refine kc hlv ?_;refine ak 1 [] rfl ?_;refine az ?_;exact aI rtT
  ·rw [hse] at hst;have hr : SR (i + 1) V0 (m30 x) (cV bd (m30 x) x).1 := hok h0;have hrb := hr.big hszx;have hcr := dA (cV bd (m30 x) x).1;have hB2 : Big = 250000000000 := rfl;have hze := aE8 (b6 (cV bd (m30 x) x).1) _ (le_refl _) (by omega);refine aD ?_;refine a8 (aB ?_);refine a8 (aE mixed ?_);refine ak 2 [] rfl ?_;refine kc hst ?_;refine ak 6 [] rfl ?_;refine az ?_;refine a8 (a8 (ag [(2, .bv false), (4, .pc (I .i64 (eU (cV bd (m30 x) x).1 : Nat))), (6, .bv false)] rfl ?_));by_cases hbig : 400 < eU (cV bd (m30 x) x).1
   ·refine aA rfl (fun _ => ?_) (fun hb => absurd hb (by simp; omega));refine aM ?_;refine a8 (aE mixed ?_);refine kc hlv ?_;refine ak 1 [] rfl ?_;refine az ?_;exact aI rtT
   ·refine aA rfl (fun hb => absurd hb (by simp; omega)) (fun _ => ?_);obtain ⟨o1, o2⟩ := hon hs h0 (by show eU (cV bd (m30 x) x).1 ≤ 6000; omega);have o1 : _ = (dV ⟨FL, bd⟩ (g + 1) d F (cV bd (m30 x) x).1).1 := o1;have o2 : _ = (dV ⟨FL, bd⟩ (g + 1) d F (cV bd (m30 x) x).1).2.2 := o2;rw [hv1] at o1;rw [hv2] at o2;have hrs := hr.st (by omega);have hV2 := hV (i + 1) F _ (by omega) hrs;generalize (cV bd (m30 x) x).1 = y at *;generalize hTe : dV ⟨FL, bd⟩ (g + 1) d F y = T at *;obtain ⟨bv, bF, be⟩ := T;dsimp only at o1 o2;subst o1;subst o2;have e2 : (!decide (ae = ae)) = false := by simp
    have hFk : k - (i + 1) = F := by omega
    refine aD ?_;refine a8 (aE mixed ?_);refine ak 6 [] rfl ?_;rw [hki2];refine kc hV2 ?_;refine ak 6 [] rfl ?_;refine az ?_;refine a8 (a8 (ag [(3, .bv false), (6, .pc (B true)), (8, .bv false)] rfl ?_));refine aA rfl (fun hb => by cases hb) (fun _ => ?_);refine aD ?_;refine ag [] rfl ?_;refine ag [] rfl ?_;refine ⟨(i + 1, y), ⟨by omega, hrs, by rw [hFk, hTe], by rw [hFk, hTe]; first | rfl | exact hv2⟩, by dsimp only; omega, ?_⟩;exact sl
 ·refine aM ?_;refine a8 (aE mixed ?_);refine kc hlv ?_;refine ak 1 [] rfl ?_;refine az ?_;exact aI rtT
end Go.Proofs.YtmoekkcdkjopgaaGreatDoor
namespace Go.Proofs.YtmoekkcdkjopgaaGreatDoor
open Go Go.ChangeShapes Go.WideShapes Go.ChangeAt Go.RowKit Go.AM
theorem Tryz.own : ownKnob Tryz.prog.godebug = none := by kernel_rfl
theorem Tryz.laidOut : laidOutB Tryz.prog = true := by kernel_rfl
theorem mB {H : Type} {P : Program} {e : TypeId} : ∀ {xs : List (DataW H)} {k : Nat} {y : DataW H} {n : Nat}, xs[k]? = some y → n ∈ y.weights P e → n ∈ DataW.weightsAll P e xs
 | x :: xs, 0, y, n, h, hn => by
  simp at h;subst h;rw [DataW.weightsAll];exact mem_append.2 (.inl hn)
 | x :: xs, k + 1, y, n, h, hn => by
  rw [DataW.weightsAll];exact mem_append.2 (.inr (mB (k := k) (by simpa using h) hn))
theorem aV9 (l : List (List Int)) : ((nS l).map fun c => [c]) = l.map aKt := by
 unfold nS;rw [map_map];rfl
theorem tB {n k : Nat} (h : n * (k + 1) ≤ reachBytes) : n ≤ 1152921504606846976 := by
 have h1 := reachBytes_lt;have h2 : n ≤ n * (k + 1) := le_mul_of_pos_right n (Nat.succ_pos k);omega
theorem aM0 : Rows.laid_internal_strconv_uint64pow10 (H := Unit) = Lib.tabData .u64 Lib.pow10Tab := by kernel_rfl
theorem aUg {W : World} (h : laidMetH Tryz.prog Rows.stepOnRow.laid W) : aO8 W := by
 rw [MakeChecks.laidMetH_plain _ _ _ (by kernel_rfl)] at h;have h3 := laidMet.tail (laidMet.tail h);rw [aM0] at h3;have ht := Lib.tabIs_of_head (g := 0) (t := 215) (e := 209) (n := 20) (by kernel_rfl) (by kernel_rfl) (by kernel_rfl) (by kernel_rfl) (by kernel_rfl) (by kernel_rfl) h3;intro g hg;cases hg;unfold Lib.TabIs World.var? at ht;rw [show Tryz.prog.globalNamed "internal/strconv.uint64pow10" = some 0 by kernel_rfl] at ht;simp only [Option.bind_some] at ht;split at ht
 ·rename_i cs t fr hq;simp only [Option.some.injEq] at ht;subst ht;exact ⟨eE hq, t, fr, hq⟩
 ·cases ht
theorem aP8 {n : Int} (h : (Lit.int .i64 n).wf = true) : i64 n := by
 simp only [Lit.wf, Bool.and_eq_true, decide_eq_true_eq] at h;exact h
set_option maxRecDepth 100000 in
theorem vB (os : Os) (started : os.Started) (H : Type) (enc : TypeId × Value → H) :
  ReturnsInHanded {} Tryz.checked os 5 .any (fun w args => (Rows.stepOnSpec.pre enc Tryz.prog Tryz.f5 Rows.stepOnRow.domain false w args ∧ laidMetH Tryz.prog Rows.stepOnRow.laid w) ∧ sizedMet enc Tryz.prog Tryz.f5 (OpenSpec.ofChange Rows.stepOnSpec) false w args)
   (Rows.stepOnSpec.post enc Tryz.prog Tryz.f5 false true false false) := by
 refine returnsInHanded_of_change_and (C := Tryz.checked) (X := fun w _ => laidMetH Tryz.prog Rows.stepOnRow.laid w) (fun _ _ _ hh h => h.of_heap hh) Tryz.own started (by kernel_rfl) Tryz.func5
  (ChangeSpec.witness_shaped (enc := enc) (C := Tryz.checked) (os := os) (X := fun w _ => laidMetH Tryz.prog Rows.stepOnRow.laid w) false (World.laidAll Tryz.prog os Rows.stepOnRow.laid) #[.slice none 0 0, .slice none 0 0, .bool false, .int .i64 0, .int .i64 0] 8 (World.laidAll_os _ _ _)
   (World.shaped_of_ZipB (by kernel_rfl) (by kernel_rfl)) (by kernel_rfl) (by kernel_rfl) (by kernel_rfl)
   (by rw [MakeChecks.laidMetH_plain _ _ _ (by kernel_rfl)]; exact laidMet_laidAll _ (by kernel_rfl) (by kernel_rfl))) ?_
 intro W base args ds gs before hval0 hW hcnd hwt hL _
 have hval : ∀ (j : Nat) t v, Tryz.f5.params[j]? = some t → args[j]? = some v → Value.okWide Tryz.prog W .any base t v := hval0
 have hW' := hW
 obtain ⟨p, q, hA0, hV, rfl, hfz, hnd⟩ := hW
 have hA : DataW.TrodAll enc Tryz.prog W 0 (fun _ => true) true Tryz.f5.params.toList args.toList ds p := hA0
 rw [Tryz.params5] at hA hval
 obtain ⟨v0, v1, v2, v3, v4, d0, d1, d2, d3, d4, p0, p1, p2, p3, p4, rfl, rfl, rfl, h0, h1, h2, h3, h4⟩ := xK hA
 obtain ⟨rfl, rfl⟩ := trodVars_none hV
 obtain ⟨l, hrep, hr, x, y, hd⟩ := aGh Tryz.underlying22 Tryz.underlying3 (by kernel_rfl) (hval 0 22 v0 rfl rfl) h0
 obtain ⟨ls, hrep1, hr1, xs, zs, hd1⟩ := aGf Tryz.underlying23 Tryz.underlying22 Tryz.underlying3 (by kernel_rfl) (by kernel_rfl) (hval 1 23 v1 rfl rfl) h1
 rw [aV9] at hrep1
 obtain ⟨b2, rfl, rfl, rfl⟩ := open_bool Tryz.underlying4 (hval 2 4 v2 rfl rfl) h2
 obtain ⟨n3, rfl, rfl, rfl, w3⟩ := open_int Tryz.underlying3 (hval 3 3 v3 rfl rfl) h3
 obtain ⟨n4, rfl, rfl, rfl, w4⟩ := open_int Tryz.underlying3 (hval 4 3 v4 rfl rfl) h4
 clear hA0 hval0
 simp only [append_nil] at hW'
 have hlt : ∀ x ∈ p0, x.block < W.heap.size := fun x hx => by simpa using hW'.lt x (mem_append.2 (.inl hx))
 have hlt1 : ∀ x ∈ p1, x.block < W.heap.size := fun x hx => by simpa using hW'.lt x (mem_append.2 (.inr hx))
 have hwt' : (DataW.weightsEach Tryz.prog (Tryz.f5.params.toList ++ Rows.stepOnSpec.plain.varTypes Tryz.prog) ([d0, d1, .lit (.bool b2), .lit (.int .i64 n3), .lit (.int .i64 n4)] ++ [])).all (· ≤ reachBytes) = true := hwt
 have hl : Fits l := by
  unfold Fits
  rcases hd with ⟨_, hd⟩ | ⟨rfl, hd⟩
  ·rw [hd]; simp
  ·have := sized_slice hwt' (j := 0) (t := 22) (e := 3) rfl rfl Tryz.underlying22
   rw [show Tryz.prog.bytesOf 3 = 8 by kernel_rfl] at this
   have hb := reachBytes_lt
   omega
 have hw1 : ∀ n ∈ d1.weights Tryz.prog 23, n ≤ reachBytes := fun n hn => by
  have h1 := all_eq_true.1 hwt' n (DataW.weights_mem_each (j := 1) (t := 23) (d := d1) rfl rfl n hn)
  exact of_decide_eq_true h1
 have hl1 : ls.length ≤ 1152921504606846976 ∧ ∀ x ∈ ls, Fits x := by
  unfold Fits
  rcases hd1 with ⟨rfl, rfl⟩ | ⟨rfl, hxl, hxe⟩
  ·exact ⟨by simp, by simp⟩
  ·rw [DataW.weights, Tryz.underlying23] at hw1
   dsimp only at hw1
   refine ⟨?_, fun x hx => ?_⟩
   ·have h1 := hw1 _ mem_cons_self
    rw [show Tryz.prog.bytesOf 22 = 23 + 1 by kernel_rfl] at h1
    have := tB h1
    omega
   ·obtain ⟨k, hk⟩ := List.getElem?_of_mem hx
    obtain ⟨y, hy, ⟨rfl, rfl⟩ | ⟨u, z, rfl, hu⟩⟩ := hxe k x hk
    ·simp
    ·have h1 := hw1 ((u.length + z.length) * Tryz.prog.bytesOf 3) (mem_cons_of_mem _ (mem_append.2 (.inl (mB hy (by rw [DataW.weights, Tryz.underlying22]; exact mem_cons_self)))))
     rw [show Tryz.prog.bytesOf 3 = 7 + 1 by kernel_rfl] at h1
     have := tB h1
     omega
 refine (aJ6 (aOv l ls b2 n3 n4 hr hl (fun x hx => ⟨fun m hm => hr1 x hx m hm, hl1.2 x hx⟩) hl1.1 (aP8 w3) (aP8 w4)) W (vals := [v0, v1, .bool b2, .int .i64 n3, .int .i64 n4]) ⟨_, _, rfl, hrep, ⟨_, _, rfl, hrep1, ⟨_, _, rfl, rfl, ⟨_, _, rfl, rfl, ⟨_, _, rfl, rfl, rfl⟩⟩⟩⟩⟩ (ht := aUg hL)).mono fun e W' ⟨v, S, μ, he, bel, hv⟩ => ?_
 subst he
 rw [aTa hv]
 have hp0 := Below.trod Tryz.laidOut (by kernel_rfl) (of_decide_eq_true (by kernel_rfl)) h0 bel hlt
 have hp1 := Below.trod Tryz.laidOut (by kernel_rfl) (of_decide_eq_true (by kernel_rfl)) h1 bel hlt1
 exact ⟨_, rfl, ⟨_, _, _, [], _, [], hW', trodAll_mk1 (shut_bool Tryz.underlying4 true), aAs hp0 hp1 (shut_bool Tryz.underlying4 b2) (shut_int Tryz.underlying3 w3) (shut_int Tryz.underlying3 w4), rfl, bel.frame _, fun h => by cases h⟩⟩
theorem xR : Rows.StepOnSaid :=
 OpenClaim.holds_of_wide 5 Tryz.f5 rfl rfl rfl rfl rfl rfl rfl ⟨rfl, rfl, rfl, rfl, rfl⟩ rfl rfl rfl rfl rfl (by kernel_rfl) Tryz.func5 (by kernel_rfl)
  (of_decide_eq_true (by kernel_rfl)) (by unfold Func.isWrapper; first | (rw [if_pos (by decide +kernel)]; kernel_rfl) | (rw [if_neg (by decide +kernel)]; exact ⟨rfl, rfl⟩))
  (fun os started H enc _ => vB os started H enc)
theorem stepOn_card_holds : Rows.StepOnCardSaid :=
 Claim7.holds_tied_plain_at .later [] [.data, .data, .data] true (true, "56759d3ea28ae732895687f94e58afa360807d84aa9b63d7f2471d17859befac") false xR (fun _ h => by cases h) (by kernel_rfl) (fun _ h => by cases h) stepOn_row_tie rfl ⟨rfl, rfl⟩ (by kernel_rfl) rfl
  (fun f fn hf hfn => by
   obtain rfl : f = 5 := Option.some.inj ((show Tryz.prog.funcNamed "fugue/fuguelaw22.StepOn" = some 5 by kernel_rfl).symm.trans hf) |>.symm;obtain rfl : fn = Tryz.f5 := (Option.some.inj (Tryz.func5.symm.trans hfn)).symm
   exact ⟨by kernel_rfl, fun j t ht => by
    rw [Tryz.params5] at ht;have hm : t ∈ [22, 23, 4, 3] := by
     have := Array.mem_of_getElem? ht;simp at this;simp;omega
    have hall : ([22, 23, 4, 3].all fun u => !Tryz.prog.wantsStandIn u) = true := by kernel_rfl
    exact (show Tryz.prog.wantsStandIn t = false by simpa using all_eq_true.1 hall t hm)⟩)
  (by kernel_rfl)
end Go.Proofs.YtmoekkcdkjopgaaGreatDoor
