/-
  Texts Lm7 to Lg26 in one.
-/
import Derived.Test.YtmoekkcdkjopgaaGreatDoorM12
import Derived.Laws.MakeOwn
open List (append_assoc append_nil cons_append drop_left drop_zero flatMap_cons flatMap_nil length_append length_cons length_map length_take length_zip map_append map_congr_left map_cons map_map map_nil mem_append mem_cons mem_flatMap mem_map mem_range mem_singleton nil_append not_mem_nil sum_cons sum_nil take_add_one take_left take_length take_of_length_le take_zero)
open Nat (add_mul le_max_left le_max_right le_mul_of_pos_right le_refl le_trans lt_of_le_of_lt max_le mul_le_mul mul_le_mul_left mul_le_mul_right mul_one sub_self sub_zero succ_mul zero_add zero_le)
namespace Go.Proofs.YtmoekkcdkjopgaaGreatDoor
open Go Go.AM
set_option maxRecDepth 20000
set_option maxHeartbeats 4000000
section
variable {bd : List Bind} {i : Int} {s : Str} {t : Ty} {a b : Core} {ks : List Core} {bs : List Bind} {al : List Alt} {p : CE}
theorem a0g {n' : Int} {s' : Str} {t' : Ty} {x r : Core} (hsub : aY Tryz.prog 25 [.pa (aA x), Go.AM.T s', .pa (aA b)] [] (.pa (aA r)) []) : aY Tryz.prog 78 [.pa (kS bd), .pa (aA (.mk 4 i s t [.mk 5 n' s' t' [x] [] [], b] [] []))] [] (jD (r, 0)) [] := by
 refine c8 (n := 113) tok Tryz.func78 rfl rfl rfl ?_;refine a8 (ag [] rfl ?_);refine a8 (ag [] rfl ?_);refine a8 (a8 (ag [] rfl ?_));refine aC (a8 (ag [] rfl ?_));refine aB rfl (fun hb => absurd hb (by simp [Core.form])) (fun _ => ?_);refine a8 (ag [] rfl ?_);refine aB rfl (fun _ => ?_) (fun hb => absurd hb (by simp [Core.form]));refine a8 (ag [(2, .row 0 (aA (.mk 5 n' s' t' [x] [] [])))] rfl ?_);refine aC (a8 (ag [] rfl ?_));refine aB rfl (fun _ => ?_) (fun hb => absurd hb (by simp [Core.form]));refine a8 (aF mixed ?_);refine ak 10 [(2, .row 0 (aA x)), (8, .row 1 (aA b))] rfl ?_;refine kc hsub ?_;refine ak 2 [] rfl ?_;refine az ?_;exact aE (mO trw)
theorem a0h (hf : ¬ a.form = 5) (hsh : aY Tryz.prog 77 [.pa (aA a)] [] (B (shE a)) []) (hst : shE a = false → aY Tryz.prog 78 [.pa (kS bd), .pa (aA a)] [] (jD p) []) :
  aY Tryz.prog 78 [.pa (kS bd), .pa (aA (.mk 4 i s t [a, b] [] []))] [] (jD (if ¬ shE a = true then sZ false p (s6 (.mk 4 i s t [a, b] [] []) 0) else (zC, 51))) [] := by
 refine c8 (n := 113) tok Tryz.func78 rfl rfl rfl ?_;refine a8 (ag [] rfl ?_);refine a8 (ag [] rfl ?_);refine a8 (a8 (ag [] rfl ?_));refine aC (a8 (ag [] rfl ?_));refine aB rfl (fun hb => absurd hb (by simp [Core.form])) (fun _ => ?_);refine a8 (ag [] rfl ?_);refine aB rfl (fun _ => ?_) (fun hb => absurd hb (by simp [Core.form]));refine a8 (ag [(2, .row 0 (aA a))] rfl ?_);refine aC (a8 (ag [] rfl ?_));refine aB rfl (fun hb => absurd (zq0 hb) hf) (fun _ => ?_);refine a8 (aF mixed ?_);refine ak 1 [] rfl ?_;refine kc hsh ?_;refine ak 2 [] rfl ?_;refine az ?_;cases hs : shE a with
 | false =>
  have hw := nL bd (.mk 4 i s t [a, b] [] []) a 0 p rfl (show 2 ≤ 600000000000 by decide) (hst hs);unfold maO at hw;rw [if_pos Bool.false_ne_true];refine aB rfl (fun _ => ?_) (fun hb => absurd hb (by simp [Core.form]));refine a8 (aF mixed ?_);refine ak 1 [] rfl ?_;refine kv (args := [I .i64 ((0 : Nat) : Int)]) hw ?_;refine ak 4 [] rfl ?_;refine az ?_;exact aE (mO trw)
 | true =>
  rw [if_neg (fun h => h rfl)];refine aB rfl (fun hb => absurd hb (by simp [Core.form])) (fun _ => ?_);refine aD ?_;refine a8 (ag [] rfl ?_);exact aE (mO trw)
theorem a1j {r : Core} (h12 : bs.length ≤ 12) (hput : aY Tryz.prog 178 [.pa (aA a), bN (bs.map Bind.name), .one (.c (.sl 10 ((bs.map (kO bs)).map aA)))] [] (.pa (aA r)) []) :
  aY Tryz.prog 78 [.pa (kS bd), .pa (aA (.mk 8 i s t [a] bs []))] [] (jD (r, 0)) [] := by
 have hu := aK3 i s t a r bs h12 hput;refine c8 (n := 113) tok Tryz.func78 rfl rfl rfl ?_;refine a8 (ag [] rfl ?_);refine a8 (ag [] rfl ?_);refine a8 (a8 (ag [] rfl ?_));refine aC (a8 (ag [] rfl ?_));refine aB rfl (fun hb => absurd hb (by simp [Core.form])) (fun _ => ?_);refine a8 (ag [] rfl ?_);refine aB rfl (fun hb => absurd hb (by simp [Core.form])) (fun _ => ?_);refine a8 (ag [] rfl ?_);refine aB rfl (fun _ => ?_) (fun hb => absurd hb (by simp [Core.form]));refine a8 (aF mixed ?_);refine ak 1 [] rfl ?_;refine kc hu ?_;refine ak 2 [] rfl ?_;refine az ?_;exact aE (mO trw)
theorem a1k (hm : bd.length ≤ 1000000000) : aY Tryz.prog 78 [.pa (kS bd), .pa (aA (.mk 1 i s t ks bs al))] [] (jD (match bd.find? fun b => decide (b.name = s) with | some b => (b.body, 0) | none => (zC, 51))) [] := by
 have hix := aO4 bd hm 1 i s t ks bs al;rcases yG (fun b : Bind => decide (b.name = s)) bd 0 with ⟨k, b, h1, h2, h3⟩ | ⟨h1, h3⟩
 ·rw [h1, zero_add] at hix;rw [h3];have hb' := cE bA h2;have hlt := (zq6.1 h2).1
  refine c8 (n := 113) tok Tryz.func78 rfl rfl rfl ?_;refine a8 (ag [] rfl ?_);refine a8 (ag [] rfl ?_);refine a8 (a8 (ag [] rfl ?_));refine aC (a8 (ag [] rfl ?_));refine aB rfl (fun _ => ?_) (fun hb => absurd hb (by simp [Core.form]));refine a8 (aF mixed ?_);refine ak 3 [] rfl ?_;refine kc hix ?_;refine ak 1 [] rfl ?_;refine az ?_;refine a8 (ag [] rfl ?_);refine aB rfl (fun _ => ?_) (fun hb => absurd (zq1 hb) (by omega));refine a8 (ag [(3, .row k (bA b))] rfl ?_);exact aE (mO trw)
 ·rw [h1] at hix;rw [h3];refine c8 (n := 113) tok Tryz.func78 rfl rfl rfl ?_;refine a8 (ag [] rfl ?_);refine a8 (ag [] rfl ?_);refine a8 (a8 (ag [] rfl ?_));refine aC (a8 (ag [] rfl ?_));refine aB rfl (fun _ => ?_) (fun hb => absurd hb (by simp [Core.form]));refine a8 (aF mixed ?_);refine ak 3 [] rfl ?_;refine kc hix ?_;refine ak 1 [] rfl ?_;refine az ?_;refine a8 (ag [] rfl ?_);refine aB rfl (fun hb => absurd hb (by decide)) (fun _ => ?_);refine aD ?_;refine a8 (ag [] rfl ?_);exact aE (mO trw)
theorem a1i {r : CE} (hsh : aY Tryz.prog 77 [.pa (aA a)] [] (B (shE a)) []) (hst : shE a = false → aY Tryz.prog 78 [.pa (kS bd), .pa (aA a)] [] (jD p) [])
  (htk : shE a = true → aY Tryz.prog 155 [.one (.c (.sl 14 (bK al))), .pa (aA a)] [] (jD r) []) :
  aY Tryz.prog 78 [.pa (kS bd), .pa (aA (.mk 9 i s t [a] [] al))] [] (jD (if ¬ shE a = true then sZ false p (s6 (.mk 9 i s t [a] [] al) 0) else r)) [] := by
 refine c8 (n := 113) tok Tryz.func78 rfl rfl rfl ?_;refine a8 (ag [] rfl ?_);refine a8 (ag [] rfl ?_);refine a8 (a8 (ag [] rfl ?_));refine aC (a8 (ag [] rfl ?_));refine aB rfl (fun hb => absurd hb (by simp [Core.form])) (fun _ => ?_);refine a8 (ag [] rfl ?_);refine aB rfl (fun hb => absurd hb (by simp [Core.form])) (fun _ => ?_);refine a8 (ag [] rfl ?_);refine aB rfl (fun hb => absurd hb (by simp [Core.form])) (fun _ => ?_);refine a8 (ag [] rfl ?_);refine aB rfl (fun _ => ?_) (fun hb => absurd hb (by simp [Core.form]));refine a8 (a8 (aF mixed ?_));refine ak 4 [(2, .row 0 (aA a))] rfl ?_;refine kc hsh ?_;refine ak 1 [] rfl ?_;refine az ?_;cases hs : shE a with
 | false =>
  have hw := nL bd (.mk 9 i s t [a] [] al) a 0 p rfl (show 1 ≤ 600000000000 by decide) (hst hs);unfold maO at hw;rw [if_pos Bool.false_ne_true];refine aB rfl (fun _ => ?_) (fun hb => absurd hb (by decide));refine a8 (aF mixed ?_);refine ak 1 [] rfl ?_;refine kv (args := [I .i64 ((0 : Nat) : Int)]) hw ?_;refine ak 4 [] rfl ?_;refine az ?_;exact aE (mO trw)
 | true =>
  have htk := htk hs;rw [if_neg (fun h => h rfl)];refine aB rfl (fun hb => absurd hb (by decide)) (fun _ => ?_);refine aD ?_;refine a8 (aF mixed ?_);refine ak 6 [(4, .row 0 (aA a))] rfl ?_;refine kc htk ?_;refine ak 4 [] rfl ?_;refine az ?_;exact aE (mO trw)
theorem a0i {p' : CE} (hsa : aY Tryz.prog 77 [.pa (aA a)] [] (B (shE a)) []) (hsb : aY Tryz.prog 77 [.pa (aA b)] [] (B (shE b)) [])
  (hka : shE a = false → aY Tryz.prog 78 [.pa (kS bd), .pa (aA a)] [] (jD p) []) (hkb : shE b = false → aY Tryz.prog 78 [.pa (kS bd), .pa (aA b)] [] (jD p') []) :
  aY Tryz.prog 78 [.pa (kS bd), .pa (aA (.mk 10 i s t [a, b] [] []))] [] (jD (if ¬ shE a = true then sZ false p (s6 (.mk 10 i s t [a, b] [] []) 0) else if ¬ shE b = true then sZ false p' (s6 (.mk 10 i s t [a, b] [] []) 1) else if a.form = 3 ∧ b.form = 3 then jJ s a.n b.n else (zC, 51))) [] := by
 have hpr := aTu bd i s t a b;refine c8 (n := 113) tok Tryz.func78 rfl rfl rfl ?_;refine a8 (ag [] rfl ?_);refine a8 (ag [] rfl ?_);refine a8 (a8 (ag [] rfl ?_));refine aC (a8 (ag [] rfl ?_));refine aB rfl (fun hb => absurd hb (by simp [Core.form])) (fun _ => ?_);refine a8 (ag [] rfl ?_);refine aB rfl (fun hb => absurd hb (by simp [Core.form])) (fun _ => ?_);refine a8 (ag [] rfl ?_);refine aB rfl (fun hb => absurd hb (by simp [Core.form])) (fun _ => ?_);refine a8 (ag [] rfl ?_);refine aB rfl (fun hb => absurd hb (by simp [Core.form])) (fun _ => ?_);refine a8 (ag [] rfl ?_);refine aB rfl (fun _ => ?_) (fun hb => absurd hb (by simp [Core.form]));refine a8 (aC (a8 (aF mixed ?_)));refine ak 4 [(2, .row 0 (aA a))] rfl ?_;refine kc hsa ?_;refine ak 2 [] rfl ?_;refine az ?_;cases hs : shE a with
 | false =>
  have hw := nL bd (.mk 10 i s t [a, b] [] []) a 0 p rfl (show 2 ≤ 600000000000 by decide) (hka hs);unfold maO at hw;rw [if_pos Bool.false_ne_true];refine aB rfl (fun _ => ?_) (fun hb => absurd hb (by decide));refine a8 (aF mixed ?_);refine ak 1 [] rfl ?_;refine kv (args := [I .i64 ((0 : Nat) : Int)]) hw ?_;refine ak 4 [] rfl ?_;refine az ?_;exact aE (mO trw)
 | true =>
  rw [if_neg (fun h => h rfl)];refine aB rfl (fun hb => absurd hb (by decide)) (fun _ => ?_);refine a8 (aF mixed ?_);refine ak 4 [(2, .row 1 (aA b))] rfl ?_;refine kc hsb ?_;refine ak 2 [] rfl ?_;refine az ?_;cases hs2 : shE b with
  | false =>
   have hw := nL bd (.mk 10 i s t [a, b] [] []) b 1 p' rfl (show 2 ≤ 600000000000 by decide) (hkb hs2);unfold maO at hw;rw [if_pos Bool.false_ne_true];refine aB rfl (fun _ => ?_) (fun hb => absurd hb (by decide));refine a8 (aF mixed ?_);refine ak 1 [] rfl ?_;refine kv (args := [I .i64 ((1 : Nat) : Int)]) hw ?_;refine ak 4 [] rfl ?_;refine az ?_;exact aE (mO trw)
  | true =>
   rw [if_neg (fun h => h rfl)];refine aB rfl (fun hb => absurd hb (by decide)) (fun _ => ?_);refine aD ?_;refine a8 (aF mixed ?_);refine ak 2 [] rfl ?_;refine kc hpr ?_;refine ak 4 [] rfl ?_;refine az ?_;exact aE (mO trw)
theorem a1h {f : Int} (h1 : ¬ f = 1) (h4 : ¬ f = 4) (h8 : ¬ f = 8) (h9 : ¬ f = 9) (h10 : ¬ f = 10) : aY Tryz.prog 78 [.pa (kS bd), .pa (aA (.mk f i s t ks bs al))] [] (jD (if f = 11 then (zC, 52) else (zC, 51))) [] := by
 refine c8 (n := 113) tok Tryz.func78 rfl rfl rfl ?_;refine a8 (ag [] rfl ?_);refine a8 (ag [] rfl ?_);refine a8 (a8 (ag [] rfl ?_));refine aC (a8 (ag [] rfl ?_));refine aB rfl (fun hb => absurd (zq0 hb) h1) (fun _ => ?_);refine a8 (ag [] rfl ?_);refine aB rfl (fun hb => absurd (zq0 hb) h4) (fun _ => ?_);refine a8 (ag [] rfl ?_);refine aB rfl (fun hb => absurd (zq0 hb) h8) (fun _ => ?_);refine a8 (ag [] rfl ?_);refine aB rfl (fun hb => absurd (zq0 hb) h9) (fun _ => ?_);refine a8 (ag [] rfl ?_);refine aB rfl (fun hb => absurd (zq0 hb) h10) (fun _ => ?_);refine a8 (ag [] rfl ?_);by_cases h11 : f = 11
 ·rw [if_pos h11];refine aB rfl (fun _ => ?_) (fun hb => absurd h11 (zq1 hb));refine a8 (ag [] rfl ?_);exact aE (mO trw)
 ·rw [if_neg h11];refine aB rfl (fun hb => absurd (zq0 hb) h11) (fun _ => ?_);refine aD ?_;refine a8 (ag [] rfl ?_);exact aE (mO trw)
end
def whE (sf : Core → CE) : Nat → Nat → Core → Core × Nat × Int
 | 0, n, c => if shE c = true then (c, n, 0) else (zC, 0, 3)
 | k + 1, n, c => if shE c = true then (c, n, 0) else
  if (sf c).2 = 0 then (if 6000 < fM (sf c).1 then (zC, 0, 2) else whE sf k (n + 1) (sf c).1) else (zC, 0, (sf c).2)
def aYn (w : Core × Nat × Int) : V := .tup [.pa (aA w.1), I .i64 w.2.1, I .i64 w.2.2]
theorem aX5 (c : Core) (h : aY Tryz.prog 59 [.pa (aA c)] [] (.pa (aA c)) []) : aY Tryz.prog 32 [.pa (aA c), .one (.c (.sl 10 []))] [] (.pa (aA c)) [] := by
 refine c8 (n := 23) tok Tryz.func32 rfl rfl rfl ?_;refine a8 (ag [] rfl ?_);refine a8 (ag [(1, .pc (.pa (aA c)))] rfl ?_);refine a8 (a8 (ag [] rfl ?_));refine aC ?_;refine aJ (fun _ : Unit => mk [(4, .one (.vp 4 0)), (5, .one (.vp 5 0)), (11, I .i64 0), (12, I .i64 0)] [(4, .var 37 bH), (5, .var 37 (bF c))]) (fun _ => True) (fun _ => 0) () trivial sl ?_;intro _ _;refine a8 (ag [] rfl ?_);refine a8 (aB rfl (fun hb => by cases hb) (fun _ => ?_));refine aK ?_;refine a8 (ag [] rfl ?_);exact aE (rtC trw)
theorem aT2 (sf : Core → CE) (bd : List Bind) (F : Nat) (Iv : Nat → Core → Prop) (c : Core) (hF : F ≤ 1000) (h0 : Iv 0 c)
  (hI : ∀ j x, j ≤ F → Iv j x → cI (QL 403) x ∧ aR x ≤ 570000000000 ∧ aY Tryz.prog 59 [.pa (aA x)] [] (.pa (aA x)) [])
  (hS : ∀ j x, j < F → Iv j x → shE x = false → aY Tryz.prog 78 [.pa (kS bd), .pa (aA x)] [] (jD (sf x)) [] ∧ ((sf x).2 = 0 → aR (sf x).1 ≤ 570000000000 ∧ (¬ 6000 < fM (sf x).1 → Iv (j + 1) (sf x).1))) :
  aY Tryz.prog 31 [.one (.c (.sl 15 (bd.map bA))), .pa (aA c), I .i64 F] [] (aYn (whE sf F 0 c)) [] := by
 refine c8 (n := 43) tok Tryz.func31 rfl rfl rfl ?_;refine a8 (ag [] rfl ?_);refine a8 (aF mixed ?_);refine ak 1 [] rfl ?_;refine kc aXu ?_;refine ak 3 [] rfl ?_;refine az ?_;refine a8 (ag [] rfl ?_);refine a8 (aC ?_);refine aJ (fun p : Nat × Core => mk [(2, I .i64 F), (4, .one (.vp 4 0)), (6, .one (.vp 6 0)), (9, .one (.vp 9 0)), (10, I .i64 p.1)] [(9, .var 137 ((kS bd).map .c)), (4, .var 37 (bF p.2)), (6, .var 37 bH)]) (fun p => p.1 ≤ F ∧ Iv p.1 p.2 ∧ whE sf F 0 c = whE sf (F - p.1) p.1 p.2) (fun p => F - p.1) (0, c) ⟨zero_le _, h0, rfl⟩ sl ?_;rintro ⟨j, x⟩ ⟨hj, hx, hw⟩;dsimp only at hj hx hw ⊢;obtain ⟨hq, hcs, hown⟩ := hI j x hj hx;have hsh := aEz 403 x hq hcs;refine a8 (a8 (aF mixed ?_));refine ak 1 [] rfl ?_;refine kc hsh ?_;refine ak 1 [] rfl ?_;refine az ?_;cases hs : shE x with
 | true =>
  have e : whE sf F 0 c = (x, j, 0) := by
   rw [hw];cases F - j with
   | zero => rw [whE, if_pos hs]
   | succ k => rw [whE, if_pos hs]
  have hap := aX5 x hown;rw [e];refine aB rfl (fun hb => absurd hb (by decide)) (fun _ => ?_);refine aK ?_;refine a8 (aF mixed ?_);refine ak 1 [] rfl ?_;refine kc hap ?_;refine ak 4 [] rfl ?_;refine az ?_;exact aE (aYx trw)
 | false =>
  have hs' : ¬ shE x = true := by rw [hs]; exact Bool.false_ne_true
  refine aB rfl (fun _ => ?_) (fun hb => absurd hb (by decide));refine aD ?_;refine a8 (aC (a8 (a8 (ag [] rfl ?_))));refine aB rfl (fun hb => ?_) (fun hb => ?_)
  ·have hjF : j = F := by have := zq0 hb; omega
   have e : whE sf F 0 c = (zC, 0, 3) := by rw [hw, hjF, sub_self, whE, if_neg hs']
   rw [e];refine a8 (ag [] rfl ?_);exact aE (aYx trw)
  have hjF : j < F := by have := zq1 hb; omega
  obtain ⟨k, hk⟩ : ∃ k, F - j = k + 1 := ⟨F - j - 1, by omega⟩
  obtain ⟨hst, hok⟩ := hS j x hjF hx hs;rw [hk, whE, if_neg hs'] at hw;generalize sf x = p at *;obtain ⟨r, e⟩ := p;dsimp only at hok hw ⊢;refine aD ?_;refine a8 (aF mixed ?_);refine ak 2 [] rfl ?_;refine kc hst ?_;refine ak 6 [] rfl ?_;refine az ?_;refine a8 (a8 (ag [] rfl ?_));by_cases he : e = 0
  ·subst he;obtain ⟨hcr, hok2⟩ := hok rfl;have hze := aK6 (aR r) r (le_refl _) hcr;rw [if_pos rfl] at hw;refine aB rfl (fun hb => absurd hb (by simp)) (fun _ => ?_);refine aD ?_;refine a8 (ag [] rfl ?_);refine a8 (aF mixed ?_);refine ak 1 [] rfl ?_;refine kc hze ?_;refine ak 1 [] rfl ?_;refine az ?_;by_cases hbig : 6000 < fM r
   ·rw [if_pos hbig] at hw;rw [hw];refine aB rfl (fun _ => ?_) (fun hb => absurd hb (by simp; omega));refine a8 (ag [] rfl ?_);exact aE (aYx trw)
   ·rw [if_neg hbig] at hw;refine aB rfl (fun hb => absurd hb (by simp; omega)) (fun _ => ?_);refine aD ?_;refine ag [] rfl ?_;exact ⟨(j + 1, r), ⟨hjF, hok2 hbig, by rw [hw]; congr 1; omega⟩, by dsimp only; omega, sl⟩
  ·rw [if_neg he] at hw;rw [hw];refine aB rfl (fun _ => ?_) (fun hb => absurd hb (by simp [he]));refine a8 (ag [] rfl ?_);exact aE (aYx trw)
def gC (ρ : Str → Nat) (L : List Str) : Str → Nat := fun x => if x ∈ L then 1 + w30 x else ρ x
mutual
def wS (ρ : Str → Nat) : Core → Nat
 | .mk f _ s _ ks bs al => (if f = 1 then ρ s else 1 + w30 s) + wSs (gC ρ (gvN f s bs)) ks + wSb (gC ρ (gvN f s bs)) bs + wSa ρ al
def wSs (ρ : Str → Nat) : List Core → Nat
 | [] => 0
 | c :: l => wS ρ c + wSs ρ l
def wSb (ρ : Str → Nat) : List Bind → Nat
 | [] => 0
 | .mk s _ c :: l => 1 + w30 s + wS ρ c + wSb ρ l
def wSa (ρ : Str → Nat) : List Alt → Nat
 | [] => 0
 | .mk _ _ s vs c :: l => 1 + w30 s + (vs.map fun v => 1 + w30 v).sum + wS (gC ρ vs) c + wSa ρ l
end
theorem qU {ρ ρ' : Str → Nat} (h : ∀ x, ρ x ≤ ρ' x) (L : List Str) (x : Str) : gC ρ L x ≤ gC ρ' L x := by
 unfold gC;split
 ·exact le_refl _
 ·exact h x
mutual
theorem jZ {ρ ρ' : Str → Nat} (h : ∀ x, ρ x ≤ ρ' x) : ∀ c : Core, wS ρ c ≤ wS ρ' c
 | .mk f n s t ks bs al => by
  rw [wS, wS];have h1 := aCj (qU h (gvN f s bs)) ks;have h2 := aCl (qU h (gvN f s bs)) bs;have h3 := aCn h al;have h4 := h s;split <;> omega
theorem aCj {ρ ρ' : Str → Nat} (h : ∀ x, ρ x ≤ ρ' x) : ∀ l : List Core, wSs ρ l ≤ wSs ρ' l
 | [] => by rw [wSs, wSs]; exact le_refl _
 | c :: l => by rw [wSs, wSs]; have := jZ h c; have := aCj h l; omega
theorem aCl {ρ ρ' : Str → Nat} (h : ∀ x, ρ x ≤ ρ' x) : ∀ l : List Bind, wSb ρ l ≤ wSb ρ' l
 | [] => by rw [wSb, wSb]; exact le_refl _
 | .mk s t c :: l => by rw [wSb, wSb]; have := jZ h c; have := aCl h l; omega
theorem aCn {ρ ρ' : Str → Nat} (h : ∀ x, ρ x ≤ ρ' x) : ∀ l : List Alt, wSa ρ l ≤ wSa ρ' l
 | [] => by rw [wSa, wSa]; exact le_refl _
 | .mk f n s vs c :: l => by rw [wSa, wSa]; have := jZ (qU h vs) c; have := aCn h l; omega
end
theorem aA8 {ρ : Str → Nat} (h : ∀ x, ρ x = 1 + w30 x) (L : List Str) (x : Str) : gC ρ L x = 1 + w30 x := by
 unfold gC;split
 ·rfl
 ·exact h x
mutual
theorem x5 {ρ : Str → Nat} (h : ∀ x, ρ x = 1 + w30 x) : ∀ c : Core, wS ρ c = m30 c
 | .mk f n s t ks bs al => by
  rw [wS, m30, aG2 (aA8 h (gvN f s bs)) ks, aG3 (aA8 h (gvN f s bs)) bs, aG4 h al, h s, ite_self]
theorem aG2 {ρ : Str → Nat} (h : ∀ x, ρ x = 1 + w30 x) : ∀ l : List Core, wSs ρ l = cS l
 | [] => by rw [wSs, cS]
 | c :: l => by rw [wSs, cS, x5 h c, aG2 h l]
theorem aG3 {ρ : Str → Nat} (h : ∀ x, ρ x = 1 + w30 x) : ∀ l : List Bind, wSb ρ l = fR l
 | [] => by rw [wSb, fR]
 | .mk s t c :: l => by rw [wSb, fR, x5 h c, aG3 h l]
theorem aG4 {ρ : Str → Nat} (h : ∀ x, ρ x = 1 + w30 x) : ∀ l : List Alt, wSa ρ l = iL l
 | [] => by rw [wSa, iL]
 | .mk f n s vs c :: l => by rw [wSa, iL, x5 (aA8 h vs) c, aG4 h l]
end
theorem aJb {ρ ρ' : Str → Nat} {L : List Str} {x : Str} (h : ¬ x ∈ L → ρ x = ρ' x) : gC ρ L x = gC ρ' L x := by
 unfold gC;split
 ·rfl
 ·rename_i hx; exact h hx
mutual
theorem nX {X : Nat} : ∀ c : Core, cI (QL X) c → ∀ ρ ρ' : Str → Nat, (∀ x ∈ pfR c, ρ x = ρ' x) → wS ρ c = wS ρ' c
 | .mk f n s t ks bs al, h, ρ, ρ', hp => by
  obtain ⟨_, qk, qb, qa⟩ := bC.1 h;rw [wS, wS];by_cases h1 : f = 1
  ·obtain ⟨rfl, rfl, rfl⟩ := u6 h h1;rw [if_pos h1, if_pos h1, hp s (by rw [pfR, if_pos h1]; exact mem_singleton.2 rfl)];simp only [wSs, wSb, wSa]
  ·rw [if_neg h1, if_neg h1];have hkb : ∀ p ∈ ks ++ bs.map Bind.body, ∀ x ∈ pfR p, gC ρ (gvN f s bs) x = gC ρ' (gvN f s bs) x := fun p hpm x hx => aJb fun hxg => hp x ((oN h1).2 (.inl ⟨p, hpm, hx, hxg⟩))
   have ha : ∀ a ∈ al, ∀ x ∈ pfR a.body, gC ρ a.vars x = gC ρ' a.vars x := fun a ha x hx => aJb fun hxg => hp x ((oN h1).2 (.inr ⟨a, ha, hx, hxg⟩))
   rw [aCk ks qk _ _ fun p hpm => hkb p (mem_append.2 (.inl hpm)), aCm bs qb _ _ fun b hb => hkb b.body (mem_append.2 (.inr (mem_map.2 ⟨b, hb, rfl⟩))), aCo al qa _ _ ha]
theorem aCk {X : Nat} : ∀ l : List Core, (∀ c ∈ l, cI (QL X) c) → ∀ ρ ρ' : Str → Nat, (∀ c ∈ l, ∀ x ∈ pfR c, ρ x = ρ' x) → wSs ρ l = wSs ρ' l
 | [], _, _, _, _ => by rw [wSs, wSs]
 | c :: l, h, ρ, ρ', hp => by rw [wSs, wSs, nX c (h c zq2) ρ ρ' (hp c zq2), aCk l (fun x hx => h x (zq3 _ hx)) ρ ρ' fun x hx => hp x (zq3 _ hx)]
theorem aCm {X : Nat} : ∀ l : List Bind, (∀ c ∈ l, cI (QL X) c.body) → ∀ ρ ρ' : Str → Nat, (∀ c ∈ l, ∀ x ∈ pfR c.body, ρ x = ρ' x) → wSb ρ l = wSb ρ' l
 | [], _, _, _, _ => by rw [wSb, wSb]
 | .mk s t c :: l, h, ρ, ρ', hp => by rw [wSb, wSb, nX c (h _ zq2) ρ ρ' (hp _ zq2), aCm l (fun x hx => h x (zq3 _ hx)) ρ ρ' fun x hx => hp x (zq3 _ hx)]
theorem aCo {X : Nat} : ∀ l : List Alt, (∀ c ∈ l, cI (QL X) c.body) → ∀ ρ ρ' : Str → Nat, (∀ c ∈ l, ∀ x ∈ pfR c.body, gC ρ c.vars x = gC ρ' c.vars x) → wSa ρ l = wSa ρ' l
 | [], _, _, _, _ => by rw [wSa, wSa]
 | .mk f n s vs c :: l, h, ρ, ρ', hp => by rw [wSa, wSa, nX c (h _ zq2) (gC ρ vs) (gC ρ' vs) (hp _ zq2), aCo l (fun x hx => h x (zq3 _ hx)) ρ ρ' fun x hx => hp x (zq3 _ hx)]
end
def otN (s : Str) (n : Nat) : Str := s ++ 64 :: Lib.decDigits n
theorem aXf (n : Nat) : ¬ (64 : UInt8) ∈ Lib.decDigits n := by
 induction n using Nat.strongRecOn with
 | _ n ih =>
  rw [Lib.decDigits];split
  ·rename_i h;intro hm;have : n < 10 := h
   match n, this with
   | 0, _ | 1, _ | 2, _ | 3, _ | 4, _ | 5, _ | 6, _ | 7, _ | 8, _ | 9, _ => simp_all (config := { decide := true })
  ·rename_i h;intro hm;rcases mem_append.1 hm with hm | hm
   ·exact ih (n / 10) (by omega) hm
   ·have : n % 10 < 10 := Nat.mod_lt _ (by decide);generalize n % 10 = d at hm this
    match d, this with
    | 0, _ | 1, _ | 2, _ | 3, _ | 4, _ | 5, _ | 6, _ | 7, _ | 8, _ | 9, _ => simp_all (config := { decide := true })
theorem aYc {a a' d d' : Str} (h : a ++ 64 :: d = a' ++ 64 :: d') (hd : ¬ (64 : UInt8) ∈ d) (hd' : ¬ (64 : UInt8) ∈ d') : a = a' ∧ d = d' := by
 induction a generalizing a' with
 | nil =>
  cases a' with
  | nil => simp at h; exact ⟨rfl, h⟩
  | cons x a' =>
   simp only [nil_append, cons_append, List.cons.injEq] at h;exact absurd (by rw [h.2]; simp) hd
 | cons y a ih =>
  cases a' with
  | nil =>
   simp only [nil_append, cons_append, List.cons.injEq] at h;exact absurd (by rw [← h.2]; simp) hd'
  | cons x a' =>
   simp only [cons_append, List.cons.injEq] at h;obtain ⟨h1, h2⟩ := ih h.2;exact ⟨by rw [h.1, h1], h2⟩
theorem aSw {s s' : Str} {n n' : Nat} (h : otN s n = otN s' n') : s = s' ∧ n = n' := by
 obtain ⟨h1, h2⟩ := aYc h (aXf n) (aXf n');exact ⟨h1, aQ5 _ _ h2⟩
theorem aJh (tk : List Str) (s : Str) (m : Nat) : ∃ n, m ≤ n ∧ n ≤ m + tk.length ∧ ¬ otN s n ∈ tk ∧ ∀ k, m ≤ k → k < n → otN s k ∈ tk := by
 have h1 : ∃ n, m ≤ n ∧ n ≤ m + tk.length ∧ ¬ otN s n ∈ tk := by
  refine Classical.byContradiction fun hno => ?_
  have hall : ∀ k, k ≤ tk.length → otN s (m + k) ∈ tk := fun k hk => Classical.byContradiction fun h => hno ⟨m + k, by omega, by omega, h⟩
  have hnd : ((List.range (tk.length + 1)).map fun k => otN s (m + k)).Nodup := by
   rw [List.Nodup, List.pairwise_map];exact List.Pairwise.imp (fun h e => h (by have := (aSw e).2; omega)) List.nodup_range
  have := iJ _ tk hnd fun x hx => by
   obtain ⟨k, hk, rfl⟩ := mem_map.1 hx;exact hall k (by have := mem_range.1 hk; omega)
  rw [length_map, List.length_range] at this;omega
 obtain ⟨n, hn1, hn2, hn3⟩ := h1;have key : ∀ d n, n = m + d → ¬ otN s n ∈ tk → ∃ n', m ≤ n' ∧ n' ≤ n ∧ ¬ otN s n' ∈ tk ∧ ∀ k, m ≤ k → k < n' → otN s k ∈ tk := by
  intro d
  induction d using Nat.strongRecOn with
  | _ d ih =>
   intro n hn hno;by_cases h : ∃ k, m ≤ k ∧ k < n ∧ ¬ otN s k ∈ tk
   ·obtain ⟨k, h1, h2, h3⟩ := h;obtain ⟨n', g1, g2, g3, g4⟩ := ih (k - m) (by omega) k (by omega) h3;exact ⟨n', g1, by omega, g3, g4⟩
   ·exact ⟨n, by omega, le_refl _, hno, fun k h1 h2 => Classical.byContradiction fun h3 => h ⟨k, h1, h2, h3⟩⟩
 obtain ⟨n', g1, g2, g3, g4⟩ := key (n - m) n (by omega) hn3;exact ⟨n', g1, by omega, g3, g4⟩
noncomputable def jL (tk : List Str) (s : Str) (m : Nat) : Nat := Classical.choose (aJh tk s m)
theorem gS (tk : List Str) (s : Str) (m : Nat) : m ≤ jL tk s m ∧ jL tk s m ≤ m + tk.length ∧ ¬ otN s (jL tk s m) ∈ tk ∧ ∀ k, m ≤ k → k < jL tk s m → otN s k ∈ tk := Classical.choose_spec (aJh tk s m)
noncomputable def aBa (tk : List Str) : List Str → Nat → List Str
 | [], _ => []
 | s :: l, m => otN s (jL tk s m) :: aBa tk l (jL tk s m + 1)
def eU (c : Core) (names : List Str) (l : List Core) : List Str := pfR c ++ names ++ l.flatMap pfR
noncomputable def aDx (c : Core) (names : List Str) (l : List Core) : Core := qP (jI c (names.zip (aBa (eU c names l) names 0))) ((aBa (eU c names l) names 0).zip l)
def pD (ρ : Str → Nat) (s : Str) (w : Nat) : Str → Nat := fun x => if x = s then w else ρ x
theorem aR1 {X : Nat} {c : Core} (h : cI (QL X) c) {ρ ρ' : Str → Nat} (hp : ∀ x ∈ pfR c, ρ x ≤ ρ' x) : wS ρ c ≤ wS ρ' c := by
 have e : wS ρ c = wS (fun x => if x ∈ pfR c then ρ x else 0) c := nX c h _ _ (fun x hx => by rw [if_pos hx]);rw [e];refine jZ (fun x => ?_) c;by_cases hx : x ∈ pfR c
 ·rw [if_pos hx]; exact hp x hx
 ·rw [if_neg hx]; exact zero_le _
theorem aU8 (ρ : Str → Nat) (z : Str) : wS ρ (vC z) = ρ z := by
 unfold vC;rw [wS, if_pos rfl, wSs, wSb, wSa]; rfl
theorem aJa {ρ ρ' : Str → Nat} {L L' : List Str} {x : Str} (h1 : x ∈ L → x ∈ L' ∨ 1 + w30 x ≤ ρ' x) (h2 : ¬ x ∈ L → ¬ x ∈ L' → ρ x ≤ ρ' x) (h3 : ¬ x ∈ L → x ∈ L' → ρ x ≤ 1 + w30 x) : gC ρ L x ≤ gC ρ' L' x := by
 unfold gC;by_cases a : x ∈ L
 ·rw [if_pos a];by_cases b : x ∈ L'
  ·rw [if_pos b]; exact le_refl _
  ·rw [if_neg b]; exact (h1 a).resolve_left b
 ·rw [if_neg a];by_cases b : x ∈ L'
  ·rw [if_pos b]; exact h3 a b
  ·rw [if_neg b]; exact h2 a b
section
variable {sb : Core → Str → Core → Core} {P : Core → Prop}
theorem w6 {far : List Str} {Q : Str → Prop} : ∀ {ns : List Str} {st : List Str × List Core × List Str}, (∀ x ∈ far, x ∈ st.2.2) → (∀ x, Q x → x ∈ st.2.2) → (∀ x ∈ st.1, ¬ x ∈ far ∧ ¬ Q x) → (∀ x ∈ ns, ¬ Q x) → ∀ x ∈ (iU sb far ns st).1, ¬ x ∈ far ∧ ¬ Q x
 | [], st, _, _, h3, _ => h3
 | n :: ns, st, h1, h2, h3, h4 => by
  have e : iU sb far (n :: ns) st = iU sb far ns (dE sb far st n) := rfl;rw [e];have h4' : ∀ x ∈ ns, ¬ Q x := fun x hx => h4 x (zq3 _ hx)
  by_cases hn : n ∈ far
  ·have es : dE sb far st n = (st.1 ++ [aZ st.2.2], st.2.1.map (fun p => sb p n (vC (aZ st.2.2))), st.2.2 ++ [aZ st.2.2]) := by unfold dE; rw [if_pos hn]
   rw [es];refine w6 (fun x hx => mem_append.2 (.inl (h1 x hx))) (fun x hx => mem_append.2 (.inl (h2 x hx))) (fun x hx => ?_) h4';rcases mem_append.1 hx with hx | hx
   ·exact h3 x hx
   ·rw [mem_singleton.1 hx];exact ⟨fun h => fV _ (h1 _ h), fun h => fV _ (h2 _ h)⟩
  ·have es : dE sb far st n = (st.1 ++ [n], st.2.1, st.2.2) := by unfold dE; rw [if_neg hn]
   rw [es];refine w6 h1 h2 (fun x hx => ?_) h4';rcases mem_append.1 hx with hx | hx
   ·exact h3 x hx
   ·rw [mem_singleton.1 hx];exact ⟨hn, h4 n zq2⟩
theorem aKc {X : Nat} {far : List Str} (hPq : ∀ p, P p → cI (QL X) p) (hz : ∀ p n z, P p → z.length ≤ 30 → P (sb p n (vC z)) ∧ (∀ x ∈ pfR (sb p n (vC z)), x ∈ pfR p ∨ x = z) ∧ ∀ ρ, wS ρ (sb p n (vC z)) ≤ wS (pD ρ n (ρ z)) p) :
  ∀ {ns : List Str} {st : List Str × List Core × List Str}, st.2.2.length + ns.length ≤ 540000000000 → (∀ p ∈ st.2.1, P p ∧ ∀ x ∈ pfR p, x ∈ st.2.2) → A2 (fun p q => P q ∧ ∀ ρ, wS (gC ρ (iU sb far ns st).1) q ≤ wS (gC ρ (st.1 ++ ns)) p) st.2.1 (iU sb far ns st).2.1
 | [], st, _, hP => by
  show A2 (fun p q => P q ∧ ∀ ρ, wS (gC ρ st.1) q ≤ wS (gC ρ (st.1 ++ [])) p) st.2.1 st.2.1;rw [append_nil];have key : ∀ l : List Core, (∀ p ∈ l, P p) → A2 (fun p q => P q ∧ ∀ ρ, wS (gC ρ st.1) q ≤ wS (gC ρ st.1) p) l l := by
   intro l
   induction l with
   | nil => intro _; exact .nil
   | cons p l ih => intro h; exact .cons ⟨h p zq2, fun _ => le_refl _⟩ (ih fun q hq => h q (zq3 _ hq))
  exact key _ fun p hp => (hP p hp).1
 | n :: ns, st, hl, hP => by
  simp only [length_cons] at hl;have hg := n8 (sb := sb) (far := far) (st := st) (n := n);have e : iU sb far (n :: ns) st = iU sb far ns (dE sb far st n) := rfl;rw [e];have hf : (aZ st.2.2).length ≤ 30 := mK _ (by omega);by_cases hn : n ∈ far
  ·have es : dE sb far st n = (st.1 ++ [aZ st.2.2], st.2.1.map (fun p => sb p n (vC (aZ st.2.2))), st.2.2 ++ [aZ st.2.2]) := by unfold dE; rw [if_pos hn]
   rw [es] at hg ⊢;have hP2 : ∀ p ∈ st.2.1.map (fun p => sb p n (vC (aZ st.2.2))), P p ∧ ∀ x ∈ pfR p, x ∈ st.2.2 ++ [aZ st.2.2] := fun p hp => by
    obtain ⟨q, hq, rfl⟩ := mem_map.1 hp;obtain ⟨z1, z2, _⟩ := hz q n _ (hP q hq).1 hf;refine ⟨z1, fun x hx => mem_append.2 ?_⟩;rcases z2 x hx with h | h
    ·exact .inl ((hP q hq).2 x h)
    ·exact .inr (mem_singleton.2 h)
   have hr := aKc hPq hz (far := far) (ns := ns) (st := (st.1 ++ [aZ st.2.2], st.2.1.map (fun p => sb p n (vC (aZ st.2.2))), st.2.2 ++ [aZ st.2.2])) (by omega) hP2;generalize iU sb far ns (st.1 ++ [aZ st.2.2], st.2.1.map (fun p => sb p n (vC (aZ st.2.2))), st.2.2 ++ [aZ st.2.2]) = r at hr ⊢;dsimp only at hr;have hno := fV st.2.2;generalize aZ st.2.2 = z at *;have key : ∀ (l : List Core) (m : List Core), (∀ p ∈ l, P p ∧ ∀ x ∈ pfR p, x ∈ st.2.2) → A2 (fun p q => P q ∧ ∀ ρ, wS (gC ρ r.1) q ≤ wS (gC ρ (st.1 ++ [z] ++ ns)) p) (l.map (fun p => sb p n (vC z))) m → A2 (fun p q => P q ∧ ∀ ρ, wS (gC ρ r.1) q ≤ wS (gC ρ (st.1 ++ n :: ns)) p) l m := by
    intro l
    induction l with
    | nil => intro m _ h; cases h; exact .nil
    | cons p l ih2 =>
     intro m hp h;cases h with
     | cons h1 h2 =>
      obtain ⟨p1, p2⟩ := hp p zq2;obtain ⟨_, _, z3⟩ := hz p n z p1 hf;refine .cons ⟨h1.1, fun ρ => le_trans (h1.2 ρ) (le_trans (z3 _) (aR1 (hPq p p1) fun x hx => ?_))⟩ (ih2 _ (fun q hq => hp q (zq3 _ hq)) h2);have hxz : ¬ x = z := fun e => hno (by rw [← e]; exact p2 x hx)
      unfold pD;by_cases hxn : x = n
      ·rw [if_pos hxn];have e1 : gC ρ (st.1 ++ [z] ++ ns) z = 1 + w30 z := by unfold gC; rw [if_pos (by simp)]
       have e2 : gC ρ (st.1 ++ n :: ns) x = 1 + w30 x := by unfold gC; rw [if_pos (by rw [hxn]; simp)]
       rw [e1, e2];unfold w30; omega
      ·rw [if_neg hxn];refine aJa (fun h => .inl ?_) (fun _ _ => le_refl _) (fun h h' => ?_)
       ·simp only [mem_append, mem_cons, not_mem_nil, or_false] at h ⊢;rcases h with (h | h) | h
        ·exact .inl h
        ·exact absurd h hxz
        ·exact .inr (.inr h)
       ·exfalso;simp only [mem_append, mem_cons, not_mem_nil, or_false] at h h';rcases h' with h' | h' | h'
        ·exact h (.inl (.inl h'))
        ·exact hxn h'
        ·exact h (.inr h')
   exact key _ _ hP hr
  ·have es : dE sb far st n = (st.1 ++ [n], st.2.1, st.2.2) := by unfold dE; rw [if_neg hn]
   rw [es] at hg ⊢;have hr := aKc hPq hz (far := far) (ns := ns) (st := (st.1 ++ [n], st.2.1, st.2.2)) (by omega) hP;have e2 : (st.1 ++ [n]) ++ ns = st.1 ++ n :: ns := by simp
   dsimp only at hr;rw [e2] at hr;exact hr
def WB (s : Str) (b : Core) (ns out : List Str) (p q : Core) : Prop := ∀ ρ, wS (gC ρ out) q ≤ wS (gC (pD ρ s (wS ρ b)) ns) p
theorem aQd {X : Nat} {s : Str} {b : Core} {ns : List Str} {ps : List Core} (hbq : cI (QL X) b) (hP : ∀ p ∈ ps, P p) (hPq : ∀ p, P p → cI (QL X) p)
  (hz : ∀ p n z, P p → z.length ≤ 30 → P (sb p n (vC z)) ∧ (∀ x ∈ pfR (sb p n (vC z)), x ∈ pfR p ∨ x = z) ∧ ∀ ρ, wS ρ (sb p n (vC z)) ≤ wS (pD ρ n (ρ z)) p)
  (hs : ∀ p, P p → ∀ ρ, wS ρ (sb p s b) ≤ wS (pD ρ s (wS ρ b)) p)
  (hl : (ps.flatMap pfR).length + 2 * ns.length + (pfR b).length ≤ 540000000000) : A2 (WB s b ns (cK sb s b ns ps).1) ps (cK sb s b ns ps).2 := by
 unfold cK;split
 ·rename_i hin;have hg := aKc (sb := sb) hPq hz (far := pfR b) (ns := ns) (st := ([], ps, ps.flatMap pfR ++ ns ++ pfR b)) (by simp only [length_append]; omega) (fun p hp => ⟨hP p hp, fun x hx => mem_append.2 (.inl (mem_append.2 (.inl (mem_flatMap.2 ⟨p, hp, hx⟩))))⟩);have ho := w6 (sb := sb) (far := pfR b) (Q := fun x => x = s) (ns := ns) (st := ([], ps, ps.flatMap pfR ++ ns ++ pfR b)) (fun x hx => mem_append.2 (.inr hx)) (fun x hx => by rw [hx]; exact mem_append.2 (.inl (mem_append.2 (.inl hin.1)))) (fun x hx => by cases hx) (fun x hx e => hin.2 (by rw [← e]; exact hx));generalize iU sb (pfR b) ns ([], ps, ps.flatMap pfR ++ ns ++ pfR b) = r at hg ho ⊢;dsimp only [nil_append] at hg ⊢;have key : ∀ (l m : List Core), A2 (fun p q => P q ∧ ∀ ρ, wS (gC ρ r.1) q ≤ wS (gC ρ ns) p) l m → A2 (WB s b ns r.1) l (m.map fun p => sb p s b) := by
   intro l m h
   induction h with
   | nil => exact .nil
   | cons h1 _ ih2 =>
    refine .cons (fun ρ => ?_) ih2;have e1 : wS (gC ρ r.1) b = wS ρ b := nX b hbq _ _ fun x hx => by
     unfold gC;rw [if_neg fun h => (ho x h).1 hx]
    have e2 : pD (gC ρ r.1) s (wS ρ b) = gC (pD ρ s (wS ρ b)) r.1 := by
     funext x;unfold pD gC;dsimp only;by_cases hx : x = s
     ·rw [if_pos hx, if_neg fun h => (ho x h).2 hx, if_pos hx]
     ·rw [if_neg hx, if_neg hx]
    have h2 := hs _ h1.1 (gC ρ r.1);rw [e1, e2] at h2;exact le_trans h2 (h1.2 _)
  exact key _ _ hg
 ·rename_i hin;have key : ∀ l : List Core, (∀ p ∈ l, p ∈ ps) → A2 (WB s b ns ns) l l := by
   intro l
   induction l with
   | nil => intro _; exact .nil
   | cons p l ih2 =>
    intro h;refine .cons (fun ρ => aR1 (hPq p (hP p (h p zq2))) fun x hx => aJa (fun h => .inl h) (fun hn _ => ?_) (fun hn h' => absurd h' hn)) (ih2 fun q hq => h q (zq3 _ hq));unfold pD;rw [if_neg fun e => hin ⟨mem_flatMap.2 ⟨p, h p zq2, by rw [← e]; exact hx⟩, by rw [← e]; exact hn⟩];exact le_refl _
  exact key ps fun p hp => hp
end
theorem aU5 {ρ ρ' : Str → Nat} {l m : List Core} (h : A2 (fun p q => wS ρ q ≤ wS ρ' p) l m) : wSs ρ m ≤ wSs ρ' l := by
 induction h with
 | nil => exact le_refl _
 | cons r _ ih => rw [wSs, wSs]; omega
theorem aQm {ρ ρ' : Str → Nat} : ∀ {ts : List Ty} {ns : List Str} {ps : List Core} {bs : List Bind}, A2 (fun (b : Bind) n => w30 n ≤ w30 b.name) bs ns → A2 (fun (b : Bind) p => wS ρ p ≤ wS ρ' b.body) bs ps → wSb ρ (mkB ts ns ps) ≤ wSb ρ' bs
 | [], _, _, _, _, _ => by unfold mkB; rw [wSb]; exact zero_le _
 | t :: ts, _, _, _, .nil, .nil => by unfold mkB; rw [wSb]; exact le_refl _
 | t :: ts, n :: ns, p :: ps, .mk s ty c :: bs, .cons h1 h2, .cons h3 h4 => by
  unfold mkB;rw [wSb, wSb];have := aQm (ts := ts) h2 h4;have h1 : w30 n ≤ w30 s := h1;have h3 : wS ρ p ≤ wS ρ' c := h3;omega
section
variable {sb : Core → Str → Core → Core} {X : Nat} {s : Str} {b : Core} {f n : Int} {nm : Str} {t : Ty} {ks : List Core} {bs : List Bind} {al : List Alt}
theorem aYd (hf1 : f ≠ 1) (hq : cI (QL X) (.mk f n nm t ks bs al)) (hn : A2 NR (gvN f nm bs) (cK sb s b (gvN f nm bs) (ks ++ bs.map Bind.body)).1)
  (hg : A2 (WB s b (gvN f nm bs) (cK sb s b (gvN f nm bs) (ks ++ bs.map Bind.body)).1) (ks ++ bs.map Bind.body) (cK sb s b (gvN f nm bs) (ks ++ bs.map Bind.body)).2)
  (ha : ∀ a ∈ al, A2 NR a.vars (cK sb s b a.vars [a.body]).1 ∧ A2 (WB s b a.vars (cK sb s b a.vars [a.body]).1) [a.body] (cK sb s b a.vars [a.body]).2) (ρ : Str → Nat) :
  wS ρ (oZ sb s b (.mk f n nm t ks bs al)) ≤ wS (pD ρ s (wS ρ b)) (.mk f n nm t ks bs al) := by
 have hA : ∀ a ∈ al, WB s b a.vars (j1 sb s b a).vars a.body (j1 sb s b a).body ∧ A2 NR a.vars (j1 sb s b a).vars := fun a ha' => by
  obtain ⟨g2, g1⟩ := ha a ha';refine ⟨?_, g2⟩;show WB s b a.vars (cK sb s b a.vars [a.body]).1 a.body ((cK sb s b a.vars [a.body]).2.headD a.body);cases hx : (cK sb s b a.vars [a.body]).2 with
  | nil => rw [hx] at g1; cases g1
  | cons y l' =>
   rw [hx] at g1;cases g1 with
   | cons h _ => exact h
 have hone : f = 5 → bs = [] := fun h5 => (iR hq (.inl h5)).2.1
 rw [oZ];unfold zNm zKs zBs;generalize cK sb s b (gvN f nm bs) (ks ++ bs.map Bind.body) = r at hg hn ⊢;obtain ⟨r1, r2⟩ := r;dsimp only at *;have hK := hg.take ks.length;rw [take_left] at hK;have hB := hg.drop ks.length;rw [drop_left] at hB;have hBl : (r2.drop ks.length).length = bs.length := by rw [hB.length, length_map]
 have hnl := hn.length;have hgv : gvN f (if f = 5 then r1.headD nm else nm) (mkB (bs.map Bind.ty) r1 (r2.drop ks.length)) = r1 := by
  by_cases h5 : f = 5
  ·have := hone h5; subst this;unfold gvN at hn hnl ⊢;rw [if_pos h5] at hn hnl;rw [if_pos h5, if_pos h5]
   match r1, hnl with
   | [y], _ => show [y] ++ (mkB [] [y] _).map Bind.name = [y]; unfold mkB; rfl
  ·unfold gvN at hnl ⊢;rw [if_neg h5, nil_append] at hnl;rw [length_map] at hnl;rw [if_neg h5, nil_append, kI (by rw [length_map]; exact hnl) (by rw [length_map]; exact hBl)]
 rw [wS, wS, if_neg hf1, if_neg hf1, hgv];have e1 : w30 (if f = 5 then r1.headD nm else nm) ≤ w30 nm := by
  split
  ·rename_i hf;unfold gvN at hn;rw [if_pos hf] at hn;cases hn with
   | cons h _ => exact h.w
  ·exact le_refl _
 have e2 : wSs (gC ρ r1) (r2.take ks.length) ≤ wSs (gC (pD ρ s (wS ρ b)) (gvN f nm bs)) ks := aU5 (A2.mono (fun p q h => h ρ) hK);have e3 : wSb (gC ρ r1) (mkB (bs.map Bind.ty) r1 (r2.drop ks.length)) ≤ wSb (gC (pD ρ s (wS ρ b)) (gvN f nm bs)) bs := by
  by_cases hf : f = 5
  ·have := hone hf; subst this;show wSb _ (mkB [] _ _) ≤ _;unfold mkB; rw [wSb]; exact zero_le _
  ·have h4 := hn;have e0 : gvN f nm bs = bs.map Bind.name := by unfold gvN; rw [if_neg hf, nil_append]
   rw [e0] at h4;exact aQm (A2.mapL (A2.mono (fun a b h => h.w) h4)) (A2.mapL (A2.mono (fun p q h => h ρ) hB))
 have e4 : wSa ρ (al.map (j1 sb s b)) ≤ wSa (pD ρ s (wS ρ b)) al := by
  clear ha hq
  induction al with
  | nil => rw [map_nil, wSa, wSa]; exact le_refl _
  | cons a l ihl =>
   obtain ⟨af, an, anm, vs, ab⟩ := a;obtain ⟨g1, g2⟩ := hA _ zq2;have := ihl fun x hx => hA x (zq3 _ hx)
   have g3 := g1 ρ;have g4 := xE g2;have e : j1 sb s b (Alt.mk af an anm vs ab) = .mk af an anm (j1 sb s b (Alt.mk af an anm vs ab)).vars (j1 sb s b (Alt.mk af an anm vs ab)).body := rfl;have g3 : wS (gC ρ (j1 sb s b (Alt.mk af an anm vs ab)).vars) (j1 sb s b (Alt.mk af an anm vs ab)).body ≤ wS (gC (pD ρ s (wS ρ b)) vs) ab := g3;have g4 : ((j1 sb s b (Alt.mk af an anm vs ab)).vars.map fun v => 1 + w30 v).sum ≤ (vs.map fun v => 1 + w30 v).sum := g4;rw [map_cons, e, wSa, wSa];omega
 omega
end
theorem aP4 (hI : eD 540000000000) {D M X : Nat} (hMD : M + D ≤ 700000) (hX : 31 ≤ X) : ∀ (k : Nat) (c : Core), m30 c ≤ k → CG D M X c → ∀ (s : Str) (b : Core), CG D M X b → tyR b = [] → ∀ ρ, wS ρ (dB k c s b) ≤ wS (pD ρ s (wS ρ b)) c := by
 intro k
 induction k with
 | zero => intro c h; have := eT c; omega
 | succ k ih =>
 intro c h hc s b hb htb ρ;have hBig : Big = 250000000000 := rfl;have hsz := hc.sz;have hszb := hb.sz;have hpfb := j0 b;obtain ⟨f, n, nm, t, ks, bs, al⟩ := c;have hq := hc.q;rw [dB];by_cases hv : f = 1 ∧ nm = s
 ·rw [if_pos (show (Core.mk f n nm t ks bs al).form = 1 ∧ (Core.mk f n nm t ks bs al).name = s from hv)];obtain ⟨rfl, rfl⟩ := hv;have e : pD ρ nm (wS ρ b) nm = wS ρ b := by unfold pD; rw [if_pos rfl]
  rw [wS.eq_1 (pD ρ nm (wS ρ b)), if_pos rfl, e]; omega
 rw [if_neg (show ¬ ((Core.mk f n nm t ks bs al).form = 1 ∧ (Core.mk f n nm t ks bs al).name = s) from hv)]
 let P : Core → Prop := fun x => m30 x < m30 (.mk f n nm t ks bs al) ∧ CG D M X x
 have hsub : ∀ p, P p → ∀ n' b', CG D M X b' → tyR b' = [] → ∀ ρ, wS ρ (dB k p n' b') ≤ wS (pD ρ n' (wS ρ b')) p := fun p hp n' b' hb' ht' => ih p (by have := hp.1; omega) hp.2 n' b' hb' ht'
 have hsubT : ∀ p, P p → ∀ n' b', CG D M X b' → TB X p n' b' (dB k p n' b') := fun p hp n' b' hb' => tJ hI hMD hX k p (by have := hp.1; omega) hp.2 n' b' hb'
 have hz : ∀ p m z, P p → z.length ≤ 30 → P (dB k p m (vC z)) ∧ (∀ x ∈ pfR (dB k p m (vC z)), x ∈ pfR p ∨ x = z) ∧ ∀ ρ, wS ρ (dB k p m (vC z)) ≤ wS (pD ρ m (ρ z)) p := fun p m z hp hzl => by
  have hcg := CG.vC (D := D) (M := M) hzl hX;have h1 := hsubT p hp m (vC z) hcg;have h2 := h1.r0 hzl;have h3 := aR9 hI hMD hX k p (by have := hp.1; omega) hp.2 m (vC z) hcg;refine ⟨⟨lt_of_le_of_lt h2.sz hp.1, h2.cg hp.2 h1.rx.q⟩, fun x hx => (h3.pf x hx).imp And.left fun h => ?_, fun ρ => ?_⟩
  ·have : pfR (vC z) = [z] := rfl;rw [this] at h; exact mem_singleton.1 h
  ·have := hsub p hp m (vC z) hcg rfl ρ;rwa [aU8] at this
 have hzR : ∀ p m z, P p → z.length ≤ 30 → P (dB k p m (vC z)) ∧ R0 p (dB k p m (vC z)) := fun p m z hp hzl => by
  have h1 := hsubT p hp m (vC z) (CG.vC hzl hX);have h2 := h1.r0 hzl;exact ⟨⟨lt_of_le_of_lt h2.sz hp.1, h2.cg hp.2 h1.rx.q⟩, h2⟩
 have hPq : ∀ p, P p → cI (QL X) p := fun p hp => hp.2.q
 have hSR : ∀ p, P p → RX X b p (dB k p s b) := fun p hp => (hsubT p hp s b hb).rx
 have hs : ∀ p, P p → ∀ ρ, wS ρ (dB k p s b) ≤ wS (pD ρ s (wS ρ b)) p := fun p hp => hsub p hp s b hb htb
 by_cases hf1 : f = 1
 ·subst hf1;obtain ⟨rfl, rfl, rfl⟩ := u6 hq rfl;rw [if_neg (fun h => absurd h.1 (by show ¬ (1 : Int) = 7; decide))];have hne : ¬ nm = s := fun e => hv ⟨rfl, e⟩
  have e : oZ (dB k) s b (.mk 1 n nm t [] [] []) = .mk 1 n nm t [] [] [] := by
   rw [oZ];unfold zNm zKs zBs;rw [if_neg (by decide)];have : (([] : List Core) ++ ([] : List Bind).map Bind.body) = [] := rfl;rw [this];have hp : cK (dB k) s b (gvN 1 nm []) [] = (gvN 1 nm [], []) := by
    unfold cK;rw [if_neg fun h => by cases h.1]
   rw [hp];rfl
  rw [e];refine aR1 hq fun x hx => ?_
  have e2 : pfR (.mk 1 n nm t [] [] []) = [nm] := rfl;rw [e2] at hx;unfold pD;rw [if_neg fun e => hne (by rw [← mem_singleton.1 hx, e])];exact le_refl _
 have hnc : (if (Core.mk f n nm t ks bs al).form = 7 ∧ s ∈ pfR (Core.mk f n nm t ks bs al) then aXh (.mk f n nm t ks bs al) (tyR b) else (.mk f n nm t ks bs al)) = .mk f n nm t ks bs al := by
  split
  ·rw [aXh, htb, if_neg not_mem_nil]
  ·rfl
 rw [hnc];have hPs : ∀ p ∈ ks ++ bs.map Bind.body, P p := fun p hp => by
  rcases mem_append.1 hp with hp | hp
  ·exact ⟨(hc.kid hp).2.2, (hc.kid hp).1⟩
  ·obtain ⟨x, hx, rfl⟩ := mem_map.1 hp;exact ⟨(hc.bind hx).2, (hc.bind hx).1⟩
 have hP3 : ∀ x ∈ al, P x.body := fun x hx => ⟨(hc.alt hx).2, (hc.alt hx).1⟩
 have hm := hsz;rw [m30] at hm;have hfm := aEo (ks ++ bs.map Bind.body);rw [pN] at hfm;have hbsb := r4 bs;have hgv := aBg (f := f) (nm := nm) (bs := bs);have hgl : ((ks ++ bs.map Bind.body).flatMap pfR).length + 2 * (gvN f nm bs).length + (pfR b).length ≤ 540000000000 := by omega
 have hal' : ∀ a ∈ al, (([a.body] : List Core).flatMap pfR).length + 2 * a.vars.length + (pfR b).length ≤ 540000000000 := fun a ha => by
  have h1 := gD ha;have h2 := qF a.vars;have h3 := j0 a.body;simp only [flatMap_cons, flatMap_nil, append_nil];omega
 have hN := (mE (sb := dB k) (P := P) (X := X) (s := s) (b := b) (ns := gvN f nm bs) hPs hPq hzR hSR hgl).2
 have hRB := aQd (sb := dB k) (P := P) (s := s) (b := b) (ns := gvN f nm bs) hb.q hPs hPq hz hs hgl;exact aYd hf1 hq hN hRB (fun a ha => ⟨(mE (sb := dB k) (P := P) (X := X) (s := s) (b := b) (fun p hp => by rw [mem_singleton.1 hp]; exact hP3 a ha) hPq hzR hSR (hal' a ha)).2, aQd (sb := dB k) (P := P) (s := s) (b := b) hb.q (fun p hp => by rw [mem_singleton.1 hp]; exact hP3 a ha) hPq hz hs (hal' a ha)⟩) ρ
theorem aJc {σ : Str → Nat} {B : Nat} (hB : 1 ≤ B) (h : ∀ x, σ x ≤ (1 + w30 x) * B) (L : List Str) (x : Str) : gC σ L x ≤ (1 + w30 x) * B := by
 unfold gC;split
 ·exact le_mul_of_pos_right _ hB
 ·exact h x
mutual
theorem aYo {σ : Str → Nat} {B : Nat} (hB : 1 ≤ B) (h : ∀ x, σ x ≤ (1 + w30 x) * B) : ∀ c : Core, wS σ c ≤ m30 c * B
 | .mk f n s t ks bs al => by
  rw [m30, wS, add_mul, add_mul, add_mul];have h1 := aU4 hB (aJc hB h (gvN f s bs)) ks;have h2 := aU6 hB (aJc hB h (gvN f s bs)) bs;have h3 := aU7 hB h al;have h4 := h s;have h5 : 1 + w30 s ≤ (1 + w30 s) * B := le_mul_of_pos_right _ hB;split <;> omega
theorem aU4 {σ : Str → Nat} {B : Nat} (hB : 1 ≤ B) (h : ∀ x, σ x ≤ (1 + w30 x) * B) : ∀ l : List Core, wSs σ l ≤ cS l * B
 | [] => by rw [wSs]; exact zero_le _
 | c :: l => by rw [wSs, cS, add_mul]; have := aYo hB h c; have := aU4 hB h l; omega
theorem aU6 {σ : Str → Nat} {B : Nat} (hB : 1 ≤ B) (h : ∀ x, σ x ≤ (1 + w30 x) * B) : ∀ l : List Bind, wSb σ l ≤ fR l * B
 | [] => by rw [wSb]; exact zero_le _
 | .mk s t c :: l => by
  rw [wSb, fR, add_mul, add_mul];have := aYo hB h c;have := aU6 hB h l;have h5 : 1 + w30 s ≤ (1 + w30 s) * B := le_mul_of_pos_right _ hB;omega
theorem aU7 {σ : Str → Nat} {B : Nat} (hB : 1 ≤ B) (h : ∀ x, σ x ≤ (1 + w30 x) * B) : ∀ l : List Alt, wSa σ l ≤ iL l * B
 | [] => by rw [wSa]; exact zero_le _
 | .mk f n s vs c :: l => by
  rw [wSa, iL, add_mul, add_mul, add_mul];have := aYo hB (aJc hB h vs) c;have := aU7 hB h l;have h5 : 1 + w30 s ≤ (1 + w30 s) * B := le_mul_of_pos_right _ hB;have h6 : (vs.map fun v => 1 + w30 v).sum ≤ (vs.map fun v => 1 + w30 v).sum * B := le_mul_of_pos_right _ hB;omega
end
theorem aJu {σ : Str → Nat} (h : ∀ x, 1 + w30 x ≤ σ x) (c : Core) : m30 c ≤ wS σ c := by
 rw [← x5 (ρ := fun x => 1 + w30 x) (fun _ => rfl) c];exact jZ h c
def aGw (own : List Str) (B : Nat) : Str → Nat := fun x => if x ∈ own then max (31 * B) (1 + w30 x) else 1 + w30 x
def aSe (names own : List Str) (B : Nat) : Str → Nat := fun x => if x ∈ names then (1 + w30 x) * B else aGw own B x
theorem aAz {own : List Str} {B : Nat} (x : Str) : 1 + w30 x ≤ aGw own B x := by
 unfold aGw;split
 ·exact le_max_right _ _
 ·exact le_refl _
theorem aIe {own : List Str} {B : Nat} (hB : 1 ≤ B) (x : Str) : aGw own B x ≤ (1 + w30 x) * B := by
 have h5 : 1 + w30 x ≤ (1 + w30 x) * B := le_mul_of_pos_right _ hB;unfold aGw;split
 ·refine max_le.2 ⟨mul_le_mul_right _ ?_, h5⟩;have := gU x;omega
 ·exact h5
theorem aSd {names own : List Str} {B : Nat} (hB : 1 ≤ B) (x : Str) : aSe names own B x ≤ (1 + w30 x) * B := by
 unfold aSe;split
 ·exact le_refl _
 ·exact aIe hB x
theorem aIc {names own : List Str} {B : Nat} (hB : 1 ≤ B) (x : Str) : aGw own B x ≤ aSe names own B x := by
 unfold aSe;split
 ·exact aIe hB x
 ·exact le_refl _
theorem aXi {D M X : Nat} {z : Str} (hz : 1 + w30 z ≤ X) (hz2 : 1 + w30 z ≤ Big) : CG D M X (vC z) := by
 have hw := gU z;refine ⟨bC.2 ⟨⟨rfl, fun h => by omega, rfl, fun p hp => (by cases hp), ?_, fun h => by omega, fun p hp => (by cases hp), fun p hp => (by cases hp)⟩, fun x hx => (by cases hx), fun x hx => (by cases hx), fun x hx => (by cases hx)⟩, ?_, ?_, ?_⟩
 ·show lw z [] [] ≤ X;unfold lw;simp only [map_nil, sum_nil];omega
 ·rw [aOm]; exact zero_le _
 ·rw [aMt, aMx]; exact zero_le _
 ·unfold vC;rw [m30, cS, fR, iL]; omega
theorem vG (tk : List Str) : ∀ (l : List Str) (m : Nat), (aBa tk l m).length = l.length
 | [], _ => rfl
 | s :: l, m => by rw [aBa, length_cons, length_cons, vG]
noncomputable def rN (tk : List Str) : List Str → Nat → Nat → Nat
 | _, m, 0 => m
 | [], m, _ + 1 => m
 | s :: l, m, i + 1 => rN tk l (jL tk s m + 1) i
theorem vH (tk : List Str) : ∀ (l : List Str) (m i : Nat) (s : Str), l[i]? = some s → (aBa tk l m)[i]? = some (otN s (jL tk s (rN tk l m i))) ∧ rN tk l m (i + 1) = jL tk s (rN tk l m i) + 1
 | [], m, i, s, h => by cases h
 | x :: l, m, 0, s, h => by
  have e : x = s := by simpa using h
  subst e;refine ⟨by rw [aBa, rN]; rfl, ?_⟩;rw [rN, rN, rN]
 | x :: l, m, i + 1, s, h => by
  have h' : l[i]? = some s := by simpa using h
  obtain ⟨h1, h2⟩ := vH tk l (jL tk x m + 1) i s h';refine ⟨by rw [aBa, rN, List.getElem?_cons_succ]; exact h1, ?_⟩;rw [rN, rN]; exact h2
theorem aA9 (tk : List Str) : ∀ (l : List Str) (m i : Nat), rN tk l m i ≤ m + i * (tk.length + 1)
 | _, m, 0 => by rw [rN]; omega
 | [], m, i + 1 => by rw [rN]; omega
 | s :: l, m, i + 1 => by
  rw [rN];have h1 := aA9 tk l (jL tk s m + 1) i;have h2 := (gS tk s m).2.1
  rw [succ_mul];omega
structure OtO (tk names own : List Str) (K : Nat) : Prop where
 len : own.length = names.length
 at_ : ∀ (i : Nat) (s o : Str), names[i]? = some s → own[i]? = some o → ∃ n, n ≤ K ∧ o = otN s n
 out : ∀ o ∈ own, ¬ o ∈ tk
theorem aSv (tk names : List Str) : OtO tk names (aBa tk names 0) (names.length * (tk.length + 1)) := by
 refine ⟨vG tk names 0, fun i s o h1 h2 => ?_, fun o ho => ?_⟩
 ·obtain ⟨g1, g2⟩ := vH tk names 0 i s h1;rw [g1] at h2;have hi : i + 1 ≤ names.length := (zq6.1 h1).1
  have g3 := aA9 tk names 0 (i + 1);rw [g2] at g3;have g4 : (i + 1) * (tk.length + 1) ≤ names.length * (tk.length + 1) := mul_le_mul_right _ hi;exact ⟨_, by omega, (Option.some.inj h2).symm⟩
 ·obtain ⟨i, hi⟩ := List.mem_iff_getElem?.1 ho;have hl : i < names.length := by
   have := (zq6.1 hi).1
   rwa [vG] at this
  obtain ⟨s, hs⟩ := aL hl;obtain ⟨g1, _⟩ := vH tk names 0 i s hs;rw [g1] at hi;rw [← Option.some.inj hi];exact (gS tk s _).2.2.1
theorem aJd {s : Str} {n : Nat} (h : n < 10 ^ 12) : (otN s n).length ≤ s.length + 13 := by
 have := aQ4 11 n h;unfold otN;rw [length_append, length_cons]; omega
structure P1 (X B : Nat) (c : Core) (names own : List Str) (r : Core) : Prop where
 q : cI (QL X) r
 cw : ∀ (A : Alg) (E : Nat) (ρ : Str → Nat), cw A E r ρ ≤ cw A E c ρ
 ty : ∀ x ∈ tyR r, x ∈ tyR c
 tl : tlC r ≤ tlC c
 sz : wS (aSe names own B) r ≤ m30 c * B
section
variable {D M X B : Nat} {c : Core} {l : List Core} {names own tk : List Str}
theorem P1.cg {r : Core} (ho : PO D M X B c l) (h : P1 X B c names own r) : CG D M X r := by
 have hc := ho.cg;refine ⟨h.q, le_trans (h.cw j9 0 r0) hc.dep, by have := hc.sc; have := h.tl; have := cZ (a := tyR c) h.ty; omega, ?_⟩;exact le_trans (aJu (fun x => le_trans (aAz x) (aIc ho.one x)) r) (le_trans h.sz ho.sz)
theorem P1.zero (ho : PO D M X B c l) : P1 X B c names own c :=
 ⟨ho.q, fun _ _ _ => le_refl _, fun _ h => h, le_refl _, aYo ho.one (aSd ho.one) c⟩
theorem P1.step (hI : eD 540000000000) (hMD : M + D ≤ 700000) (hX : 31 ≤ X) (hB2 : 2 ≤ B) {r : Core} {s o : Str} (ho : PO D M X B c l) (hns : ∀ o ∈ own, ¬ o ∈ names) (h : P1 X B c names own r)
  (hs : s ∈ names) (hoo : o ∈ own) (hol : o.length ≤ s.length + 13) (hoX : 1 + w30 o ≤ X) (hoB : 1 + w30 o ≤ Big) :
  TB X r s (vC o) (dB (m30 r) r s (vC o)) ∧ P1 X B c names own (dB (m30 r) r s (vC o)) := by
 have hcg := h.cg ho;have hcb := aXi (D := D) (M := M) hoX hoB;have h1 := tJ hI hMD hX (m30 r) r (le_refl _) hcg s (vC o) hcb;have h2 := aP4 hI hMD hX (m30 r) r (le_refl _) hcg s (vC o) hcb rfl (aSe names own B);refine ⟨h1, h1.rx.q, fun A E ρ => ?_, fun x hx => ?_, ?_, ?_⟩
 ·have g1 := h1.rx.cw A E ρ;rw [aOm] at g1;have g2 := aZ7 (A := A) (E := E) (ρ := ρ) r;have g3 := h.cw A E ρ;omega
 ·exact h.ty x ((h1.rx.ty x hx).resolve_right (by rw [aMt]; exact not_mem_nil))
 ·have g1 := h1.rx.tl;rw [aMx] at g1;have := h.tl;omega
 ·refine le_trans h2 (le_trans (jZ (fun x => ?_) r) h.sz);rw [aU8];unfold pD;by_cases hx : x = s
  ·rw [if_pos hx, hx];unfold aSe;rw [if_neg (hns o hoo), if_pos hs];unfold aGw;rw [if_pos hoo];have w1 := gU s;have w2 : w30 o ≤ w30 s + 13 := by unfold w30; omega
   have w3 : (1 + w30 s) * 2 ≤ (1 + w30 s) * B := mul_le_mul_left _ hB2;exact max_le.2 ⟨mul_le_mul_right _ (by omega), by omega⟩
  ·rw [if_neg hx]; exact le_refl _
theorem aNn (hI : eD 540000000000) (hMD : M + D ≤ 700000) (hX : 31 ≤ X) (hB2 : 2 ≤ B) (ho : PO D M X B c l) (hot : OtO tk names own 500000000000) (hns : ∀ o ∈ own, ¬ o ∈ names) (hnl : ∀ s ∈ names, s.length + 14 ≤ X ∧ s.length ≤ 1000) : ∀ i, i ≤ names.length → P1 X B c names own (jI c ((names.zip own).take i)) := by
 intro i
 induction i with
 | zero => intro _; exact P1.zero ho
 | succ i ih =>
  intro hi;obtain ⟨s, hs⟩ := aL (show i < names.length by omega);obtain ⟨o, hoo⟩ := aL (show i < own.length by have := hot.len; omega);obtain ⟨n, hn, he⟩ := hot.at_ i s o hs hoo;have hsm := zq7 hs;obtain ⟨n1, n2⟩ := hnl s hsm;have hol : o.length ≤ s.length + 13 := by rw [he]; exact aJd (by omega)
  have hBig : Big = 250000000000 := rfl;have hw : 1 + w30 o ≤ max 31 (s.length + 14) := by unfold w30; omega
  have := (P1.step hI hMD hX hB2 ho hns (ih (by omega)) hsm (zq7 hoo) hol (by omega) (by omega)).2
  unfold jI at this ⊢;rw [nB _ _ hs hoo];exact this
structure P3 (X B : Nat) (c : Core) (l : List Core) (own : List Str) (i : Nat) (r : Core) : Prop where
 q : cI (QL X) r
 cw : ∀ (A : Alg) (E : Nat) (ρ : Str → Nat) (K : Nat), cw A E c ρ ≤ K → (∀ b ∈ l, cw A E b ρ ≤ K) → cw A E r ρ ≤ K
 ty : ∀ x ∈ tyR r, x ∈ tyR c ∨ ∃ b ∈ l, x ∈ tyR b
 tl : tlC r ≤ tlC c + ((l.take i).map tlC).sum
 sz : wS (aGw own B) r ≤ m30 c * B
theorem P3.cg {i : Nat} {r : Core} (ho : PO D M X B c l) (h : P3 X B c l own i r) : CG D M X r := by
 obtain ⟨U, h1, h2, h3⟩ := ho.ty;refine ⟨h.q, h.cw j9 0 r0 D ho.dep ho.bdep, ?_, le_trans (aJu aAz r) (le_trans h.sz ho.sz)⟩;have := cZ (c := r) (a := U) fun x hx => by
  rcases h.ty x hx with h | ⟨b, hb, h⟩
  ·exact h2 x h
  ·exact h3 b hb x h
 have := h.tl;have := aDg (g := tlC) (l := l) (i := i);omega
theorem P3.zero {r : Core} (ho : PO D M X B c l) (h : P1 X B c names own r) : P3 X B c l own 0 r :=
 ⟨h.q, fun A E ρ K h1 _ => le_trans (h.cw A E ρ) h1, fun x hx => .inl (h.ty x hx), by simpa using h.tl, le_trans (jZ (aIc (names := names) ho.one) r) h.sz⟩
theorem P3.step (hI : eD 540000000000) (hMD : M + D ≤ 700000) (hX : 31 ≤ X) {i : Nat} {r s b : _} (ho : PO D M X B c l) (htk : ∀ b ∈ l, ∀ x ∈ pfR b, x ∈ tk) (htb : ∀ b ∈ l, tyR b = []) (hout : ∀ o ∈ own, ¬ o ∈ tk) (h : P3 X B c l own i r) (hs : s ∈ own) (hb : l[i]? = some b) :
  TB X r s b (dB (m30 r) r s b) ∧ P3 X B c l own (i + 1) (dB (m30 r) r s b) := by
 have hbm := zq7 hb;have hcg := h.cg ho;have hcb := ho.cgb hbm;have h1 := tJ hI hMD hX (m30 r) r (le_refl _) hcg s b hcb;have h2 := aP4 hI hMD hX (m30 r) r (le_refl _) hcg s b hcb (htb b hbm) (aGw own B);refine ⟨h1, h1.rx.q, fun A E ρ K k1 k2 => ?_, fun x hx => ?_, ?_, ?_⟩
 ·have := h1.rx.cw A E ρ;have := h.cw A E ρ K k1 k2;have := k2 b hbm;omega
 ·rcases h1.rx.ty x hx with h' | h'
  ·exact h.ty x h'
  ·exact .inr ⟨b, hbm, h'⟩
 ·have e : (l.take (i + 1)) = l.take i ++ [b] := by rw [take_add_one, hb]; rfl
  rw [e, map_append, List.sum_append];have := h1.rx.tl;have := h.tl;simp only [map_cons, map_nil, sum_cons, sum_nil];omega
 ·refine le_trans h2 (le_trans (jZ (fun x => ?_) r) h.sz);have e : wS (aGw own B) b = m30 b := by
   rw [← x5 (ρ := fun x => 1 + w30 x) (fun _ => rfl) b];refine nX b (ho.bq b hbm) _ _ fun x hx => ?_
   unfold aGw;rw [if_neg fun h => hout x h (htk b hbm x hx)]
  rw [e];unfold pD;by_cases hx : x = s
  ·rw [if_pos hx, hx];unfold aGw;rw [if_pos hs];exact le_trans (ho.bsz b hbm) (le_max_left _ _)
  ·rw [if_neg hx]; exact le_refl _
theorem aNm (hI : eD 540000000000) (hMD : M + D ≤ 700000) (hX : 31 ≤ X) (ho : PO D M X B c l) (htk : ∀ b ∈ l, ∀ x ∈ pfR b, x ∈ tk) (htb : ∀ b ∈ l, tyR b = []) (hout : ∀ o ∈ own, ¬ o ∈ tk) (hol : own.length = l.length) {r : Core} (h : P3 X B c l own 0 r) : ∀ i, i ≤ l.length → P3 X B c l own i (qP r ((own.zip l).take i)) := by
 intro i
 induction i with
 | zero => intro _; exact h
 | succ i ih =>
  intro hi;obtain ⟨b, hb⟩ := aL (show i < l.length by omega);obtain ⟨s, hs⟩ := aL (show i < own.length by omega);have := (P3.step hI hMD hX ho htk htb hout (ih (by omega)) (zq7 hs) hb).2
  unfold qP at this ⊢;rw [nB _ _ hs hb];exact this
theorem P3.fin {r : Core} (ho : PO D M X B c l) (h : P3 X B c l own l.length r) : PR X B c l r := by
 refine ⟨h.q, h.cw, h.ty, ?_, le_trans (aJu aAz r) h.sz⟩;have := h.tl;rwa [take_length] at this
end
end Go.Proofs.YtmoekkcdkjopgaaGreatDoor
namespace Go.AM
open Go
theorem lV {S : Sto} {c : C} {v : Value} (h : Rep S c v) : ∀ m : Nat, c9 S (List.replicate m c) (List.replicate m v)
 | 0 => by simp [c9]
 | m + 1 => by
  rw [List.replicate_succ, List.replicate_succ];simp only [c9];exact ⟨v, _, rfl, h, lV h m⟩
theorem vO (v : Value) (m : Nat) : (madeCells #[v] m).toList = List.replicate m v := by
 refine List.eq_replicate_iff.2 ⟨by simp [madeCells], fun x hx => ?_⟩;simp only [madeCells, Array.toList_map, mem_map] at hx;obtain ⟨i, _, rfl⟩ := hx;simp [Nat.mod_one]
section
variable {P : Program} {n : Nat}
theorem xT {o : Oper} {st : St} {d : Nat} {T : TT} {t e : TypeId} {i ei : TI} {x y : Operand} {m : Nat} {c : C} {kx ky : IntKind} (id : Nat) (hT : Tok P T) (ho : o.op = .makeSlice t x y) (hd : o.dst = some d) (hdn : d < n)
  (hi : T[t]? = some (some i)) (hk : i.k = .sl e) (hei : T[e]? = some (some ei)) (hes : ei.size = 1) (hz : ei.zero = [c]) (hx : opv st x = some (I kx m)) (hy : opv st y = some (I ky m)) (hm : m ≤ 1000000) (hb : ei.bytes * m ≤ 281474976710656) (hid : st.h id = none) :
  Step P n o st ⟨opr x ++ opr y, [id]⟩ ⟨some (d, some (.one (.hs id 0 m m))), [(id, some (.arr e ei.size (List.replicate m [c]) 0))]⟩ := by
 refine Step.new hd hdn hid (by simp) fun st' ha hid' G S μ a w hs => ?_
 obtain ⟨inf, dd, z, g1, g2, g3, g4, g5, g6, g7, g8, g9⟩ := (hT.get hei).ex;have vx := aM hs hx fun t ht => ha.1 t (by simp [ht])
 have vy := aM hs hy fun t ht => ha.1 t (by simp [ht])
 simp only [I, aV, b8, Rep] at vx vy;have hrep : c9 S ei.zero z.cells.toList := fX (S := S) g7;rw [hz] at hrep;simp only [c9] at hrep;obtain ⟨v, us, hzv, hv, hus⟩ := hrep;subst hus;have hzc : z.cells = #[v] := by rw [← Array.toList_inj, hzv]
 have hb' : (inf.bytes : Int) * (m : Int) ≤ 281474976710656 := by
  rw [g4];have h : ((ei.bytes * m : Nat) : Int) ≤ 281474976710656 := by omega
  rwa [Int.natCast_mul] at h
 have hrun := run_make (P := P) w t e inf z ((hT.get hi).slice hk) g1 g6 kx ky (m : Int) (m : Int) (by omega) (Int.le_refl _) hb' (by omega);rw [g3, hes, mul_one, Int.toNat_natCast, hzc] at hrun;have hcl := vO v m;generalize madeCells #[v] m = out at hrun hcl;refine ⟨_, _, .slice (some ⟨w.heap.size, 0, none⟩) m m, (0, m), ?_, WChg.alloc w (.cells out e), ?_, ?_⟩
 ·simp only [execOp, ho, vx, vy, Sem.run_bind, hrun, Result.andThen_ok, Sem.run_pure]
 ·refine ⟨fun r hr => by rw [(List.mem_replicate.1 hr).2, hes]; rfl, .inr ⟨w.heap.size, 0, m, out.toList, aI _ _ _, heap_alloc_new w _, by simp [hcl, hes], by simp, ?_, ?_, fun _ o _ => eI hs.inv o, fun o _ => eI hs.inv o, fun e => by cases e⟩⟩
  ·have : (1000000 : Nat) ≤ maxLen := by decide
   omega
  ·rw [hcl, hes];simp only [drop_zero, List.length_replicate, mul_one];rw [take_of_length_le (by simp), List.flatten_replicate_singleton];exact lV hv m
 ·simp only [aV, b8];exact ⟨⟨_, _, _, rfl⟩, .inr ⟨e, ei.size, _, 0, aI _ _ _, by simp, fun _ => ⟨by simp, .inr ⟨w.heap.size, 0, m, aI _ _ _, by simp⟩⟩⟩⟩
end
end Go.AM
namespace Go.Proofs.YtmoekkcdkjopgaaGreatDoor
open Go Go.AM
set_option maxRecDepth 20000
set_option maxHeartbeats 4000000
def arrE (own : List Str) (k i : Nat) (cur : Str) : List Str := own.take i ++ cur :: List.replicate (k - i - 1) []
def aB7 (own : List Str) (k i : Nat) : List Str := own.take i ++ List.replicate (k - i) []
theorem a0l (own : List Str) (k : Nat) : aB7 own k 0 = List.replicate k [] := by unfold aB7; rw [take_zero, nil_append, sub_zero]
theorem a0o {own : List Str} {k i : Nat} (h : i < k) : aB7 own k i = arrE own k i [] := by
 unfold aB7 arrE;obtain ⟨d, hd⟩ : ∃ d, k - i = d + 1 := ⟨k - i - 1, by omega⟩
 rw [hd, List.replicate_succ]; rfl
theorem a0m {own : List Str} {k i : Nat} {o : Str} (h : own[i]? = some o) : arrE own k i o = aB7 own k (i + 1) := by
 unfold aB7 arrE;rw [take_add_one, h, append_assoc];show _ = own.take i ++ (o :: List.replicate (k - (i + 1)) []);rw [Nat.sub_sub]
theorem a0n {own : List Str} {k : Nat} (h : own.length = k) : aB7 own k k = own := by
 unfold aB7;rw [sub_self, List.replicate_zero, append_nil, ← h, take_length]
theorem aUe {own : List Str} {k i : Nat} (h : own.length = k) (hi : i < k) (x : Str) : (arrE own k i x).length = k := by
 unfold arrE;rw [length_append, length_take, length_cons, List.length_replicate]; omega
theorem aPi {own : List Str} {k i : Nat} (h : own.length = k) (hi : i ≤ k) : (aB7 own k i).length = k := by
 unfold aB7;rw [length_append, length_take, List.length_replicate]; omega
theorem aYe {own : List Str} {k i : Nat} (h : own.length = k) (hi : i < k) (x : Str) : (arrE own k i x)[i]? = some x := by
 unfold arrE;have hl : (own.take i).length = i := by rw [length_take]; omega
 rw [List.getElem?_append_right (by omega), hl, sub_self]; rfl
theorem aUd {own : List Str} {k i : Nat} (h : own.length = k) (hi : i < k) (x y : Str) : (arrE own k i x).set i y = arrE own k i y := by
 unfold arrE;have hl : (own.take i).length = i := by rw [length_take]; omega
 rw [List.set_append_right _ _ (by omega), hl, sub_self, List.set_cons_zero]
def aMo (s : Str) (m0 m : Nat) : Str := if m = m0 then [] else otN s (m - 1)
theorem aRe (hI : eD 540000000000) {B : Nat} (c : Core) (names : List Str) (l : List Core) (hl : names.length = l.length) (hl2 : l.length ≤ 12) (ho : PO 400 650000 403 B c l) (hB2 : 2 ≤ B) (htb : ∀ b ∈ l, tyR b = []) (hnl : ∀ s ∈ names, s.length ≤ 380) (hc : m30 c ≤ 10000000000) (hsum : (l.map m30).sum ≤ 10000000000) :
  aY Tryz.prog 178 [.pa (aA c), bN names, .one (.c (.sl 10 (l.map aA)))] [] (.pa (aA (aDx c names l))) [] ∧ PR 403 B c l (aDx c names l) := by
 have hBig : Big = 250000000000 := rfl;have hcs := cO c;have hpfc := j0 c;have hfl : ∀ i, ((l.take i).flatMap pfR).length ≤ 10000000000 := fun i => le_trans (aA6 i) hsum
 have hfr := aO0 c (by omega);have hkL : (l.map aA).length = l.length := length_map _;have hkN : (names.map bG).length = names.length := length_map _;have hTK : pfR c ++ names ++ (l.take l.length).flatMap pfR = eU c names l := by rw [take_length]; rfl
 have htkl : (eU c names l).length ≤ 20000000012 := by rw [← hTK, length_append, length_append]; have := hfl l.length; omega
 have hnt : ∀ x ∈ names, x ∈ eU c names l := fun x hx => mem_append.2 (.inl (mem_append.2 (.inr hx)))
 have htk : ∀ b ∈ l, ∀ x ∈ pfR b, x ∈ eU c names l := fun b hb x hx => mem_append.2 (.inr (mem_flatMap.2 ⟨b, hb, hx⟩))
 have hot0 := aSv (eU c names l) names;have hK : names.length * ((eU c names l).length + 1) ≤ 12 * 20000000013 := mul_le_mul (by omega) (by omega);have hat : ∀ i s, names[i]? = some s → (aBa (eU c names l) names 0)[i]? = some (otN s (jL (eU c names l) s (rN (eU c names l) names 0 i))) ∧ rN (eU c names l) names 0 (i + 1) = jL (eU c names l) s (rN (eU c names l) names 0 i) + 1 := fun i s h => vH _ names 0 i s h
 have hNle : ∀ i, i ≤ names.length → rN (eU c names l) names 0 i ≤ 12 * 20000000013 := fun i hi => by
  have h1 := aA9 (eU c names l) names 0 i;have h2 : i * ((eU c names l).length + 1) ≤ 12 * 20000000013 := mul_le_mul (by omega) (by omega);omega
 have hN0 : rN (eU c names l) names 0 0 = 0 := by rw [rN]
 have hnx : ∀ s m, m ≤ jL (eU c names l) s m ∧ ¬ otN s (jL (eU c names l) s m) ∈ eU c names l ∧ ∀ k, m ≤ k → k < jL (eU c names l) s m → otN s k ∈ eU c names l := fun s m => ⟨(gS _ s m).1, (gS _ s m).2.2.1, (gS _ s m).2.2.2⟩
 have hputE : aDx c names l = qP (jI c (names.zip (aBa (eU c names l) names 0))) ((aBa (eU c names l) names 0).zip l) := rfl;rw [hputE];generalize aBa (eU c names l) names 0 = own at *;generalize rN (eU c names l) names 0 = cnt at *;generalize jL (eU c names l) = nx at *;generalize hTKe : eU c names l = TK at *;have hot : OtO TK names own 500000000000 := ⟨hot0.len, fun i s o h1 h2 => by obtain ⟨n, hn, e⟩ := hot0.at_ i s o h1 h2; exact ⟨n, by omega, e⟩, hot0.out⟩
 have hownL := hot0.len;have hns : ∀ o ∈ own, ¬ o ∈ names := fun o ho' h => hot0.out o ho' (hnt o h)
 have hP1 := aNn (D := 400) (M := 650000) (X := 403) hI (by decide) (by decide) hB2 ho hot hns fun s hs => by have := hnl s hs; omega
 have hzn : (names.zip own).take names.length = names.zip own := by
  rw [take_of_length_le];rw [length_zip]; omega
 have hP1f := hP1 names.length (le_refl _);rw [hzn] at hP1f;have hP3 := aNm hI (by decide) (by decide) ho htk htb hot.out (by omega) (P3.zero ho hP1f);have hzl : (own.zip l).take l.length = own.zip l := by
  rw [take_of_length_le];rw [length_zip]; omega
 have hfin := hP3 l.length (le_refl _);rw [hzl] at hfin;refine ⟨?_, hfin.fin ho⟩;refine c8 (n := 89) tok Tryz.func178 rfl rfl rfl ?_;refine a8 (ag [] rfl ?_);refine a8 (aF mixed ?_);refine ak 1 [] rfl ?_;refine kc hfr ?_;refine ak 3 [] rfl ?_;refine az ?_;have hnl1 : names.length ≤ 12 := by omega
 refine a8 (a8 (ag [] rfl ?_));refine aC ?_;refine aJ (fun i : Nat => mk [(1, bN names), (2, .one (.c (.sl 10 (l.map aA)))), (3, .one (.vp 3 0)), (6, .one (.vp 6 0)), (7, ouV (pfR c ++ names ++ (l.take i).flatMap pfR)), (19, .one (.c (.sl 10 (l.map aA)))), (20, I .i64 ((l.map aA).length : Int)), (21, I .i64 i)] [(3, .var 37 (bF c)), (6, .var 37 bH), (500, ouO (pfR c ++ names ++ (l.take i).flatMap pfR))]) (fun i => i ≤ l.length) (fun i => l.length - i) 0 (zero_le _) ?_ ?_
 ·rw [take_zero, flatMap_nil, append_nil];exact sl (he := ⟨rfl, rfl, rfl, rfl, Go.AM.hs_ren (by simp) (by simp), rfl, rfl, rfl, trivial⟩) (hh := ⟨⟨_, rfl, .varS rfl⟩, ⟨_, rfl, .varS rfl⟩, ⟨_, rfl, .arrS (by simp)⟩, trivial⟩)
 intro i hi;refine a8 (ag [] rfl ?_);refine a8 (aB rfl (fun hb => ?_) (fun hb => ?_))
 ·have hlt := ltD hb hkL;obtain ⟨b, hbi⟩ := aL hlt;have hb' := cE aA hbi;have hbm := zq7 hbi;have hbs := cO b;have hcb : m30 b ≤ 10000000000 := le_trans (uK hbm) hsum;have hfb := oE (aR b) b (le_refl _) (by omega);have hst := y1 hbi;have h1 := hfl i;have h2 := j0 b;have hx0 : (pfR c ++ names ++ (l.take i).flatMap pfR).length ≤ 510000000000 := by rw [length_append, length_append]; omega
  generalize hG : (l.take i).flatMap pfR = G at hst hx0;generalize pfR b = F at hfb hst h2;have hkF : (F.map bG).length = F.length := length_map _;have hkx : ((pfR c ++ names ++ G).map bG).length = (pfR c ++ names ++ G).length := length_map _;refine aD ?_;refine a8 (aC (a8 (ag [(0, .row i (aA b))] rfl ?_)));refine aF mixed ?_;refine ak 2 [] rfl ?_;refine kc hfb ?_;refine ak 2 [] rfl ?_;refine az ?_;refine ag [] rfl ?_;refine ⟨i + 1, hlt, by dsimp only; omega, ?_⟩;dsimp only;rw [hst, ← append_assoc];exact sl (he := ⟨rfl, rfl, rfl, rfl, Go.AM.hs_ren (by simp; omega) (by simp; omega), rfl, rfl, rfl, trivial⟩) (hh := ⟨⟨_, rfl, .varS rfl⟩, ⟨_, rfl, .varS rfl⟩, ⟨_, rfl, .arrS (by simp)⟩, trivial⟩)
 have hge := geD hb hkL hi;subst hge;rw [hTK];refine aK ?_;refine AWp.sub (Sub.freeze (id := 500) rfl) ?_;have hz0 : List.replicate (names.map bG).length [C.str []] = (aB7 own names.length 0).map bG := by rw [a0l, List.map_replicate, hkN]; rfl
 refine a8 (aF mixed ?_);refine ak 2 [] rfl ?_;refine k_ (g_ rfl rfl (xT (m := (names.map bG).length) (c := .str []) (id := 720) tok rfl rfl (eQ rfl) (tg rfl) rfl (tg rfl) rfl rfl rfl rfl (by omega) (by rw [hkN]; show 16 * names.length ≤ _; omega) rfl)) ?_;refine ak 1 [] rfl ?_;refine az ?_;refine a8 (ag [] rfl ?_);refine a8 (a8 (ag [] rfl ?_));have hzl0 := aPi (i := 0) hownL (zero_le _);refine aC ?_;refine aJ (fun i : Nat => mk [(1, bN names), (2, .one (.c (.sl 10 (l.map aA)))), (3, .one (.vp 3 0)), (6, .one (.vp 6 0)), (7, ouV TK), (10, .one (.hs 720 0 (aB7 own names.length i).length (aB7 own names.length i).length)), (11, I .i64 (cnt i : Int)), (33, bN names), (34, I .i64 ((names.map bG).length : Int)), (35, I .i64 i)] [(3, .var 37 (bF (jI c ((names.zip own).take i)))), (6, .var 37 bH), (500, .arr 9 1 (TK.map bG) 2), (720, .arr 9 1 ((aB7 own names.length i).map bG) 0)]) (fun i => i ≤ names.length) (fun i => names.length - i) 0 (zero_le _) ?_ ?_
 ·rw [hN0];exact sl (he := ⟨rfl, rfl, rfl, rfl, rfl, Go.AM.hs_ren (by rw [hzl0, hkN]) (by rw [hzl0, hkN]), rfl, rfl, rfl, rfl, trivial⟩) (hh := ⟨⟨_, rfl, .varS rfl⟩, ⟨_, rfl, .varS rfl⟩, ⟨_, rfl, .arrS rfl⟩, ⟨_, rfl, .arrS hz0⟩, trivial⟩)
 intro i hi;refine a8 (ag [] rfl ?_);refine a8 (aB rfl (fun hb => ?_) (fun hb => ?_))
 ·have hlt := ltD hb hkN;obtain ⟨s, hs⟩ := aL hlt;have hs' := cE bG hs;have hsn := hnl s (zq7 hs);obtain ⟨ho1, hcn⟩ := hat i s hs;have hci := hNle i hi;have hci1 := hNle (i + 1) hlt;obtain ⟨n1, n2, n3⟩ := hnx s (cnt i);rw [hcn] at hci1;generalize nx s (cnt i) = N at *;generalize hm0 : cnt i = m0 at *;rw [a0o hlt];have hM : 600000000000 ≤ maxLen := by decide
  refine aD ?_;refine a8 (aC ?_);refine a8 (ag [(1, .row i (bG s))] rfl ?_);have hc0 : aMo s m0 m0 = [] := if_pos rfl;have hcu : ∀ m, m0 ≤ m → aMo s m0 (m + 1) = otN s m := fun m h => by unfold aMo; rw [if_neg (by omega), Nat.add_sub_cancel]
  refine a8 (aC ?_);refine aJ (fun m : Nat => mk [(1, bN names), (2, .one (.c (.sl 10 (l.map aA)))), (3, .one (.vp 3 0)), (6, .one (.vp 6 0)), (7, ouV TK), (10, .one (.hs 720 0 (arrE own names.length i (aMo s m0 m)).length (arrE own names.length i (aMo s m0 m)).length)), (11, I .i64 (m : Int)), (12, I .i64 i), (13, Go.AM.T s), (33, bN names), (34, I .i64 ((names.map bG).length : Int)), (35, I .i64 i)] [(3, .var 37 (bF (jI c ((names.zip own).take i)))), (6, .var 37 bH), (500, .arr 9 1 (TK.map bG) 2), (720, .arr 9 1 ((arrE own names.length i (aMo s m0 m)).map bG) 0)]) (fun m => m0 ≤ m ∧ m ≤ N + 1) (fun m => N + 1 - m) m0 ⟨le_refl _, by omega⟩ (by rw [hc0]; exact sl) ?_;intro m ⟨hm1, hm2⟩;have hal := aUe hownL hlt (aMo s m0 m);have aMm := cE bG (aYe hownL hlt (aMo s m0 m));have hset := aUd hownL hlt (aMo s m0 m);generalize hcur : aMo s m0 m = cur at *;generalize hL : arrE own names.length i cur = L at *;have hkA : (L.map bG).length = L.length := length_map _;have hitm := hI m (by omega);have hdl := aBs m (by omega);refine a8 (a8 (AWp.cut (mk [(1, bN names), (2, .one (.c (.sl 10 (l.map aA)))), (3, .one (.vp 3 0)), (6, .one (.vp 6 0)), (7, ouV TK), (10, .one (.hs 720 0 L.length L.length)), (11, I .i64 (m : Int)), (12, I .i64 i), (13, Go.AM.T s), (33, bN names), (34, I .i64 ((names.map bG).length : Int)), (35, I .i64 i), (52, Go.AM.B (decide (m ≤ N)))] [(3, .var 37 (bF (jI c ((names.zip own).take i)))), (6, .var 37 bH), (500, .arr 9 1 (TK.map bG) 2), (720, .arr 9 1 (L.map bG) 0)]) ?_ ?_))
  ·by_cases hme : m = m0
   ·have hcn0 : cur = [] := by rw [← hcur, hme, hc0]
    have e : decide (m ≤ N) = true := decide_eq_true (by omega);rw [e];subst hcn0;refine ag [(3, .row i (bG [])), (5, .bv true), (12, .bv true)] rfl ?_;exact sl
   ·obtain ⟨m', rfl⟩ : ∃ m', m = m' + 1 := ⟨m - 1, by omega⟩
    have hcm : cur = otN s m' := by rw [← hcur]; exact hcu m' (by omega)
    have hne : decide (cur = []) = false := decide_eq_false (by rw [hcm]; unfold otN; simp);have hct := bU TK cur (by omega);have e : decide (m' + 1 ≤ N) = decide (cur ∈ TK) := by
     rw [hcm];by_cases h : m' + 1 ≤ N
     ·rw [decide_eq_true h, decide_eq_true (n3 m' (by omega) (by omega))]
     ·have : m' = N := by omega
      rw [decide_eq_false h, this, decide_eq_false n2]
    rw [e];refine aF mixed ?_;refine ak 11 [(3, .row i (bG cur)), (5, .bv false), (10, .row i (bG cur))] rfl ?_;refine kcG hct ?_;refine ak 1 [(5, .bv false), (12, .bv false)] rfl ?_;refine az ?_;exact sl
  refine aB rfl (fun hb => ?_) (fun hb => ?_)
  ·have hmN : m ≤ N := zq0 hb;refine aD ?_;refine aC ?_;refine a8 (aF mixed ?_);refine ak 5 [] rfl ?_ (hc := by repeat (first | exact trivial | refine ⟨by first | rfl | omega | (simp; omega), ?_⟩));refine kc hitm ?_;refine ak 3 [(8, .row i (bG cur))] rfl ?_ (hc := by repeat (first | exact trivial | refine ⟨by first | rfl | omega | (simp; omega), ?_⟩));refine az ?_;refine ag [] rfl ?_;have hce := hcu m hm1;refine ⟨m + 1, ⟨by omega, by omega⟩, by dsimp only; omega, ?_⟩;dsimp only;rw [hce, ← hset (otN s m)];exact sl
  ·have hmN : m = N + 1 := by have := zq1 hb; omega
   subst hmN;have hce := hcu N n1;rw [hcur] at hce;have hce2 : own[i]? = some cur := by rw [hce]; exact ho1
   have hL2 : L = aB7 own names.length (i + 1) := by rw [← hL]; exact a0m hce2
   have hz : 1 + w30 cur ≤ 403 ∧ 1 + w30 cur ≤ Big := by
    have h1 := aJd (s := s) (n := N) (by omega);rw [← hce] at h1;unfold w30;omega
   have hcg := (hP1 i (by omega)).cg ho;have hS := (tJ hI (by decide) (by decide) (m30 (jI c ((names.zip own).take i))) (jI c ((names.zip own).take i)) (le_refl _) hcg s (vC cur) (aXi hz.1 hz.2)).imp;have hst : jI c ((names.zip own).take (i + 1)) = dB (m30 (jI c ((names.zip own).take i))) (jI c ((names.zip own).take i)) s (vC cur) := by
    unfold jI;rw [nB _ _ hs hce2]
   refine aK ?_;refine aF mixed ?_;refine ak 6 [(5, .row i (bG cur))] rfl ?_;refine kc (wJ cur) ?_;refine kc hS ?_;refine ak 1 [] rfl ?_;refine az ?_;refine ag [] rfl ?_;refine ⟨i + 1, hlt, by dsimp only; omega, ?_⟩;dsimp only;rw [hcn, hst, ← hL2];exact sl
 have hge := geD hb hkN hi;subst hge;rw [hzn, a0n hownL];refine aK ?_;refine AWp.sub (Sub.freeze (id := 720) rfl) ?_;refine a8 (a8 (ag [] rfl ?_));refine aC ?_;refine aJ (fun i : Nat => mk [(2, .one (.c (.sl 10 (l.map aA)))), (3, .one (.vp 3 0)), (6, .one (.vp 6 0)), (10, .one (.hs 720 0 own.length own.length)), (73, I .i64 ((names.map bG).length : Int)), (74, I .i64 i)] [(3, .var 37 (bF (qP (jI c (names.zip own)) ((own.zip l).take i)))), (6, .var 37 bH), (720, .arr 9 1 (own.map bG) 2)]) (fun i => i ≤ names.length) (fun i => names.length - i) 0 (zero_le _) sl ?_;intro i hi;refine a8 (ag [] rfl ?_);refine a8 (aB rfl (fun hb => ?_) (fun hb => ?_))
 ·have hlt := ltD hb hkN;obtain ⟨s, hs⟩ := aL (show i < own.length by omega);obtain ⟨b, hbi⟩ := aL (show i < l.length by omega);have hs' := cE bG hs;have hb' := cE aA hbi;have hkO : (own.map bG).length = own.length := length_map _;have hS := (P3.step hI (by decide) (by decide) ho htk htb hot.out (hP3 i (by omega)) (zq7 hs) hbi).1.imp;have hst : qP (jI c (names.zip own)) ((own.zip l).take (i + 1)) = dB (m30 (qP (jI c (names.zip own)) ((own.zip l).take i))) (qP (jI c (names.zip own)) ((own.zip l).take i)) s b := by
   generalize jI c (names.zip own) = c1;unfold qP;rw [nB _ _ hs hbi]
  refine aD ?_;refine a8 (aC ?_);refine a8 (ag [] rfl ?_);refine aF mixed ?_;refine ak 9 [(4, .row i (bG s)), (7, .row i (aA b))] rfl ?_;refine kc hS ?_;refine ak 1 [] rfl ?_;refine az ?_;refine ag [] rfl ?_;refine ⟨i + 1, hlt, by dsimp only; omega, ?_⟩;dsimp only;rw [hst];exact sl
 have hge := geD hb hkN hi;subst hge;have hzo : (own.zip l).take names.length = own.zip l := by
  rw [take_of_length_le];rw [length_zip]; omega
 rw [hzo];refine aK ?_;refine a8 (ag [] rfl ?_);exact aE (rtC trw)
noncomputable def lO (bd : List Bind) : Nat → Core → CE
 | 0, _ => (zC, 51)
 | k + 1, .mk f i s t ks bs al =>
  if f = 1 then (match bd.find? fun b => decide (b.name = s) with | some b => (b.body, 0) | none => (zC, 51))
  else if f = 4 then
   (if (ks.headD zC).form = 5 then (dB (m30 ((ks.headD zC).kids.headD zC)) ((ks.headD zC).kids.headD zC) (ks.headD zC).name (ks.getD 1 zC), 0)
   else if ¬ shE (ks.headD zC) = true then sZ false (lO bd k (ks.headD zC)) (s6 (.mk f i s t ks bs al) 0)
   else (zC, 51))
  else if f = 8 then (aDx (ks.headD zC) (bs.map Bind.name) (bs.map (kO bs)), 0)
  else if f = 9 then
   (if ¬ shE (ks.headD zC) = true then sZ false (lO bd k (ks.headD zC)) (s6 (.mk f i s t ks bs al) 0)
   else (match al.findSome? fun a => tkE aDx a (ks.headD zC) with | some r => (r, 0) | none => (zC, 52)))
  else if f = 10 then
   (if ¬ shE (ks.headD zC) = true then sZ false (lO bd k (ks.headD zC)) (s6 (.mk f i s t ks bs al) 0)
   else if ¬ shE (ks.getD 1 zC) = true then sZ false (lO bd k (ks.getD 1 zC)) (s6 (.mk f i s t ks bs al) 1)
   else if (ks.headD zC).form = 3 ∧ (ks.getD 1 zC).form = 3 then jJ s (ks.headD zC).n (ks.getD 1 zC).n
   else (zC, 51))
  else if f = 11 then (zC, 52)
  else (zC, 51)
theorem aZe {n : Nat} {U : List Str} : ∀ (k : Nat) (c : Core), m30 c ≤ k → ST n U c → (∀ x ∈ spA c, ST n U x) ∧ ((spA c).map m30).sum ≤ m30 c := by
 intro k
 induction k with
 | zero => intro c h; have := eT c; omega
 | succ k ih =>
 intro c h hc;obtain ⟨f, i, nm, t, ks, bs, al⟩ := c;by_cases h4 : f = 4
 ·obtain ⟨⟨a, b, rfl⟩, rfl, rfl⟩ := aFi hc.q (.inl h4);have ha := hc.kid (by omega) (x := a) zq2;have hb := hc.kid (by omega) (x := b) (zq3 _ zq2);have e : spA (.mk f i nm t [a, b] [] []) = spA a ++ [b] := by rw [spA, if_pos h4, aVs]
  rw [e];rw [m30, cS, cS, cS] at h ⊢;obtain ⟨g1, g2⟩ := ih a (by omega) ha;refine ⟨fun x hx => ?_, ?_⟩
  ·rcases mem_append.1 hx with hx | hx
   ·exact g1 x hx
   ·rw [mem_singleton.1 hx]; exact hb
  ·rw [map_append, List.sum_append];simp only [map_cons, map_nil, sum_cons, sum_nil];omega
 ·have e : spA (.mk f i nm t ks bs al) = [] := by rw [spA, if_neg h4]
  rw [e];exact ⟨by simp, by simp⟩
theorem aZw {s : Str} {bh : List (Str × Ty)} {ah : List (Str × List Str)} (h : lw s bh ah ≤ 403) {p : Str × Ty} (hp : p ∈ bh) : p.1.length ≤ 380 := by
 unfold lw at h;have h1 := mU (g := fun p : Str × Ty => 1 + w30 p.1) hp;have h2 := gU s;have h3 : p.1.length ≤ w30 p.1 := le_max_right _ _;omega
theorem aZx {s : Str} {bh : List (Str × Ty)} {ah : List (Str × List Str)} (h : lw s bh ah ≤ 403) {p : Str × List Str} (hp : p ∈ ah) {v : Str} (hv : v ∈ p.2) : v.length ≤ 380 := by
 unfold lw at h;have h1 := mU (g := fun p : Str × List Str => 1 + w30 p.1 + (p.2.map fun v => 1 + w30 v).sum) hp;have h2 := mU (g := fun v : Str => 1 + w30 v) hv;have h3 := gU s;have h4 : v.length ≤ w30 v := le_max_right _ _;omega
theorem aPv {c : Core} (h : ∀ x ∈ tyR c, x ∈ ([] : List Str)) : tyR c = [] := List.eq_nil_iff_forall_not_mem.2 fun x hx => not_mem_nil (h x hx)
theorem aXp (hI : eD 540000000000) {n : Nat} (hn : n ≤ 99) {bd : List Bind} (hB : BI [] bd) : ∀ (k : Nat) (c : Core), m30 c ≤ k → ST n [] c →
  aY Tryz.prog 78 [.pa (kS bd), .pa (aA c)] [] (jD (lO bd k c)) [] ∧ ((lO bd k c).2 = 0 → SR (n + 1) [] (m30 c) (lO bd k c).1) := by
 intro k
 induction k with
 | zero => intro c h; have := eT c; omega
 | succ k ih =>
 intro c h hc;have hU : ([] : List Str).length ≤ 480000 := by decide
 obtain ⟨f, i, s, t, ks, bs, al⟩ := c;have hsz := hc.sz;have hsh : ∀ x, ST n [] x → aY Tryz.prog 77 [.pa (aA x)] [] (B (shE x)) [] := fun x hx => aEz 403 x hx.q (by have := cO x; have := hx.sz; omega)
 have hlt : ∀ x ∈ ks, m30 x ≤ k := fun x hx => by have := iK hx; rw [m30] at h; omega
 have hkid : ∀ (j : Nat) (x : Core), ¬ f = 7 → ks[j]? = some x → (sZ false (lO bd k x) (s6 (.mk f i s t ks bs al) j)).2 = 0 → SR (n + 1) [] (m30 (.mk f i s t ks bs al)) (sZ false (lO bd k x) (s6 (.mk f i s t ks bs al) j)).1 := fun j x h7 hx he => by
  obtain ⟨_, e2, e3⟩ := aN9 he;rw [e3];have hxm := zq7 hx;exact aYj h7 hc hx ((ih x (hlt x hxm) (hc.kid h7 hxm)).2 e2)
 rw [lO];by_cases h1 : f = 1
 ·rw [if_pos h1];subst h1;refine ⟨a1k (by have := hB.len; omega), fun he => ?_⟩;cases hf : bd.find? fun b => decide (b.name = s) with
  | none => rw [hf] at he; cases he
  | some b => exact ((hB.all b (List.mem_of_find?_eq_some hf)).mono (zero_le _)).sr
 rw [if_neg h1];by_cases h4 : f = 4
 ·rw [if_pos h4];subst h4;obtain ⟨⟨a, b, rfl⟩, rfl, rfl⟩ := aFi hc.q (.inl rfl);have ka := hc.kid (by decide) (x := a) zq2;have kb := hc.kid (by decide) (x := b) (zq3 _ zq2);have e0 : ([a, b] : List Core).headD zC = a := rfl;have e1 : ([a, b] : List Core).getD 1 zC = b := rfl;rw [e0, e1];by_cases h5 : a.form = 5
  ·rw [if_pos h5];obtain ⟨f', i', s', t', ks', bs', al'⟩ := a;have h5 : f' = 5 := h5;subst h5;obtain ⟨⟨body, rfl⟩, rfl, rfl⟩ := iR ka.q (.inl rfl);have g := aYk hI hn hU (nm := s') (s := m30 (.mk 4 i s t [.mk 5 i' s' t' [body] [] [], b] [] [])) (ka.kid (by decide) (x := body) zq2) kb (by rw [m30, cS, cS, cS, m30, cS, cS]; omega);exact ⟨a0g g.1.imp, fun _ => g.2⟩
  ·rw [if_neg h5];refine ⟨a0h h5 (hsh a ka) fun _ => (ih a (hlt a zq2) ka).1, fun he => ?_⟩;by_cases hs : ¬ shE a = true
   ·rw [if_pos hs] at he ⊢;exact hkid 0 a (by decide) rfl he
   ·rw [if_neg hs] at he; cases he
 rw [if_neg h4];by_cases h8 : f = 8
 ·rw [if_pos h8];subst h8;obtain ⟨⟨a, rfl⟩, rfl, h12⟩ := aRx hc.q;obtain ⟨g1, g2⟩ := aYi hn hU hc;have hm := hsz;rw [m30, cS, cS] at hm;have hlb : ∀ b ∈ bs.map (kO bs), tyR b = [] ∧ m30 b ≤ 10000000 := fun b hb => by
   obtain ⟨b0, hb0, rfl⟩ := mem_map.1 hb;have g := aJz hc hb0;exact ⟨aPv g.2.1.2.1, g.2.2.2⟩
  have hsum := k9 (g := m30) (K := 10000000) (l := bs.map (kO bs)) fun b hb => (hlb b hb).2
  have hle : (bs.map (kO bs)).length * 10000000 ≤ 12 * 10000000 := mul_le_mul_right _ (by rw [length_map]; omega)
  have hput := aRe hI a (bs.map Bind.name) (bs.map (kO bs)) (by rw [length_map, length_map]) (by rw [length_map]; omega) g1 (by omega) (fun b hb => (hlb b hb).1) (fun x hx => by
   obtain ⟨b, hb, rfl⟩ := mem_map.1 hx;obtain ⟨⟨_, _, _, _, g5, _⟩, _⟩ := bC.1 hc.q
   exact aZw g5 (p := bhd b) (mem_map.2 ⟨b, hb, rfl⟩)) (by omega) (by omega)
  exact ⟨a1j h12 hput.1, fun _ => g2 _ hput.2⟩
 rw [if_neg h8];by_cases h9 : f = 9
 ·rw [if_pos h9];subst h9;obtain ⟨⟨a, rfl⟩, rfl, h12, hv⟩ := aUj hc.q;have ka := hc.kid (by decide) (x := a) zq2;have e0 : ([a] : List Core).headD zC = a := rfl;rw [e0];have hcsa : aR a ≤ 570000000000 := by have := cO a; have := ka.sz; omega
  obtain ⟨p1, p2⟩ := aZe _ a (le_refl _) ka;have hput : ∀ x ∈ al, tkC x a = true → aY Tryz.prog 178 [.pa (aA x.body), bN x.vars, .one (.c (.sl 10 ((spA a).map aA)))] [] (.pa (aA (aDx x.body x.vars (spA a)))) [] ∧ SR (n + 1) [] (m30 (.mk 9 i s t [a] [] al)) (aDx x.body x.vars (spA a)) := fun x hx hk => by
   have kx := hc.alt hx;have hm' := gD hx;have hvl : (spA a).length = x.vars.length := by
    unfold tkC at hk;simp only [Bool.and_eq_true, decide_eq_true_eq] at hk;exact hk.2.2.2
   have hm := hsz;rw [m30, cS, cS] at hm;obtain ⟨g1, g2⟩ := aPo hn hU (s := m30 (.mk 9 i s t [a] [] al)) (by rw [m30, cS, cS]; omega) hsz kx (hv x hx) p1 p2 hvl;have hpos := eT a
   have hput := aRe hI x.body x.vars (spA a) hvl.symm (by have := hv x hx; omega) g1 (by omega) (fun b hb => aPv (p1 b hb).ty) (fun v hv' => by
    obtain ⟨⟨_, _, _, _, g5, _⟩, _⟩ := bC.1 hc.q
    exact aZx g5 (p := ahd x) (mem_map.2 ⟨x, hx, rfl⟩) hv') (by omega) (by omega)
   exact ⟨hput.1, g2 _ hput.2⟩
  have htk := aTr aDx 403 al a ka.q hcsa h12 fun x hx hk => (hput x hx hk).1
  refine ⟨a1i (hsh a ka) (fun _ => (ih a (hlt a zq2) ka).1) fun _ => htk, fun he => ?_⟩;by_cases hs : ¬ shE a = true
  ·rw [if_pos hs] at he ⊢;exact hkid 0 a (by decide) rfl he
  ·rw [if_neg hs] at he ⊢;cases hfs : al.findSome? fun x => tkE aDx x a with
   | none => rw [hfs] at he; cases he
   | some r =>
    obtain ⟨x, hx, hxr⟩ := List.exists_of_findSome?_eq_some hfs;have kx := hc.alt hx;show SR (n + 1) [] _ r;unfold tkE at hxr;by_cases e1 : tkS x a = true
    ·rw [if_pos e1] at hxr;cases hxr;have hm' := gD hx;exact (kx.mono (Nat.le_succ _)).sr
    rw [if_neg e1] at hxr;by_cases e2 : tkC x a = true
    ·rw [if_pos e2] at hxr;cases hxr;exact (hput x hx e2).2
    ·rw [if_neg e2] at hxr; cases hxr
 rw [if_neg h9];by_cases h10 : f = 10
 ·rw [if_pos h10];subst h10;obtain ⟨⟨a, b, rfl⟩, rfl, rfl⟩ := aFi hc.q (.inr rfl);have ka := hc.kid (by decide) (x := a) zq2;have kb := hc.kid (by decide) (x := b) (zq3 _ zq2);have e0 : ([a, b] : List Core).headD zC = a := rfl;have e1 : ([a, b] : List Core).getD 1 zC = b := rfl;rw [e0, e1];refine ⟨a0i (hsh a ka) (hsh b kb) (fun _ => (ih a (hlt a zq2) ka).1) fun _ => (ih b (hlt b (zq3 _ zq2)) kb).1, fun he => ?_⟩;by_cases g1 : ¬ shE a = true
  ·rw [if_pos g1] at he ⊢; exact hkid 0 a (by decide) rfl he
  rw [if_neg g1] at he ⊢;by_cases g2 : ¬ shE b = true
  ·rw [if_pos g2] at he ⊢; exact hkid 1 b (by decide) rfl he
  rw [if_neg g2] at he ⊢;by_cases g3 : a.form = 3 ∧ b.form = 3
  ·rw [if_pos g3] at he ⊢; exact aUh he
  ·rw [if_neg g3] at he; cases he
 rw [if_neg h10];refine ⟨a1h h1 h4 h8 h9 h10, fun he => ?_⟩;by_cases h11 : f = 11
 ·rw [if_pos h11] at he; cases he
 ·rw [if_neg h11] at he; cases he
theorem aR8 {X : Nat} (j : Nat) : ∀ (c : Core) (s : Str) (b : Core), cI (QL X) c → ¬ s ∈ pfR c → dB (j + 1) c s b = c
 | .mk f n nm t ks bs al, s, b, hw, hs => by
  rw [dB, if_neg (fun h : (Core.mk f n nm t ks bs al).form = 7 ∧ s ∈ pfR (Core.mk f n nm t ks bs al) => hs h.2)];by_cases h1 : f = 1
  ·obtain ⟨rfl, rfl, rfl⟩ := u6 hw h1;have hne : ¬ nm = s := fun h => hs (by rw [pfR, if_pos h1, h]; exact zq2)
   rw [if_neg (fun h : (Core.mk f n nm t [] [] []).form = 1 ∧ (Core.mk f n nm t [] [] []).name = s => hne h.2), oZ];unfold zNm zKs zBs;rw [if_neg (show ¬ f = 5 by omega)];have e1 : cK (dB j) s b (gvN f nm []) ([] ++ ([] : List Bind).map Bind.body) = (gvN f nm [], []) := by
    unfold cK;rw [if_neg]
    ·rfl
    ·exact fun h => by cases h.1
   rw [e1];rfl
  ·rw [if_neg (fun h : (Core.mk f n nm t ks bs al).form = 1 ∧ _ => h1 h.1), oZ];unfold zNm zKs zBs;have e1 : cK (dB j) s b (gvN f nm bs) (ks ++ bs.map Bind.body) = (gvN f nm bs, ks ++ bs.map Bind.body) := by
    unfold cK;rw [if_neg];exact fun h => hs (aSt h1 h.1 h.2)
   rw [e1];have e2 : al.map (j1 (dB j) s b) = al := by
    conv => rhs; rw [← List.map_id al]
    refine map_congr_left fun a ha => ?_
    have e3 : cK (dB j) s b a.vars [a.body] = (a.vars, [a.body]) := by
     unfold cK;rw [if_neg];exact fun h => hs (aWj h1 ha (by simpa using h.1) h.2)
    unfold j1;rw [e3];cases a;rfl
   rw [e2];dsimp only;rw [take_left, drop_left];by_cases h5 : f = 5
   ·obtain ⟨_, rfl, rfl⟩ := iR hw (.inl h5);rw [if_pos h5];have : (gvN f nm []).headD nm = nm := by unfold gvN; rw [if_pos h5]; rfl
    rw [this]; rfl
   ·rw [if_neg h5];have : gvN f nm bs = bs.map Bind.name := by unfold gvN; rw [if_neg h5, nil_append]
    rw [this, aJl]
theorem vP (c : Core) : ∃ k, m30 c = k + 1 := ⟨m30 c - 1, by have := eT c; omega⟩
theorem uL {X : Nat} {c : Core} {s : Str} {b : Core} (h : cI (QL X) c) (hs : ¬ s ∈ pfR c) : dB (m30 c) c s b = c := by
 obtain ⟨k, hk⟩ := vP c;rw [hk];exact aR8 k c s b h hs
theorem aSr {X : Nat} {c : Core} {s : Str} {b : Core} (h : cI (QL X) c) (hs : ¬ s ∈ pfR c) : aDx c [s] [b] = c := by
 unfold aDx;rw [aBa, aBa];have hno : ¬ otN s (jL (eU c [s] [b]) s 0) ∈ pfR c := fun hx => (gS (eU c [s] [b]) s 0).2.2.1 (mem_append.2 (.inl (mem_append.2 (.inl hx))))
 generalize otN s (jL (eU c [s] [b]) s 0) = o at hno;show qP (dB (m30 c) c s (vC o)) [(o, b)] = c;rw [uL h hs];show dB (m30 c) c o b = c;exact uL h hno
def laE (r : Core × Nat × Int) : Core × Nat × Int := (r.1, if r.2.2 = 0 then r.2.1 + 1 else r.2.1, r.2.2)
theorem wZ (sf : Core → CE) : ∀ (k n : Nat) (c : Core), whE sf k (n + 1) c = laE (whE sf k n c)
 | 0, n, c => by
  rw [whE, whE];split <;> rfl
 | k + 1, n, c => by
  rw [whE, whE];by_cases h1 : shE c = true
  ·rw [if_pos h1, if_pos h1]; rfl
  ·rw [if_neg h1, if_neg h1];by_cases h2 : (sf c).2 = 0
   ·rw [if_pos h2, if_pos h2];by_cases h3 : 6000 < fM (sf c).1
    ·rw [if_pos h3, if_pos h3]; rfl
    ·rw [if_neg h3, if_neg h3];exact wZ sf k (n + 1) _
   ·rw [if_neg h2, if_neg h2];unfold laE;dsimp only;rw [if_neg h2]
theorem uB (sf : Core → CE) {k : Nat} {x c : Core} (h1 : shE x = false) (h2 : sf x = (c, 0)) (h3 : fM c ≤ 6000) : whE sf (k + 1) 0 x = laE (whE sf k 0 c) := by
 rw [whE, if_neg (by rw [h1]; exact Bool.false_ne_true), h2, if_pos rfl, if_neg (Nat.not_lt.2 h3), ← wZ]
theorem aUz (sf : Core → CE) : ∀ (k n : Nat) (c : Core), (whE sf k n c).2.1 ≤ n + k
 | 0, n, c => by
  rw [whE];split
  ·exact le_refl _
  ·exact zero_le _
 | k + 1, n, c => by
  rw [whE];split
  ·exact Nat.le_add_right _ _
  split
  ·split
   ·exact zero_le _
   ·have := aUz sf k (n + 1) (sf c).1;omega
  ·exact zero_le _
def sN : Str := [110, 101, 119, 39]
def aMl (c d : Core) : Core := .mk 8 0 [] zTy [c] [.mk sN zTy d] []
def aN8 (c d : Core) : Core := .mk 4 0 [] zTy [.mk 5 0 sN zTy [c] [] [], d] [] []
def vU (c : Core) : Core := .mk 9 0 [] zTy [aAd 3] [] [.mk 3 0 [] [] c]
noncomputable def sfE (bd : List Bind) (c : Core) : CE := lO bd (m30 c) c
theorem aN6 {X : Nat} (bd : List Bind) {c : Core} (d : Core) (h : cI (QL X) c) (hs : ¬ sN ∈ pfR c) : sfE bd (aMl c d) = (c, 0) := by
 unfold sfE;obtain ⟨k, hk⟩ := vP (aMl c d);rw [hk];unfold aMl;rw [lO, if_neg (by decide), if_neg (by decide), if_pos rfl];show (aDx c [sN] [kO [.mk sN zTy d] (.mk sN zTy d)], 0) = (c, (0 : Int));rw [aSr h hs]
theorem aN7 {X : Nat} (bd : List Bind) {c : Core} (d : Core) (h : cI (QL X) c) (hs : ¬ sN ∈ pfR c) : sfE bd (aN8 c d) = (c, 0) := by
 unfold sfE;obtain ⟨k, hk⟩ := vP (aN8 c d);rw [hk];unfold aN8;rw [lO, if_neg (by decide), if_pos rfl];show ((if (5 : Int) = 5 then (dB (m30 c) c sN d, 0) else _) : CE) = (c, (0 : Int));rw [if_pos rfl, uL h hs]
theorem aJw (bd : List Bind) (c : Core) : sfE bd (vU c) = (c, 0) := by
 unfold sfE;obtain ⟨k, hk⟩ := vP (vU c);rw [hk];unfold vU;rw [lO, if_neg (by decide), if_neg (by decide), if_neg (by decide), if_pos rfl];have e : ([aAd 3] : List Core).headD zC = aAd 3 := rfl;rw [e, if_neg (by decide)];rfl
theorem aWt (c d : Core) : shE (aMl c d) = false := rfl
theorem aWu (c d : Core) : shE (aN8 c d) = false := rfl
theorem aS6 (c : Core) : shE (vU c) = false := rfl
structure TM (V : List Str) (k : Nat) (t : Ty) : Prop where
 wf : wfS t = true
 w : ∀ E ρ, (∀ x, ρ x ≤ E) → tW j9 t ρ ≤ k + E
 v : ∀ x ∈ tfR t, x ∈ V
structure MW (V : List Str) (c : Core) : Prop where
 q : cI (QL 403) c
 w : ∀ E ρ, (∀ x, ρ x ≤ E) → cw j9 E c ρ ≤ 3 + E
 v : ∀ x ∈ tyR c, x ∈ V
section
variable {V : List Str} {k : Nat}
theorem TM.mono {k' : Nat} {t : Ty} (h : TM V k t) (hk : k ≤ k') : TM V k' t := ⟨h.wf, fun E ρ hρ => by have := h.w E ρ hρ; omega, h.v⟩
theorem TM.var {s : Str} (h : s ∈ V) : TM V k (.mk 2 0 s []) := ⟨rfl, fun E ρ hρ => by rw [tW, if_pos rfl]; have := hρ s; omega, fun x hx => by
 have : tfR (.mk 2 0 s []) = [s] := by rw [tfR, if_pos rfl]
 rw [this] at hx; rw [mem_singleton.1 hx]; exact h⟩
theorem TM.con {s : Str} : TM V k (.mk 3 0 s []) := ⟨rfl, fun E ρ hρ => by
 have : tW j9 (.mk 3 0 s []) ρ = 0 := by rw [tW, if_neg (by decide), if_neg (by decide), tWs]; rfl
 omega, fun x hx => by
 obtain ⟨u, hu, _⟩ := rY (by decide) hx
 cases hu⟩
theorem TM.z : TM V k zTy := ⟨rfl, fun E ρ hρ => by
 have : tW j9 zTy ρ = 0 := by unfold zTy; rw [tW, if_neg (by decide), if_neg (by decide), tWs]; rfl
 omega, fun x hx => by
 have : tfR zTy = [] := rfl
 rw [this] at hx; cases hx⟩
theorem TM.app {a b : Ty} (ha : TM V k a) (hb : TM V k b) : TM V k (.mk 4 0 [] [a, b]) := ⟨by rw [wfS, aAg, aAg, aAg, ha.wf, hb.wf]; rfl, fun E ρ hρ => by
 have h1 := ha.w E ρ hρ;have h2 := hb.w E ρ hρ;have : tW j9 (.mk 4 0 [] [a, b]) ρ = max (tW j9 a ρ) (max (tW j9 b ρ) 0) := by rw [tW, if_neg (by decide), if_neg (by decide), tWs, tWs, tWs]; rfl
 omega, fun x hx => by
 obtain ⟨u, hu, hy, _⟩ := rY (by decide) hx;have : u = a ∨ u = b := by simpa using hu
 rcases this with rfl | rfl
 ·exact ha.v x hy
 ·exact hb.v x hy⟩
theorem TM.all {s : Str} {a : Ty} (ha : TM V k a) : TM V (k + 1) (.mk 5 0 s [a]) := ⟨by rw [wfS, aAg, aAg, ha.wf]; rfl, fun E ρ hρ => by
 have h1 := ha.w E (fJ ρ s 0) fun x => by unfold fJ; split; exact zero_le _; exact hρ x
 have : tW j9 (.mk 5 0 s [a]) ρ = 1 + max (tW j9 a (fJ ρ s 0)) 0 := by rw [tW, if_neg (by decide), if_pos rfl, tWs, tWs]; rfl
 omega, fun x hx => by
 obtain ⟨u, hu, hx, _⟩ := rY (by decide) hx;rw [mem_singleton.1 hu] at hx
 exact ha.v x hx⟩
theorem jW {f n : Int} {s : Str} {t : Ty} {ks : List Core} {bs : List Bind} {al : List Alt} (hq : QL 403 f s t ks.length (bs.map bhd) (al.map ahd)) (ht : TM V 3 t) (hk : ∀ x ∈ ks, MW V x) (hb : ∀ b ∈ bs, TM V 3 b.ty ∧ MW V b.body) (ha : ∀ a ∈ al, MW V a.body) : MW V (.mk f n s t ks bs al) := by
 refine ⟨bC.2 ⟨hq, fun x hx => (hk x hx).q, fun x hx => (hb x hx).2.q, fun x hx => (ha x hx).q⟩, fun E ρ hρ => fW.2 ⟨by rw [dK]; omega, ht.w E ρ hρ, fun x hx => (hk x hx).w E _ fun y => ?_, fun x hx => ⟨(hb x hx).1.w E ρ hρ, (hb x hx).2.w E ρ hρ⟩, fun x hx => (ha x hx).w E ρ hρ⟩, fun x hx => ?_⟩
 ·split
  ·unfold fJ;split
   ·exact le_refl _
   ·exact hρ y
  ·exact hρ y
 ·rcases cD.1 hx with h | ⟨y, hy, h, _⟩ | ⟨y, hy, h | h⟩ | ⟨y, hy, h⟩
  ·exact ht.v x h
  ·exact (hk y hy).v x h
  ·exact (hb y hy).1.v x h
  ·exact (hb y hy).2.v x h
  ·exact (ha y hy).v x h
theorem aYp {s : Str} (h : s.length ≤ 30) : w30 s = 30 := by unfold w30; omega
theorem dF {f : Int} {s : Str} {t : Ty} {nk : Nat} (hf : okF f nk 0 0 = true) (h7 : f = 7 → t = zTy ∧ ¬ s = []) (ht : wfS t = true) (hs : s.length ≤ 30) (h5 : f = 5 → nh s) : QL 403 f s t nk [] [] :=
 ⟨hf, h7, ht, by simp, by unfold lw; rw [aYp hs]; decide, h5, by simp, by simp⟩
theorem ST.of {c : Core} (h : MW V c) (ht : tlC c ≤ 6000) (hs : m30 c ≤ 3500000) (n : Nat) : ST n V c :=
 ⟨h.q, fun E _ => h.w E r0 fun _ => zero_le _, h.v, ht, hs⟩
end
theorem uF : ∀ (f : Nat) (l : List Int), TM l5 f (cC f l).1
 | 0, l => by
  unfold cC;split
  ·exact .var (fA (by decide))
  ·exact .con
 | f + 1, l => by
  have h1 := uF f (aW l).2;have h2 := uF f (cC f (aW l).2).2;unfold cC;split
  ·exact .var (fA (by decide))
  split
  ·exact .con
  split
  ·exact (TM.app (TM.app .con h1) h2).mono (Nat.le_succ _)
  split
  ·exact (TM.app .con h1).mono (Nat.le_succ _)
  ·exact .all h1
theorem aSy : ∀ s ∈ nmL, nh s := by unfold nh; decide
theorem aNs : ∀ s ∈ nmL, s.length ≤ 30 := by decide
theorem aQ9 : ∀ s ∈ aK1, s.length ≤ 30 := by decide
theorem aSs : ∀ s ∈ xY, s.length ≤ 30 := by decide
theorem aVg : ∀ s ∈ l5, ¬ s = [] := by decide
theorem aVh : ∀ s ∈ l5, s.length ≤ 30 := by decide
theorem aF8 (n : Int) (i : Nat) : nameAt n i ∈ nmL := fA (by decide)
theorem mG (n : Int) : ∀ (i : Nat), ∀ s ∈ dH n i, s ∈ nmL
 | 0, s, h => by cases h
 | i + 1, s, h => by
  rw [dH] at h;unfold aUg at h;split at h
  ·exact mG n i s h
  ·rcases mem_append.1 h with h | h
   ·exact mG n i s h
   ·rw [mem_singleton.1 h]; exact aF8 _ _
theorem sO (l : List Int) : ∀ s ∈ (b6 l).1, s ∈ nmL := mG _ _
def MkM (g : List Int → Int → Mk) : Prop := ∀ l left, MW l5 (g l left).1
theorem zJ {g : List Int → Int → Mk} (h : MkM g) (ns : List Str) (hns : ∀ s ∈ ns, s ∈ nmL) (l : List Int) (left : Int) : ∀ i : Nat, i ≤ ns.length → (bL g ns l left i).1.length = i ∧ ∀ b ∈ (bL g ns l left i).1, b.name ∈ nmL ∧ TM l5 3 b.ty ∧ MW l5 b.body
 | 0, _ => ⟨rfl, fun b hb => by cases hb⟩
 | i + 1, hi => by
  obtain ⟨h0, h1⟩ := zJ h ns hns l left i (by omega);simp only [bL];generalize bL g ns l left i = r at h0 h1 ⊢;refine ⟨by rw [length_append, h0]; rfl, fun b hb => ?_⟩;rcases mem_append.1 hb with hb | hb
  ·exact h1 b hb
  ·rw [mem_singleton.1 hb];obtain ⟨s, hs⟩ := aL (show i < ns.length by omega);refine ⟨?_, (uF 2 _).mono (by omega), h _ _⟩;show ns[i]?.getD [] ∈ nmL;rw [hs]; exact hns s (zq7 hs)
theorem aFd {g : List Int → Int → Mk} (h : MkM g) (n : Int) (l : List Int) (left : Int) : ∀ i : Nat, (cH g n l left i).1.length = i ∧ ∀ b ∈ (cH g n l left i).1, b.name.length ≤ 30 ∧ (b.vars.length ≤ 3 ∧ ∀ v ∈ b.vars, v ∈ nmL) ∧ MW l5 b.body
 | 0 => ⟨rfl, fun b hb => by cases hb⟩
 | i + 1 => by
  obtain ⟨h0, h1⟩ := aFd h n l left i;simp only [cH];generalize cH g n l left i = r at h0 h1 ⊢;refine ⟨by rw [length_append, h0]; rfl, fun b hb => ?_⟩;rcases mem_append.1 hb with hb | hb
  ·exact h1 b hb
  ·rw [mem_singleton.1 hb];have hg := h (b6 r.2.1).2 r.2.2;split
   ·exact ⟨zero_le _, ⟨zero_le _, fun v hv => by cases hv⟩, hg⟩
   ·split
    ·exact ⟨zero_le _, ⟨zero_le _, fun v hv => by cases hv⟩, hg⟩
    ·exact ⟨aQ9 _ (fA (by decide)), ⟨gT _, sO _⟩, hg⟩
theorem aKx {g : List Int → Int → Mk} (h : MkM g) (n k : Int) (l : List Int) (left : Int) : MW l5 (dI g n k l left).1 := by
 have h1 := h l left;have h2 := h (g l left).2.1 (g l left).2.2;have h3 := h (cC 2 l).2 left;have ht : TM l5 3 (cC 2 l).1 := (uF 2 l).mono (by omega);have two : ∀ {x y : Core}, MW l5 x → MW l5 y → ∀ z ∈ [x, y], MW l5 z := fun hx hy z hz => by
  rcases mem_cons.1 hz with rfl | hz
  ·exact hx
  ·rw [mem_singleton.1 hz]; exact hy
 have one : ∀ {x : Core}, MW l5 x → ∀ z ∈ [x], MW l5 z := fun hx z hz => by rw [mem_singleton.1 hz]; exact hx
 have hnm : oneOf nmL (n / 14) ∈ nmL := fA (by decide);have htn : oneOf l5 (n / 14) ∈ l5 := fA (by decide);unfold dI;split
 ·exact jW (dF rfl (fun h => by cases h) rfl (aNs _ hnm) (fun h => by cases h)) .z (by simp) (by simp) (by simp)
 split
 ·exact jW (dF rfl (fun h => by cases h) rfl (aQ9 _ (fA (by decide))) (fun h => by cases h)) .z (by simp) (by simp) (by simp)
 split
 ·exact jW (dF rfl (fun h => by cases h) rfl (by decide) (fun h => by cases h)) .z (by simp) (by simp) (by simp)
 split
 ·exact jW (dF rfl (fun h => by cases h) rfl (by decide) (fun h => by cases h)) .z (two h1 h2) (by simp) (by simp)
 split
 ·exact jW (dF rfl (fun h => by cases h) ht.wf (aNs _ hnm) (fun _ => aSy _ hnm)) ht (one h3) (by simp) (by simp)
 split
 ·exact jW (dF rfl (fun h => by cases h) ht.wf (by decide) (fun h => by cases h)) ht (one h3) (by simp) (by simp)
 split
 ·exact jW (dF rfl (fun _ => ⟨rfl, aVg _ htn⟩) rfl (aVh _ htn) (fun h => by cases h)) .z (one h1) (by simp) (by simp)
 split
 ·obtain ⟨b0, b1⟩ := zJ h (b6 l).1 (sO l) (b6 l).2 left (b6 l).1.length (le_refl _);have h3' := gT l;generalize bL g (b6 l).1 (b6 l).2 left (b6 l).1.length = r at b0 b1 ⊢;refine jW ⟨rfl, fun h => (by cases h), rfl, fun p hp => ?_, ?_, fun h => (by cases h), fun p hp => ?_, by simp⟩ .z (one (h _ _)) (fun b hb => (b1 b hb).2) (by simp)
  ·obtain ⟨b, hb, rfl⟩ := mem_map.1 hp;exact (b1 b hb).2.1.wf
  ·unfold lw;have h4 := k9 (g := fun p : Str × Ty => 1 + w30 p.1) (K := 31) (l := r.1.map bhd) fun p hp => by
    obtain ⟨b, hb, rfl⟩ := mem_map.1 hp;have := aYp (aNs _ (b1 b hb).1);show 1 + w30 b.name ≤ 31;omega
   rw [length_map, b0] at h4;have h5 : w30 [] = 30 := rfl;simp only [map_nil, sum_nil];omega
  ·obtain ⟨b, hb, rfl⟩ := mem_map.1 hp;exact aSy _ (b1 b hb).1
 split
 ·dsimp only;have h14 : (n / 14 % 4).toNat ≤ 3 := by omega
  obtain ⟨b0, b1⟩ := aFd h n (g (cC 2 l).2 left).2.1 (g (cC 2 l).2 left).2.2 (n / 14 % 4).toNat;generalize cH g n (g (cC 2 l).2 left).2.1 (g (cC 2 l).2 left).2.2 (n / 14 % 4).toNat = r at b0 b1 ⊢;refine jW ⟨rfl, fun h => (by cases h), ht.wf, by simp, ?_, fun h => (by cases h), by simp, fun p hp v hv => ?_⟩ ht (one h3) (by simp) (fun b hb => (b1 b hb).2.2)
  ·unfold lw;have h4 := k9 (g := fun p : Str × List Str => 1 + w30 p.1 + (p.2.map fun v => 1 + w30 v).sum) (K := 124) (l := r.1.map ahd) fun p hp => by
    obtain ⟨b, hb, rfl⟩ := mem_map.1 hp;obtain ⟨g1, ⟨g2, g3⟩, _⟩ := b1 b hb;have e1 := aYp g1;have e2 := k9 (g := fun v : Str => 1 + w30 v) (K := 31) (l := b.vars) fun v hv => by
     have := aYp (aNs _ (g3 v hv));omega
    show 1 + w30 b.name + (b.vars.map fun v => 1 + w30 v).sum ≤ 124;omega
   rw [length_map, b0] at h4;have h5 : w30 [] = 30 := rfl;simp only [map_nil, sum_nil];omega
  ·obtain ⟨b, hb, rfl⟩ := mem_map.1 hp;exact aSy _ ((b1 b hb).2.1.2 v hv)
 split
 ·exact jW (dF rfl (fun h => by cases h) rfl (aSs _ (fA (by decide))) (fun h => by cases h)) .z (two h1 h2) (by simp) (by simp)
 ·exact jW (dF rfl (fun h => by cases h) ht.wf (by decide) (fun h => by cases h)) ht (by simp) (by simp) (by simp)
theorem aBt : ∀ f : Nat, MkM (nJ f)
 | 0 => fun l left => aKx (g := fun l left => ((.mk 0 0 [] zTy [] [] [], l, left) : Mk)) (fun _ _ => jW (dF rfl (fun h => by cases h) rfl (by decide) (fun h => by cases h)) .z (by simp) (by simp) (by simp)) _ _ _ _
 | f + 1 => fun l left => aKx (aBt f) _ _ _ _
end Go.Proofs.YtmoekkcdkjopgaaGreatDoor
namespace Go.Proofs.YtmoekkcdkjopgaaGreatDoor
open Go Go.AM Go.Shelf
set_option maxRecDepth 20000
def gr8 : Ren := ⟨fun f => if f = 4 then 192 else f, fun t => if t = 22 then 76 else if t = 25 then 9 else t, fun g => g⟩
theorem gl8 : Lays8.n4 Tryz.prog gr8 where
 mixed := mixed
 f4 := ⟨Tryz.f192.name, by kernel_rfl, by kernel_rfl⟩
 t0 := by kernel_rfl
 a0 := fun w => by kernel_rfl
 z0 := fun w => by kernel_rfl
 v0 := fun w => by kernel_rfl
 t3 := by kernel_rfl
 a3 := fun w => by kernel_rfl
 z3 := fun w => by kernel_rfl
 v3 := fun w => by kernel_rfl
 t4 := by kernel_rfl
 a4 := fun w => by kernel_rfl
 z4 := fun w => by kernel_rfl
 v4 := fun w => by kernel_rfl
 t9 := by kernel_rfl
 a9 := fun w => by kernel_rfl
 z9 := fun w => by kernel_rfl
 v9 := fun w => by kernel_rfl
 t20 := by kernel_rfl
 a20 := fun w => by kernel_rfl
 z20 := fun w => by kernel_rfl
 v20 := fun w => by kernel_rfl
 t22 := by kernel_rfl
 a22 := fun w => by kernel_rfl
 z22 := fun w => by kernel_rfl
 v22 := fun w => by kernel_rfl
theorem aXz (k : Nat) (h : k ≤ 4000000) : aY Tryz.prog 192 [.one (.c .nl), I .i64 (k : Int)] [] (.one (.hs 720 0 0 0)) [(720, .arr 9 1 [] 0)] :=
 aOc (ρ := gr8) (ei := ⟨.str, 1, 16, [.str []]⟩) gl8 tok (tg rfl) rfl k (by show k * 16 ≤ _; omega) (by omega)
theorem aO6 (a b : List Str) (h : a.length + b.length ≤ 4000000) : aY Tryz.prog 177 [.one (.c (.sl 1 [[.sl 1 (a.map bG)], [.sl 1 (b.map bG)]]))] [] (bN (a ++ b)) [] := by
 have hg := aXz (a.length + b.length) h;have hla : (a.map bG).length = a.length := length_map _;have hlb : (b.map bG).length = b.length := length_map _;refine c8 (n := 36) tok Tryz.func177 rfl rfl rfl ?_;refine a8 (ag [] rfl ?_);refine a8 (ag [] rfl ?_);refine a8 (a8 (ag [] rfl ?_));refine aC ?_;refine aJ (fun i : Nat => mk [(0, .one (.c (.sl 1 [[.sl 1 (a.map bG)], [.sl 1 (b.map bG)]]))), (3, I .i64 ((if i = 0 then 0 else if i = 1 then a.length else a.length + b.length : Nat) : Int)), (9, .one (.c (.sl 1 [[.sl 1 (a.map bG)], [.sl 1 (b.map bG)]]))), (10, I .i64 2), (11, I .i64 i)] []) (fun i => i ≤ 2) (fun i => 2 - i) 0 (zero_le _) sl ?_;intro i hi;refine a8 (ag [] rfl ?_);refine a8 (aB rfl (fun hb => ?_) (fun hb => ?_))
 ·have hlt : i < 2 := by
   have : (i : Int) < 2 := zq0 hb;omega
  refine aD ?_;refine a8 (aC ?_);have hi2 : i = 0 ∨ i = 1 := by omega
  rcases hi2 with rfl | rfl
  ·refine a8 (ag [] rfl ?_);refine a8 (agN [] rfl ?_);refine a8 (ag [] rfl ?_);refine aB rfl (fun hb => ?_) (fun _ => ?_)
   ·exfalso;have : ((0 + (a.map bG).length : Nat) : Int) < 0 := zq0 hb;omega
   refine aD ?_;refine ag [] rfl ?_;refine ⟨1, by omega, by dsimp only; omega, sl (he := ⟨rfl, ?_, rfl, rfl, rfl, trivial⟩)⟩;show some (I .i64 ((0 + (a.map bG).length : Nat) : Int)) = some (I .i64 ((a.length : Nat) : Int));rw [hla, zero_add]
  ·refine a8 (ag [] rfl ?_);refine a8 (agN [] rfl ?_);refine a8 (ag [] rfl ?_);refine aB rfl (fun hb => ?_) (fun _ => ?_)
   ·exfalso;have : ((a.length + (b.map bG).length : Nat) : Int) < 0 := zq0 hb;omega
   refine aD ?_;refine ag [] rfl ?_;refine ⟨2, by omega, by dsimp only; omega, sl (he := ⟨rfl, ?_, rfl, rfl, rfl, trivial⟩)⟩;show some (I .i64 ((a.length + (b.map bG).length : Nat) : Int)) = some (I .i64 ((a.length + b.length : Nat) : Int));rw [hlb]
 have hge : i = 2 := by
  have : ¬ (i : Int) < 2 := zq1 hb;omega
 subst hge;refine aK ?_;refine a8 (aF mixed ?_);refine ak 1 [] rfl ?_;refine kc hg ?_;refine ak 1 [] rfl ?_;refine az ?_;refine a8 (a8 (ag [] rfl ?_));refine aC ?_;refine aJ (fun i : Nat => mk [(6, .one (.hs 720 0 (if i = 0 then 0 else if i = 1 then a.length else a.length + b.length) (if i = 0 then 0 else if i = 1 then a.length else a.length + b.length))), (25, .one (.c (.sl 1 [[.sl 1 (a.map bG)], [.sl 1 (b.map bG)]]))), (26, I .i64 2), (27, I .i64 i)] [(720, .arr 9 1 (if i = 0 then [] else if i = 1 then a.map bG else a.map bG ++ b.map bG) 0)]) (fun i => i ≤ 2) (fun i => 2 - i) 0 (zero_le _) sl ?_;intro i hi;refine a8 (ag [] rfl ?_);refine a8 (aB rfl (fun hb => ?_) (fun hb => ?_))
 ·have hlt : i < 2 := by
   have : (i : Int) < 2 := zq0 hb;omega
  refine aD ?_;refine a8 (aC ?_);have hi2 : i = 0 ∨ i = 1 := by omega
  rcases hi2 with rfl | rfl
  ·refine a8 (ag [] rfl ?_);refine ag [] rfl ?_;refine ag [] rfl ?_;exact ⟨1, by omega, by dsimp only; omega, sl⟩
  ·refine a8 (ag [] rfl ?_);refine ag [] rfl ?_;refine ag [] rfl ?_;exact ⟨2, by omega, by dsimp only; omega, sl⟩
 have hge : i = 2 := by
  have : ¬ (i : Int) < 2 := zq1 hb;omega
 subst hge;refine aK ?_;refine a8 (ag [] rfl ?_);refine AWp.sub (Sub.freeze (id := 720) rfl) ?_;exact aE (rtT (hc := hs_all rfl rfl (by simp) (by simp)))
def gvV (ns : List Str) : V := .pa [.sl 1 (ns.map bG), .sl 1 []]
def plF (ns : List Str) (s : Str) : Nat → Nat → Int
 | 0, _ => -1
 | m + 1, i => if ns[ns.length - 1 - i]? = some s then ((ns.length - 1 - i : Nat) : Int) else plF ns s m (i + 1)
theorem aTv (ns : List Str) (s : Str) (h : ns.length ≤ 1000000000) : aY Tryz.prog 135 [gvV ns, Go.AM.T s] [] (I .i64 (plF ns s ns.length 0)) [] := by
 have hk : (ns.map bG).length = ns.length := length_map _;refine c8 (n := 28) tok Tryz.func135 rfl rfl rfl ?_;refine a8 (ag [] rfl ?_);refine a8 (a8 (ag [] rfl ?_));refine aC ?_;refine aJ (fun i : Nat => mk [(1, Go.AM.T s), (2, .one (.vp 2 0)), (9, I .i64 ((ns.map bG).length : Int)), (10, I .i64 i)] [(2, .var 131 [.c (.sl 1 (ns.map bG)), .c (.sl 1 [])])]) (fun i => i ≤ ns.length ∧ plF ns s ns.length 0 = plF ns s (ns.length - i) i) (fun i => ns.length - i) 0 ⟨zero_le _, rfl⟩ sl ?_;intro i hi;obtain ⟨hi, he⟩ := hi;refine a8 (ag [] rfl ?_);refine a8 (aB rfl (fun hb => ?_) (fun hb => ?_))
 ·have hlt := ltD hb hk;have hix : ns.length - 1 - i < ns.length := by omega
  obtain ⟨n, hn⟩ := aL hix;have hn' := cE bG hn;have hr : ns.length - i = (ns.length - (i + 1)) + 1 := by omega
  rw [hr, plF, hn] at he;refine aD ?_;refine a8 (aC (a8 (ag [] rfl ?_)));refine a8 (ag [] rfl ?_);have e0 : (((ns.map bG).length : Int) - 1) - (i : Int) = ((ns.length - 1 - i : Nat) : Int) := by rw [hk]; omega
  refine AWp.sub (st2 := mk [(1, Go.AM.T s), (2, .one (.vp 2 0)), (6, I .i64 ((ns.length - 1 - i : Nat) : Int)), (9, I .i64 ((ns.map bG).length : Int)), (10, I .i64 i)] [(2, .var 131 [.c (.sl 1 (ns.map bG)), .c (.sl 1 [])])]) (sl (he := ⟨rfl, rfl, congrArg (fun x => some (I .i64 x)) e0, rfl, rfl, trivial⟩)) ?_;refine a8 (ag [(3, .row (ns.length - 1 - i) (bG n))] rfl ?_);refine aB rfl (fun hb => ?_) (fun hb => ?_)
  ·have hns : n = s := zq0 hb;rw [if_pos (by rw [hns])] at he;rw [he];refine a8 (ag [] rfl ?_);exact aE rtT
  ·have hns : ¬ n = s := zq1 hb;rw [if_neg (fun h => hns (by simpa using h))] at he;refine aD ?_;refine ag [] rfl ?_;exact ⟨i + 1, ⟨hlt, he⟩, by dsimp only; omega, sl⟩
 have hge := geD hb hk hi;subst hge;rw [he, sub_self, plF];refine aK ?_;refine a8 (ag [] rfl ?_);exact aE rtT
theorem aO8 (t : Ty) (ns : List Str) : aY Tryz.prog 134 [gvV ns, tyV t] [] (tyV t) [] := by
 refine c8 (n := 26) tok Tryz.func134 rfl rfl rfl ?_;refine a8 (ag [] rfl ?_);refine a8 (a8 (ag [] rfl ?_));refine aC ?_;refine aJ (fun _ : Unit => mk [(3, .one (.vp 3 0)), (4, .one (.vp 4 0)), (8, I .i64 0), (9, I .i64 0)] [(3, .var 33 ((cG t).map R.c)), (4, .var 33 [.c (.int .i64 0), .c (.int .i64 0), .c (.str []), .c .nl])]) (fun _ => True) (fun _ => 0) () trivial sl ?_;intro _ _;refine a8 (ag [] rfl ?_);refine a8 (aB rfl (fun hb => by cases hb) (fun _ => ?_));refine aK ?_;refine a8 (ag [] rfl ?_);exact aE (rtC trw)
theorem aXk (ns : List Str) (L : List (Str × List C)) (h : ns.length + L.length ≤ 1000000000) : aY Tryz.prog 136 [gvV ns, .one (.c (.sl 1 (L.map pJ))), bN []] [] (gvV (ns ++ L.map (·.1))) [] := by
 have hcl := gG (ns.map bG) (by rw [length_map]; omega);have hco := aO6 [] [] (by decide);have hkL : (L.map pJ).length = L.length := length_map _;have hkn : (ns.map bG).length = ns.length := length_map _;refine c8 (n := 35) tok Tryz.func136 rfl rfl rfl ?_;refine a8 (ag [] rfl ?_);refine a8 (aF mixed ?_);refine ak 2 [] rfl ?_;refine kc hcl ?_;refine ak 4 [(6, .all)] rfl ?_;refine kc hco ?_;refine ak 4 [] rfl ?_;refine az ?_;refine a8 (a8 (ag [] rfl ?_));refine aC ?_;refine aJ (fun i : Nat => mk [(3, .one (.vp 3 0)), (6, .one (.vp 6 0)), (19, .one (.c (.sl 1 (L.map pJ)))), (20, I .i64 ((L.map pJ).length : Int)), (21, I .i64 i)] [(3, .var 131 [.hs 710 0 ((ns.map bG).length + i) ((ns.map bG).length + i), .c (.sl 1 [])]), (6, .var 131 [.c .nl, .c .nl]), (710, .arr 9 1 (ns.map bG ++ (L.take i).map fun p => bG p.1) 0)]) (fun i => i ≤ L.length) (fun i => L.length - i) 0 (zero_le _) ?_ ?_
 ·exact sl (hh := ⟨⟨_, rfl, .var rfl⟩, ⟨_, rfl, .var rfl⟩, ⟨_, rfl, .arrS (by simp)⟩, trivial⟩)
 ·intro i hi;refine a8 (ag [] rfl ?_);refine a8 (aB rfl (fun hb => ?_) (fun hb => ?_))
  ·have hlt := ltD hb hkL;obtain ⟨p, hp⟩ := aL hlt;have hp' := cE pJ hp;have hrow : ns.map bG ++ (L.take i).map (fun p => bG p.1) ++ [bG p.1] = ns.map bG ++ (L.take (i + 1)).map (fun p => bG p.1) := by rw [dT hp, map_append, append_assoc]; rfl
   have hln : (ns.map bG ++ (L.take i).map (fun p => bG p.1)).length = (ns.map bG).length + i := by simp; omega
   refine aD ?_;refine a8 (aC (a8 (ag [(0, .row i (pJ p))] rfl ?_)));refine ag [] rfl ?_;refine ag [] rfl ?_;exact ⟨i + 1, hlt, by dsimp only; omega, sl (hh := ⟨⟨_, rfl, .varS (by rw [hln]; rfl)⟩, ⟨_, rfl, .var rfl⟩, ⟨_, rfl, .arrS hrow⟩, trivial⟩)⟩
  have hge := geD hb hkL hi;subst hge;rw [take_length];have hln : (ns.map bG).length + L.length = (ns.map bG ++ L.map (fun p => bG p.1)).length := by simp
  have hres : gvV (ns ++ L.map (·.1)) = .pa [.sl 1 (ns.map bG ++ L.map (fun p => bG p.1)), .sl 1 []] := by unfold gvV; rw [map_append, map_map]; rfl
  rw [hres];refine aK ?_;refine AWp.sub (Sub.freeze (id := 710) rfl) ?_;refine AWp.sub (Sub.varPure (x := 3) rfl (.hs rfl hln (by rw [drop_zero, hln, take_length]) (.c .refl .nil))) ?_;refine a8 (ag [] rfl ?_);exact aE (rtC trw)
end Go.Proofs.YtmoekkcdkjopgaaGreatDoor
