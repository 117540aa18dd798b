/-
  Texts La4 to La17 in one.
-/
import Derived.Test.YtlegeikmepnmcaaDoorM5
open List (append_nil cons_append drop_zero length_append length_cons length_map length_singleton length_take map_append map_cons map_map map_take mem_append mem_cons mem_of_mem_take mem_singleton suffix_refl take_length take_of_length_le take_succ_cons take_zero)
open Nat (add_assoc le_add_right le_refl le_trans lt_of_lt_of_le min_eq_left zero_le)
namespace Go.Proofs.YtlegeikmepnmcaaDoor
open Go Go.AM
set_option maxRecDepth 20000
def aGk (l : List Str) (s : Str) : List Str := if s ∈ l then l else l ++ [s]
def nameAt (n : Int) (i : Nat) : Str := oneOf nmL (n / 4 + (i : Int) * (1 + n % 2))
def cZ (n : Int) : Nat → List Str
 | 0 => []
 | i + 1 => aGk (cZ n i) (nameAt n i)
def b6 (l : List Int) : List Str × List Int := (cZ (aN l).1 ((aN l).1 % 4).toNat, (aN l).2)
theorem aDr (l : List Str) (s : Str) : (aGk l s).length ≤ l.length + 1 := by
 unfold aGk;split <;> simp
theorem jJ (n : Int) : ∀ i : Nat, (cZ n i).length ≤ i
 | 0 => le_refl _
 | i + 1 => le_trans (aDr _ _) (Nat.succ_le_succ (jJ n i))
theorem aAp (left : Int) (l : List Int) (hl : yN l) (hf : Fits l) : bN Tryd.prog 54 [.one (.vp 700 0)] (mkO l left) (.one (.c (.sl 1 ((b6 l).1.map bF)))) (mkO (b6 l).2 left) := by
 have hn := m6 l;refine cT (n := 33) tok Tryd.func54 rfl rfl rfl ?_;refine a8 (ag [] rfl ?_);refine a8 (aJ mixed ?_);refine ak 1 [] rfl ?_;refine kc (wP l left hl hf) ?_;refine ak 1 [] rfl ?_;refine az ?_;refine a8 (ag [] rfl ?_);refine a8 (a8 (ag [] rfl ?_));refine AWp.sub (Sub.own (t := 4) (id := 500) 9 1 rfl rfl) (AWp.sub (Sub.freeze (id := 500) rfl) ?_);refine aB (aL (fun i : Nat => mk [(3, I .i64 (aN l).1), (4, .one (.hs 500 0 (cZ (aN l).1 i).length (cZ (aN l).1 i).length)), (5, I .i64 i)] ((500, .arr 9 1 ((cZ (aN l).1 i).map bF) 2) :: mkO (aN l).2 left)) (fun i => (i : Int) ≤ (aN l).1 % 4) (fun i => 4 - i) 0 (by simp; omega) (.list (fun i => i) ⟨rfl, rfl, rfl, trivial⟩ ⟨⟨_, rfl, .arr⟩, ⟨_, rfl, .var rfl⟩, trivial⟩ rfl) ?_);intro i hi;have hlen := jJ (aN l).1 i;refine a8 (a8 (ag [] rfl ?_));refine aA rfl (fun hb => ?_) (fun hb => ?_)
 ·refine aD ?_;have hlt : (i : Int) < (aN l).1 % 4 := by simpa using hb
  have hi64 : i64 ((aN l).1 / 4 + (i : Int) * (1 + (aN l).1 % 2)) := by
   have h1 : (i : Int) ≤ 4 := by omega
   have h2 : (i : Int) * (1 + (aN l).1 % 2) ≤ 4 * 2 := Int.mul_le_mul h1 (by omega) (by omega) (by omega);have h3 : 0 ≤ (i : Int) * (1 + (aN l).1 % 2) := Int.mul_nonneg (by omega) (by omega);unfold i64;omega
  have hm : -9223372036854775808 ≤ (i : Int) * (1 + (aN l).1 % 2) ∧ (i : Int) * (1 + (aN l).1 % 2) ≤ 9223372036854775807 := by
   have h1 : (i : Int) ≤ 4 := by omega
   have h2 : (i : Int) * (1 + (aN l).1 % 2) ≤ 4 * 2 := Int.mul_le_mul h1 (by omega) (by omega) (by omega);have h3 : 0 ≤ (i : Int) * (1 + (aN l).1 % 2) := Int.mul_nonneg (by omega) (by omega);omega
  refine a8 (aB (a8 (aJ mixed ?_)));unfold i64 at hi64;refine ak 8 [] rfl ?_;refine kc (sP _ hi64) ?_;refine ak 1 [] rfl ?_;refine az ?_;refine a8 (aJ mixed ?_);refine ak 2 [] rfl ?_;refine kc (nE (cZ (aN l).1 i) (nameAt (aN l).1 i) (by unfold Fits; omega)) ?_;refine ak 1 [] rfl ?_;refine az ?_;refine aA rfl (fun hb => ?_) (fun hb => ?_)
  ·have hni : nameAt (aN l).1 i ∉ cZ (aN l).1 i := by simpa using hb
   refine ag [] rfl ?_;refine AWp.sub (Sub.freeze (id := 500) rfl) ?_;refine ag [] rfl ?_;have he : cZ (aN l).1 (i + 1) = cZ (aN l).1 i ++ [nameAt (aN l).1 i] := by rw [cZ, aGk, if_neg hni]
   refine ⟨i + 1, by dsimp only; omega, by dsimp only; omega, .list (fun i => i) ⟨rfl, ?_, rfl, trivial⟩ ⟨⟨_, rfl, by rw [he, map_append]; exact .arr⟩, ⟨_, rfl, .var rfl⟩, trivial⟩ rfl⟩;show some (V.one (R.hs 500 0 _ _)) = some (V.one (R.hs 500 0 _ _));rw [he];simp
  ·have hni : nameAt (aN l).1 i ∈ cZ (aN l).1 i := by simpa using hb
   have he : cZ (aN l).1 (i + 1) = cZ (aN l).1 i := by rw [cZ, aGk, if_pos hni]
   refine aD (ag [] rfl ?_);refine ⟨i + 1, by dsimp only; omega, by dsimp only; omega, ?_⟩;dsimp only;rw [he];exact .list (fun i => i) ⟨rfl, rfl, rfl, trivial⟩ ⟨⟨_, rfl, .arr⟩, ⟨_, rfl, .var rfl⟩, trivial⟩ rfl
 ·have hge : ((aN l).1 % 4).toNat = i := by
   have : ¬ (i : Int) < (aN l).1 % 4 := by simpa using hb
   omega
  have hr : b6 l = (cZ (aN l).1 i, (aN l).2) := by unfold b6; rw [hge]
  refine aM (a8 (ag [] rfl (aF ?_)));rw [hr];exact ⟨.inr rfl, ⟨_, _, .tmp rfl .nil, .cons (.one (.hs rfl (by simp) Go.AM.take_map.symm .nil)) .nil, rfl⟩, ⟨⟨_, rfl, .var rfl⟩, trivial⟩, rfl⟩
def zTy : Ty := .mk 0 0 [] []
abbrev Mk := Core × List Int × Int
def bS (g : List Int → Int → Mk) (ns : List Str) (l : List Int) (left : Int) : Nat → List Bind × List Int × Int
 | 0 => ([], l, left)
 | i + 1 => let r := bS g ns l left i
  let c := g (cK 2 r.2.1).2 r.2.2
  (r.1 ++ [.mk (ns[i]?.getD []) (cK 2 r.2.1).1 c.1], c.2)
def cQ (g : List Int → Int → Mk) (n : Int) (l : List Int) (left : Int) : Nat → List Alt × List Int × Int
 | 0 => ([], l, left)
 | i + 1 => let r := cQ g n l left i
  let c := g (b6 r.2.1).2 r.2.2
  (r.1 ++ [if i = 1 then .mk 2 (n / 14) [] [] c.1 else if i = 2 then .mk 3 0 [] [] c.1 else .mk 1 0 (oneOf aC8 (n / 14 + i)) (b6 r.2.1).1 c.1], c.2)
def dB (g : List Int → Int → Mk) (n k : Int) (l : List Int) (left : Int) : Mk :=
 if k < 2 then (.mk 1 0 (oneOf nmL (n / 14)) zTy [] [] [], l, left)
 else if k = 2 then (.mk 2 0 (oneOf aC8 (n / 14)) zTy [] [] [], l, left)
 else if k = 3 then (.mk 3 (n / 14 - 3) [] zTy [] [] [], l, left)
 else if k < 6 then (.mk 4 0 [] zTy [(g l left).1, (g (g l left).2.1 (g l left).2.2).1] [] [], (g (g l left).2.1 (g l left).2.2).2)
 else if k < 8 then (.mk 5 0 (oneOf nmL (n / 14)) (cK 2 l).1 [(g (cK 2 l).2 left).1] [] [], (g (cK 2 l).2 left).2)
 else if k = 8 then (.mk 6 0 [] (cK 2 l).1 [(g (cK 2 l).2 left).1] [] [], (g (cK 2 l).2 left).2)
 else if k = 9 then (.mk 7 0 (oneOf tK (n / 14)) zTy [(g l left).1] [] [], (g l left).2)
 else if k = 10 then
  let r := bS g (b6 l).1 (b6 l).2 left (b6 l).1.length
  (.mk 8 0 [] zTy [(g r.2.1 r.2.2).1] r.1 [], (g r.2.1 r.2.2).2)
 else if k = 11 then
  let c := g (cK 2 l).2 left
  let r := cQ g n c.2.1 c.2.2 (n / 14 % 4).toNat
  (.mk 9 0 [] (cK 2 l).1 [c.1] [] r.1, r.2)
 else if k = 12 then (.mk 10 0 (oneOf tU (n / 14)) zTy [(g l left).1, (g (g l left).2.1 (g l left).2.2).1] [] [], (g (g l left).2.1 (g l left).2.2).2)
 else (.mk 11 0 [] (cK 2 l).1 [] [] [], (cK 2 l).2, left)
def lQ : Nat → List Int → Int → Mk
 | 0, l, left => dB (fun l left => (.mk 0 0 [] zTy [] [] [], l, left)) (aN l).1 ((aN l).1 % 4) (aN l).2 (left - 1)
 | f + 1, l, left => dB (lQ f) (aN l).1 (if left - 1 < 1 then (aN l).1 % 4 else (aN l).1 % 14) (aN l).2 (left - 1)
structure MkOk (g : List Int → Int → Mk) (N : Nat) : Prop where
 suf : ∀ l left, (g l left).2.1 <:+ l
 le : ∀ l left, (g l left).2.2 ≤ left
 ge : ∀ l left, left ≤ (g l left).2.2 + N
theorem gK (l : List Int) : (b6 l).2 <:+ l := dM l
theorem iX (l : List Int) : (b6 l).1.length ≤ 3 := by
 have h1 := jJ (aN l).1 ((aN l).1 % 4).toNat;have h2 : ((aN l).1 % 4).toNat ≤ 3 := by omega
 exact le_trans h1 h2
theorem l8 {g : List Int → Int → Mk} {N : Nat} (h : MkOk g N) (ns : List Str) (l : List Int) (left : Int) : ∀ i : Nat, (bS g ns l left i).2.1 <:+ l ∧ (bS g ns l left i).2.2 ≤ left ∧ left ≤ (bS g ns l left i).2.2 + (i : Int) * N ∧ (bS g ns l left i).1.length = i
 | 0 => by simp [bS]
 | i + 1 => by
  obtain ⟨h1, h2, h3, h4⟩ := l8 h ns l left i;simp only [bS];refine ⟨((h.suf _ _).trans (eF 2 _)).trans h1, Int.le_trans (h.le _ _) h2, ?_, by simp [h4]⟩;have := h.ge (cK 2 (bS g ns l left i).2.1).2 (bS g ns l left i).2.2;rw [show ((i + 1 : Nat) : Int) * (N : Int) = (i : Int) * N + N by rw [Int.natCast_add, Int.add_mul]; simp];omega
theorem nJ {g : List Int → Int → Mk} {N : Nat} (h : MkOk g N) (n : Int) (l : List Int) (left : Int) : ∀ i : Nat, (cQ g n l left i).2.1 <:+ l ∧ (cQ g n l left i).2.2 ≤ left ∧ left ≤ (cQ g n l left i).2.2 + (i : Int) * N ∧ (cQ g n l left i).1.length = i
 | 0 => by simp [cQ]
 | i + 1 => by
  obtain ⟨h1, h2, h3, h4⟩ := nJ h n l left i;simp only [cQ];refine ⟨((h.suf _ _).trans (gK _)).trans h1, Int.le_trans (h.le _ _) h2, ?_, by simp [h4]⟩;have := h.ge (b6 (cQ g n l left i).2.1).2 (cQ g n l left i).2.2;rw [show ((i + 1 : Nat) : Int) * (N : Int) = (i : Int) * N + N by rw [Int.natCast_add, Int.add_mul]; simp];omega
theorem wJ {g : List Int → Int → Mk} {N : Nat} (h : MkOk g N) (n k : Int) (l : List Int) (left : Int) : (dB g n k l left).2.1 <:+ l ∧ (dB g n k l left).2.2 ≤ left ∧ left ≤ (dB g n k l left).2.2 + 4 * N := by
 have ht := eF 2 l;have hg1 := h.suf l left;have hg2 := h.le l left;have hg3 := h.ge l left;have hh1 := h.suf (g l left).2.1 (g l left).2.2;have hh2 := h.le (g l left).2.1 (g l left).2.2;have hh3 := h.ge (g l left).2.1 (g l left).2.2;have hu1 := h.suf (cK 2 l).2 left;have hu2 := h.le (cK 2 l).2 left;have hu3 := h.ge (cK 2 l).2 left;unfold dB;split
 ·exact ⟨suffix_refl _, Int.le_refl _, by dsimp only; omega⟩
 split
 ·exact ⟨suffix_refl _, Int.le_refl _, by dsimp only; omega⟩
 split
 ·exact ⟨suffix_refl _, Int.le_refl _, by dsimp only; omega⟩
 split
 ·exact ⟨hh1.trans hg1, by dsimp only; omega, by dsimp only; omega⟩
 split
 ·exact ⟨hu1.trans ht, by dsimp only; omega, by dsimp only; omega⟩
 split
 ·exact ⟨hu1.trans ht, by dsimp only; omega, by dsimp only; omega⟩
 split
 ·exact ⟨hg1, by dsimp only; omega, by dsimp only; omega⟩
 split
 ·have hl := iX l;obtain ⟨b1, b2, b3, _⟩ := l8 h (b6 l).1 (b6 l).2 left (b6 l).1.length;have c1 := h.suf (bS g (b6 l).1 (b6 l).2 left (b6 l).1.length).2.1 (bS g (b6 l).1 (b6 l).2 left (b6 l).1.length).2.2;have c2 := h.le (bS g (b6 l).1 (b6 l).2 left (b6 l).1.length).2.1 (bS g (b6 l).1 (b6 l).2 left (b6 l).1.length).2.2;have c3 := h.ge (bS g (b6 l).1 (b6 l).2 left (b6 l).1.length).2.1 (bS g (b6 l).1 (b6 l).2 left (b6 l).1.length).2.2;have hm : (((b6 l).1.length : Nat) : Int) * (N : Int) ≤ 3 * (N : Int) := Int.mul_le_mul_of_nonneg_right (by omega) (by omega);exact ⟨(c1.trans b1).trans (gK l), by dsimp only; omega, by dsimp only; omega⟩
 split
 ·obtain ⟨b1, b2, b3, _⟩ := nJ h n (g (cK 2 l).2 left).2.1 (g (cK 2 l).2 left).2.2 (n / 14 % 4).toNat;have hm : (((n / 14 % 4).toNat : Nat) : Int) * (N : Int) ≤ 3 * (N : Int) := Int.mul_le_mul_of_nonneg_right (by omega) (by omega);exact ⟨(b1.trans hu1).trans ht, by dsimp only; omega, by dsimp only; omega⟩
 split
 ·exact ⟨hh1.trans hg1, by dsimp only; omega, by dsimp only; omega⟩
 ·exact ⟨ht, Int.le_refl _, by dsimp only; omega⟩
def use : Nat → Nat
 | 0 => 1
 | f + 1 => 1 + 4 * use f
theorem wI : ∀ f : Nat, MkOk (lQ f) (use f)
 | 0 => by
  have h : MkOk (fun l left => ((.mk 0 0 [] zTy [] [] [], l, left) : Mk)) 0 := ⟨fun _ _ => suffix_refl _, fun _ _ => Int.le_refl _, fun _ _ => by simp⟩
  refine ⟨fun l left => ?_, fun l left => ?_, fun l left => ?_⟩ <;> obtain ⟨h1, h2, h3⟩ := wJ h (aN l).1 ((aN l).1 % 4) (aN l).2 (left - 1) <;> simp only [lQ, use]
  ·exact h1.trans (dM l)
  ·omega
  ·simp only [Int.natCast_zero, Int.mul_zero, Int.add_zero] at h3; omega
 | f + 1 => by
  have h := wI f;refine ⟨fun l left => ?_, fun l left => ?_, fun l left => ?_⟩ <;> obtain ⟨h1, h2, h3⟩ := wJ h (aN l).1 (if left - 1 < 1 then (aN l).1 % 4 else (aN l).1 % 14) (aN l).2 (left - 1) <;> simp only [lQ, use]
  ·exact h1.trans (dM l)
  ·omega
  ·simp only [Int.natCast_add, Int.natCast_mul]; omega
def gOf : Nat → List Int → Int → Mk
 | 0 => fun l left => (.mk 0 0 [] zTy [] [] [], l, left)
 | f + 1 => lQ f
theorem aC6 (f : Nat) (l : List Int) (left : Int) : lQ f l left = dB (gOf f) (aN l).1 (if f = 0 ∨ left - 1 < 1 then (aN l).1 % 4 else (aN l).1 % 14) (aN l).2 (left - 1) := by
 cases f with
 | zero => simp [lQ, gOf]
 | succ f => simp [lQ, gOf]
def aBp (g : List Int → Int → Mk) (dp : Int) (N : Nat) : Prop := ∀ l left, yN l → Fits l → -9223372036854775808 + (N : Int) ≤ left → left ≤ 1000000 →
 bN Tryd.prog 32 [.one (.vp 700 0), I .i64 dp] (mkO l left) (.pa (aE (g l left).1)) (mkO (g l left).2.1 (g l left).2.2)
theorem nF (f : Nat) (dp : Int) (hd : dp + f = 6) (h0 : 0 ≤ dp) (ih : 1 ≤ f → aBp (gOf f) (dp + 1) (use (f - 1))) (hg : 1 ≤ f → MkOk (gOf f) (use (f - 1))) : aBp (lQ f) dp (use f) := by
 intro l left hl hf hlo hhi;have hn := m6 l;have hl1 := hl.suf (dM l);have hf1 := hf.suf (dM l);have huse : 1 ≤ use f := by cases f <;> simp [use]
 refine cT (n := 211) tok Tryd.func32 rfl rfl rfl ?_;refine a8 (ag [] rfl ?_);refine a8 (aJ mixed ?_);refine ak 1 [] rfl ?_;refine kc (wP l left hl hf) ?_;refine ak 1 [] rfl ?_;refine az ?_;refine a8 (ag [] rfl ?_);refine a8 (ag [] rfl ?_);refine a8 (AWp.cut (mk [(0, .one (.vp 700 0)), (1, I .i64 dp), (4, .one (.vp 4 0)), (5, I .i64 (aN l).1), (6, I .i64 (if f = 0 ∨ left - 1 < 1 then (aN l).1 % 4 else (aN l).1 % 14))] ((4, .var 38 [.c (.int .i64 0), .c (.int .i64 0), .c (.str []), .c (.int .i64 0), .c (.int .i64 0), .c (.str []), .c .nl, .c .nl, .c .nl, .c .nl]) :: mkO (aN l).2 (left - 1))) ?_ ?_)
 ·refine a8 (agF 3 [] rfl rfl rfl ?_);refine aA rfl (fun hb => ?_) (fun hb => ?_)
  ·have hb' : f = 0 ∨ left - 1 < 1 := by
    simp at hb;omega
   refine ag [] rfl ?_;rw [if_pos hb'];exact .list (fun i => i) ⟨rfl, rfl, rfl, rfl, rfl, trivial⟩ ⟨⟨_, rfl, .var rfl⟩, ⟨_, rfl, .var rfl⟩, trivial⟩ rfl
  ·have hb' : ¬ (f = 0 ∨ left - 1 < 1) := by
    simp at hb;omega
   refine aD ?_;rw [if_neg hb'];exact .list (fun i => i) ⟨rfl, rfl, rfl, rfl, rfl, trivial⟩ ⟨⟨_, rfl, .var rfl⟩, ⟨_, rfl, .var rfl⟩, trivial⟩ rfl
 have hr0 := aC6 f l left;have hk0 : 0 ≤ (if f = 0 ∨ left - 1 < 1 then (aN l).1 % 4 else (aN l).1 % 14) := by split <;> omega
 have hkf : 4 ≤ (if f = 0 ∨ left - 1 < 1 then (aN l).1 % 4 else (aN l).1 % 14) → 1 ≤ f ∧ 1 ≤ left - 1 := by split <;> omega
 rw [hr0];clear hr0;generalize (if f = 0 ∨ left - 1 < 1 then (aN l).1 % 4 else (aN l).1 % 14) = k at hk0 hkf ⊢;generalize (aN l).2 = l1 at hl1 hf1 ⊢;generalize (aN l).1 = n at hn ⊢;have hlu : -9223372036854775808 + (use f : Int) ≤ left := hlo;refine a8 (a8 (ag [] rfl ?_))

 refine aB (a8 (a8 (ag [] rfl ?_)));refine aA rfl (fun hb => ?_) (fun hb => ?_)
 ·have h0 : k = 0 := by simpa using hb
  refine aD (aA rfl (fun _ => ?_) (fun hb' => by rw [hb] at hb'; cases hb'));have hr : dB (gOf f) n k l1 (left - 1) = (.mk 1 0 (oneOf nmL (n / 14)) zTy [] [] [], l1, left - 1) := by
   unfold dB;rw [if_pos (by omega)]
  rw [hr];refine a8 (aJ mixed ?_);refine ak 2 [] rfl ?_;refine kc (sP (n / 14) (by unfold i64; omega)) ?_;refine ak 2 [] rfl ?_;refine az ?_;exact aF (rtC trw)
 ·have h0 : ¬ k = 0 := by simpa using hb
  refine ag [] rfl ?_;refine aA rfl (fun hb1 => ?_) (fun hb1 => ?_)
  ·have h1 : k = 1 := by simpa using hb1
   have hr : dB (gOf f) n k l1 (left - 1) = (.mk 1 0 (oneOf nmL (n / 14)) zTy [] [] [], l1, left - 1) := by
    unfold dB;rw [if_pos (by omega)]
   rw [hr];refine a8 (aJ mixed ?_);refine ak 2 [] rfl ?_;refine kc (sP (n / 14) (by unfold i64; omega)) ?_;refine ak 2 [] rfl ?_;refine az ?_;exact aF (rtC trw)
  ·have h1 : ¬ k = 1 := by simpa using hb1
   have c1 : ¬ k < 2 := by omega
   refine a8 (ag [] rfl ?_);refine aA rfl (fun hb2 => ?_) (fun hb2 => ?_)
   ·have h2 : k = 2 := by simpa using hb2
    have hr : dB (gOf f) n k l1 (left - 1) = (.mk 2 0 (oneOf aC8 (n / 14)) zTy [] [] [], l1, left - 1) := by
     unfold dB;rw [if_neg c1, if_pos h2]
    rw [hr];refine a8 (aJ mixed ?_);refine ak 2 [] rfl ?_;refine kc (aDe (n / 14) (by unfold i64; omega)) ?_;refine ak 2 [] rfl ?_;refine az ?_;exact aF (rtC trw)
   ·have h2 : ¬ k = 2 := by simpa using hb2
    refine a8 (ag [] rfl ?_);refine aA rfl (fun hb3 => ?_) (fun hb3 => ?_)
    ·have h3 : k = 3 := by simpa using hb3
     have hr : dB (gOf f) n k l1 (left - 1) = (.mk 3 (n / 14 - 3) [] zTy [] [] [], l1, left - 1) := by
      unfold dB;rw [if_neg c1, if_neg h2, if_pos h3]
     rw [hr];refine a8 (ag [] rfl ?_);exact aF (rtC trw)
    ·have h3 : ¬ k = 3 := by simpa using hb3
     refine a8 (a8 (ag [] rfl ?_));refine aA rfl (fun hb4 => ?_) (fun hb4 => ?_)
     ·have h4 : k = 4 := by simpa using hb4
      refine aD (aA rfl (fun _ => ?_) (fun hb' => by rw [hb4] at hb'; cases hb'));obtain ⟨hf0, hl0⟩ := hkf (by omega);have ho := hg hf0;have hu : use f = 1 + 4 * use (f - 1) := by cases f with | zero => omega | succ f => rfl
      have g1 := ho.suf l1 (left - 1);have g2 := ho.le l1 (left - 1);have g3 := ho.ge l1 (left - 1);have ih1 := ih hf0 l1 (left - 1) hl1 hf1 (by omega) (by omega);have ih2 := ih hf0 (gOf f l1 (left - 1)).2.1 (gOf f l1 (left - 1)).2.2 (hl1.suf g1) (hf1.suf g1) (by omega) (by omega);have hr : dB (gOf f) n k l1 (left - 1) = (.mk 4 0 [] zTy [(gOf f l1 (left - 1)).1, (gOf f (gOf f l1 (left - 1)).2.1 (gOf f l1 (left - 1)).2.2).1] [] [], (gOf f (gOf f l1 (left - 1)).2.1 (gOf f l1 (left - 1)).2.2).2) := by
       unfold dB;rw [if_neg c1, if_neg h2, if_neg h3, if_pos (by omega)]
      rw [hr];refine a8 (aJ mixed ?_);refine ak 3 [] rfl ?_;refine kc ih1 ?_;refine ak 2 [] rfl ?_;refine az ?_;refine a8 (aJ mixed ?_);refine ak 4 [] rfl ?_;refine kc ih2 ?_;refine ak 3 [] rfl ?_;refine az ?_;refine AWp.sub (Sub.freeze (id := 72) rfl) (aF (rtC trw))
     ·have h4 : ¬ k = 4 := by simpa using hb4
      refine ag [] rfl ?_;refine aA rfl (fun hb5 => ?_) (fun hb5 => ?_)
      ·have h5 : k = 5 := by simpa using hb5
       obtain ⟨hf0, hl0⟩ := hkf (by omega);have ho := hg hf0;have hu : use f = 1 + 4 * use (f - 1) := by cases f with | zero => omega | succ f => rfl
       have g1 := ho.suf l1 (left - 1);have g2 := ho.le l1 (left - 1);have g3 := ho.ge l1 (left - 1);have ih1 := ih hf0 l1 (left - 1) hl1 hf1 (by omega) (by omega);have ih2 := ih hf0 (gOf f l1 (left - 1)).2.1 (gOf f l1 (left - 1)).2.2 (hl1.suf g1) (hf1.suf g1) (by omega) (by omega);have hr : dB (gOf f) n k l1 (left - 1) = (.mk 4 0 [] zTy [(gOf f l1 (left - 1)).1, (gOf f (gOf f l1 (left - 1)).2.1 (gOf f l1 (left - 1)).2.2).1] [] [], (gOf f (gOf f l1 (left - 1)).2.1 (gOf f l1 (left - 1)).2.2).2) := by
        unfold dB;rw [if_neg c1, if_neg h2, if_neg h3, if_pos (by omega)]
       rw [hr];refine a8 (aJ mixed ?_);refine ak 3 [] rfl ?_;refine kc ih1 ?_;refine ak 2 [] rfl ?_;refine az ?_;refine a8 (aJ mixed ?_);refine ak 4 [] rfl ?_;refine kc ih2 ?_;refine ak 3 [] rfl ?_;refine az ?_;refine AWp.sub (Sub.freeze (id := 72) rfl) (aF (rtC trw))
      ·have h5 : ¬ k = 5 := by simpa using hb5
       have c2 : ¬ k < 6 := by omega
       refine a8 (a8 (ag [] rfl ?_));refine aA rfl (fun hb6 => ?_) (fun hb6 => ?_)
       ·have h6 : k = 6 := by simpa using hb6
        refine aD (aA rfl (fun _ => ?_) (fun hb' => by rw [hb6] at hb'; cases hb'));obtain ⟨hf0, hl0⟩ := hkf (by omega);have ho := hg hf0;have hu : use f = 1 + 4 * use (f - 1) := by cases f with | zero => omega | succ f => rfl
        have ht := eF 2 l1;have iht := ih hf0 (cK 2 l1).2 (left - 1) (hl1.suf ht) (hf1.suf ht) (by omega) (by omega);have hty := y8 (left - 1) 2 l1 1 hl1 hf1 (by omega) (by omega);have hr : dB (gOf f) n k l1 (left - 1) = (.mk 5 0 (oneOf nmL (n / 14)) (cK 2 l1).1 [(gOf f (cK 2 l1).2 (left - 1)).1] [] [], (gOf f (cK 2 l1).2 (left - 1)).2) := by
         unfold dB;rw [if_neg c1, if_neg h2, if_neg h3, if_neg c2, if_pos (by omega)]
        rw [hr];refine a8 (aJ mixed ?_);refine ak 1 [] rfl ?_;refine kc hty ?_;refine ak 2 [] rfl ?_;refine az ?_;refine a8 (aJ mixed ?_);refine ak 2 [] rfl ?_;refine kc (sP (n / 14) (by unfold i64; omega)) ?_;refine ak 4 [] rfl ?_;refine kc iht ?_;refine ak 3 [] rfl ?_;refine az ?_;refine AWp.sub (Sub.freeze (id := 87) rfl) (aF (rtC trw))
       ·have h6 : ¬ k = 6 := by simpa using hb6
        refine ag [] rfl ?_;refine aA rfl (fun hb7 => ?_) (fun hb7 => ?_)
        ·have h7 : k = 7 := by simpa using hb7
         obtain ⟨hf0, hl0⟩ := hkf (by omega);have ho := hg hf0;have hu : use f = 1 + 4 * use (f - 1) := by cases f with | zero => omega | succ f => rfl
         have ht := eF 2 l1;have iht := ih hf0 (cK 2 l1).2 (left - 1) (hl1.suf ht) (hf1.suf ht) (by omega) (by omega);have hty := y8 (left - 1) 2 l1 1 hl1 hf1 (by omega) (by omega);have hr : dB (gOf f) n k l1 (left - 1) = (.mk 5 0 (oneOf nmL (n / 14)) (cK 2 l1).1 [(gOf f (cK 2 l1).2 (left - 1)).1] [] [], (gOf f (cK 2 l1).2 (left - 1)).2) := by
          unfold dB;rw [if_neg c1, if_neg h2, if_neg h3, if_neg c2, if_pos (by omega)]
         rw [hr];refine a8 (aJ mixed ?_);refine ak 1 [] rfl ?_;refine kc hty ?_;refine ak 2 [] rfl ?_;refine az ?_;refine a8 (aJ mixed ?_);refine ak 2 [] rfl ?_;refine kc (sP (n / 14) (by unfold i64; omega)) ?_;refine ak 4 [] rfl ?_;refine kc iht ?_;refine ak 3 [] rfl ?_;refine az ?_;refine AWp.sub (Sub.freeze (id := 87) rfl) (aF (rtC trw))
        ·have h7 : ¬ k = 7 := by simpa using hb7
         have c3 : ¬ k < 8 := by omega
         refine a8 (ag [] rfl ?_);refine aA rfl (fun hb8 => ?_) (fun hb8 => ?_)
         ·have h8 : k = 8 := by simpa using hb8
          obtain ⟨hf0, hl0⟩ := hkf (by omega);have ho := hg hf0;have hu : use f = 1 + 4 * use (f - 1) := by cases f with | zero => omega | succ f => rfl
          have ht := eF 2 l1;have iht := ih hf0 (cK 2 l1).2 (left - 1) (hl1.suf ht) (hf1.suf ht) (by omega) (by omega);have hty := y8 (left - 1) 2 l1 1 hl1 hf1 (by omega) (by omega);have hr : dB (gOf f) n k l1 (left - 1) = (.mk 6 0 [] (cK 2 l1).1 [(gOf f (cK 2 l1).2 (left - 1)).1] [] [], (gOf f (cK 2 l1).2 (left - 1)).2) := by
           unfold dB;rw [if_neg c1, if_neg h2, if_neg h3, if_neg c2, if_neg c3, if_pos h8]
          rw [hr];refine a8 (aJ mixed ?_);refine ak 1 [] rfl ?_;refine kc hty ?_;refine ak 2 [] rfl ?_;refine az ?_;refine a8 (aJ mixed ?_);refine ak 4 [] rfl ?_;refine kc iht ?_;refine ak 3 [] rfl ?_;refine az ?_;refine AWp.sub (Sub.freeze (id := 98) rfl) (aF (rtC trw))
         ·have h8 : ¬ k = 8 := by simpa using hb8
          refine a8 (ag [] rfl ?_);refine aA rfl (fun hb9 => ?_) (fun hb9 => ?_)
          ·have h9 : k = 9 := by simpa using hb9
           obtain ⟨hf0, hl0⟩ := hkf (by omega);have ho := hg hf0;have hu : use f = 1 + 4 * use (f - 1) := by cases f with | zero => omega | succ f => rfl
           have g1 := ho.suf l1 (left - 1);have g2 := ho.le l1 (left - 1);have g3 := ho.ge l1 (left - 1);have ih1 := ih hf0 l1 (left - 1) hl1 hf1 (by omega) (by omega);have ih2 := ih hf0 (gOf f l1 (left - 1)).2.1 (gOf f l1 (left - 1)).2.2 (hl1.suf g1) (hf1.suf g1) (by omega) (by omega);have hr : dB (gOf f) n k l1 (left - 1) = (.mk 7 0 (oneOf tK (n / 14)) zTy [(gOf f l1 (left - 1)).1] [] [], (gOf f l1 (left - 1)).2) := by
            unfold dB;rw [if_neg c1, if_neg h2, if_neg h3, if_neg c2, if_neg c3, if_neg h8, if_pos h9]
           rw [hr];refine a8 (aJ mixed ?_);refine ak 2 [] rfl ?_;refine kc (l6 (n / 14) (by unfold i64; omega)) ?_;refine ak 3 [] rfl ?_;refine kc ih1 ?_;refine ak 3 [] rfl ?_;refine az ?_;refine AWp.sub (Sub.freeze (id := 109) rfl) (aF (rtC trw))
          ·have h9 : ¬ k = 9 := by simpa using hb9
           refine a8 (ag [] rfl ?_);refine aA rfl (fun hb10 => ?_) (fun hb10 => ?_)
           ·have h10 : k = 10 := by simpa using hb10
            obtain ⟨hf0, hl0⟩ := hkf (by omega);have ho := hg hf0;have hu : use f = 1 + 4 * use (f - 1) := by cases f with | zero => omega | succ f => rfl
            have hnm := iX l1;have hr : dB (gOf f) n k l1 (left - 1) = (.mk 8 0 [] zTy [(gOf f (bS (gOf f) (b6 l1).1 (b6 l1).2 (left - 1) (b6 l1).1.length).2.1 (bS (gOf f) (b6 l1).1 (b6 l1).2 (left - 1) (b6 l1).1.length).2.2).1] (bS (gOf f) (b6 l1).1 (b6 l1).2 (left - 1) (b6 l1).1.length).1 [], (gOf f (bS (gOf f) (b6 l1).1 (b6 l1).2 (left - 1) (b6 l1).1.length).2.1 (bS (gOf f) (b6 l1).1 (b6 l1).2 (left - 1) (b6 l1).1.length).2.2).2) := by
             unfold dB;rw [if_neg c1, if_neg h2, if_neg h3, if_neg c2, if_neg c3, if_neg h8, if_neg h9, if_pos h10]
            rw [hr];refine a8 (aJ mixed ?_);refine ak 1 [] rfl ?_;refine kc (aAp (left - 1) l1 hl1 hf1) ?_;refine ak 1 [] rfl ?_;refine az ?_;have hl2 := hl1.suf (gK l1);have hf2 := hf1.suf (gK l1);generalize (b6 l1).1 = ns at hnm ⊢;generalize (b6 l1).2 = l2 at hl2 hf2 ⊢;refine a8 (ag [] rfl ?_);refine a8 (a8 (ag [] rfl ?_));refine AWp.sub (Sub.ownCell (x := 11) (k := 8) (id := 800) 46 15 rfl rfl rfl) ?_;have hB := l8 ho ns l2 (left - 1);generalize hBd : bS (gOf f) ns l2 (left - 1) = B at hB ⊢;refine aB (aL (fun i : Nat => mk [(0, .one (.vp 700 0)), (1, I .i64 dp), (4, .one (.vp 4 0)), (10, .one (.c (.sl 1 (ns.map bF)))), (11, .one (.vp 11 0)), (12, I .i64 i)] ((4, .var 38 [.c (.int .i64 0), .c (.int .i64 0), .c (.str []), .c (.int .i64 0), .c (.int .i64 0), .c (.str []), .c .nl, .c .nl, .c .nl, .c .nl]) :: (11, .var 38 [.c (.int .i64 8), .c (.int .i64 0), .c (.str []), .c (.int .i64 0), .c (.int .i64 0), .c (.str []), .c .nl, .c .nl, .hs 800 0 (B i).1.length (B i).1.length, .c .nl]) :: (800, .arr 46 15 (aP (B i).1) 0) :: mkO (B i).2.1 (B i).2.2)) (fun i => i ≤ ns.length) (fun i => ns.length - i) 0 (zero_le _) (by rw [← hBd]; exact .list (fun i => i) ⟨rfl, rfl, rfl, rfl, rfl, rfl, trivial⟩ ⟨⟨_, rfl, .var rfl⟩, ⟨_, rfl, .var rfl⟩, ⟨_, rfl, .arr⟩, ⟨_, rfl, .var rfl⟩, trivial⟩ rfl) ?_);intro i hi;obtain ⟨b1, b2, b3, b4⟩ := hB i;have hsz : (B i).1.length = (aP (B i).1).length := by rw [aU, length_map]
            have hbl : (aP (B i).1).length ≤ 3 := by omega
            have hm : (i : Int) * (use (f - 1) : Int) ≤ 3 * (use (f - 1) : Int) := Int.mul_le_mul_of_nonneg_right (by omega) (by omega);have hlB := hl2.suf b1;have hfB := hf2.suf b1;refine a8 (a8 (ag [] rfl ?_));refine aA rfl (fun hb => ?_) (fun hb => ?_)
            ·refine aD ?_;have hlt : i < ns.length := by simpa using hb
             obtain ⟨s, hs⟩ := aI hlt;have hs' := c6 bF hs;have hty := y8 (B i).2.2 2 (B i).2.1 1 hlB hfB (by omega) (by omega);have htS := eF 2 (B i).2.1;have ihB := ih hf0 (cK 2 (B i).2.1).2 (B i).2.2 (hlB.suf htS) (hfB.suf htS) (by omega) (by omega);have he : B (i + 1) = ((B i).1 ++ [.mk s (cK 2 (B i).2.1).1 (gOf f (cK 2 (B i).2.1).2 (B i).2.2).1], (gOf f (cK 2 (B i).2.1).2 (B i).2.2).2) := by
              rw [← hBd, bS, hs];rfl
             refine a8 (aB (a8 (aJ mixed ?_)));refine ak 1 [] rfl ?_;refine kc hty ?_;refine ak 2 [] rfl ?_;refine az ?_;refine aJ mixed ?_;refine ak 10 [(4, .row i (bF s))] rfl ?_;refine kc ihB ?_;refine ak 5 [] rfl ?_;refine az ?_;refine ag [] rfl ?_;refine ⟨i + 1, hlt, by dsimp only; omega, ?_⟩;dsimp only;rw [he];exact .list (fun i => i) ⟨rfl, rfl, rfl, rfl, rfl, rfl, trivial⟩ ⟨⟨_, rfl, .var rfl⟩, ⟨_, rfl, .var (by simp [R.renL, R.ren, aU])⟩, ⟨_, rfl, by rw [aU ((B i).1 ++ _), map_append, ← aU]; exact .arr⟩, ⟨_, rfl, .var rfl⟩, trivial⟩ rfl
            ·have hie : i = ns.length := by
              have : ¬ i < ns.length := by simpa using hb
              omega
             rw [← hie];have ihB := ih hf0 (B i).2.1 (B i).2.2 hlB hfB (by omega) (by omega);have hE : aP (B i).1 = ((aP (B i).1).drop 0).take (B i).1.length := by rw [drop_zero, hsz, take_length]
             refine aM (a8 (aJ mixed ?_));refine ak 3 [] rfl ?_;refine kc ihB ?_;refine ak 3 [] rfl ?_;refine az ?_;refine a8 (ag [] rfl ?_);refine AWp.sub (Sub.freeze (id := 800) rfl) (AWp.sub (Sub.freeze (id := 143) rfl) (aF ?_));exact ⟨.inr rfl, ⟨_, _, .cell rfl (tg rfl) rfl rfl rfl .nil, .cons (by (first | apply Go.AM.Conv.pa | apply Go.AM.Conv.agg); repeat (first | exact .nil | apply Go.AM.PureL.c .refl | apply Go.AM.PureL.c .nl | (apply Go.AM.PureL.hs; rfl; (first | rfl | assumption | simp); (first | exact hE | rfl)))) .nil, rfl⟩, ⟨⟨_, rfl, .var rfl⟩, trivial⟩, rfl⟩
           ·have h10 : ¬ k = 10 := by simpa using hb10
            refine a8 (ag [] rfl ?_);refine aA rfl (fun hb11 => ?_) (fun hb11 => ?_)
            ·have h11 : k = 11 := by simpa using hb11
             obtain ⟨hf0, hl0⟩ := hkf (by omega);have ho := hg hf0;have hu : use f = 1 + 4 * use (f - 1) := by cases f with | zero => omega | succ f => rfl
             have ht := eF 2 l1;have iht := ih hf0 (cK 2 l1).2 (left - 1) (hl1.suf ht) (hf1.suf ht) (by omega) (by omega);have hty := y8 (left - 1) 2 l1 1 hl1 hf1 (by omega) (by omega);have hr : dB (gOf f) n k l1 (left - 1) = (.mk 9 0 [] (cK 2 l1).1 [(gOf f (cK 2 l1).2 (left - 1)).1] [] (cQ (gOf f) n (gOf f (cK 2 l1).2 (left - 1)).2.1 (gOf f (cK 2 l1).2 (left - 1)).2.2 (n / 14 % 4).toNat).1, (cQ (gOf f) n (gOf f (cK 2 l1).2 (left - 1)).2.1 (gOf f (cK 2 l1).2 (left - 1)).2.2 (n / 14 % 4).toNat).2) := by
              unfold dB;rw [if_neg c1, if_neg h2, if_neg h3, if_neg c2, if_neg c3, if_neg h8, if_neg h9, if_neg h10, if_pos h11]
             rw [hr];refine a8 (aJ mixed ?_);refine ak 1 [] rfl ?_;refine kc hty ?_;refine ak 3 [] rfl ?_;refine az ?_;refine a8 (aJ mixed ?_);refine ak 3 [] rfl ?_;refine kc iht ?_;refine ak 3 [] rfl ?_;refine az ?_;have g1 := (ho.suf (cK 2 l1).2 (left - 1)).trans ht;have g2 := ho.le (cK 2 l1).2 (left - 1);have g3 := ho.ge (cK 2 l1).2 (left - 1);have hl2 := hl1.suf g1;have hf2 := hf1.suf g1;generalize gOf f (cK 2 l1).2 (left - 1) = c at g2 g3 hl2 hf2 ⊢;generalize (cK 2 l1).1 = t;refine a8 (a8 (ag [] rfl ?_));refine AWp.sub (Sub.freeze (id := 155) rfl) (AWp.sub (Sub.ownCell (x := 14) (k := 9) (id := 900) 65 14 rfl rfl rfl) ?_);have hA := nJ ho n c.2.1 c.2.2;generalize hAd : cQ (gOf f) n c.2.1 c.2.2 = A at hA ⊢;refine aB (aL (fun i : Nat => mk [(0, .one (.vp 700 0)), (1, I .i64 dp), (4, .one (.vp 4 0)), (5, I .i64 n), (14, .one (.vp 14 0)), (15, I .i64 i)] ((4, .var 38 [.c (.int .i64 0), .c (.int .i64 0), .c (.str []), .c (.int .i64 0), .c (.int .i64 0), .c (.str []), .c .nl, .c .nl, .c .nl, .c .nl]) :: (14, .var 38 [.c (.int .i64 9), .c (.int .i64 0), .c (.str []), .c (.int .i64 t.form), .c (.int .i64 t.n), .c (.str t.name), .c (.sl 4 (eV t)), .hs 155 0 1 1, .c .nl, .hs 900 0 (A i).1.length (A i).1.length]) :: (155, .arr 38 10 [aE c.1] 2) :: (900, .arr 65 14 (bH (A i).1) 0) :: mkO (A i).2.1 (A i).2.2)) (fun i => (i : Int) ≤ n / 14 % 4) (fun i => 4 - i) 0 (by simp; omega) (by rw [← hAd]; exact .list (fun i => i) ⟨rfl, rfl, rfl, rfl, rfl, rfl, trivial⟩ ⟨⟨_, rfl, .var rfl⟩, ⟨_, rfl, .var rfl⟩, ⟨_, rfl, .arr⟩, ⟨_, rfl, .arr⟩, ⟨_, rfl, .var rfl⟩, trivial⟩ rfl) ?_);intro i hi;obtain ⟨b1, b2, b3, b4⟩ := hA i;have hsz : (A i).1.length = (bH (A i).1).length := by rw [aV, length_map]
             have hbl : (bH (A i).1).length ≤ 3 := by omega
             have hm : (i : Int) * (use (f - 1) : Int) ≤ 3 * (use (f - 1) : Int) := Int.mul_le_mul_of_nonneg_right (by omega) (by omega);have hlA := hl2.suf b1;have hfA := hf2.suf b1;refine a8 (a8 (ag [] rfl ?_));refine aA rfl (fun hb => ?_) (fun hb => ?_)
             ·refine aD ?_;have hlt : (i : Int) < n / 14 % 4 := by simpa using hb
              have hm2 : (i : Int) * (use (f - 1) : Int) ≤ 2 * (use (f - 1) : Int) := Int.mul_le_mul_of_nonneg_right (by omega) (by omega);have hnames := aAp (A i).2.2 (A i).2.1 hlA hfA;have hnS := gK (A i).2.1;have ihA := ih hf0 (b6 (A i).2.1).2 (A i).2.2 (hlA.suf hnS) (hfA.suf hnS) (by omega) (by omega);have hi3 : i = 0 ∨ i = 1 ∨ i = 2 := by omega
              rcases hi3 with rfl | rfl | rfl
              ·-- 0
               have he : A (0 + 1) = ((A 0).1 ++ [.mk 1 0 (oneOf aC8 (n / 14 + ((0 : Nat) : Int))) (b6 (A 0).2.1).1 (gOf f (b6 (A 0).2.1).2 (A 0).2.2).1], (gOf f (b6 (A 0).2.1).2 (A 0).2.2).2) := by
                rw [← hAd, cQ];rfl
               refine a8 (aB (a8 (aJ mixed ?_)));refine ak 4 [] rfl ?_;refine kc (aDe (n / 14 + ((0 : Nat) : Int)) (by unfold i64; omega)) ?_;refine ak 1 [] rfl ?_;refine kc hnames ?_;refine ak 3 [] rfl ?_;refine az ?_;refine a8 (a8 (ag [] rfl ?_));refine aA rfl (fun hb => by simp at hb) (fun _ => ?_);refine aD ?_;refine a8 (a8 (ag [] rfl ?_));refine aA rfl (fun hb => by simp at hb) (fun _ => ?_);refine aD ?_;refine a8 (aJ mixed ?_);refine ak 3 [] rfl ?_;refine kc ihA ?_;refine ak 2 [] rfl ?_;refine az ?_;refine ag [] rfl ?_;refine ag [] rfl ?_;refine ⟨0 + 1, by omega, by dsimp only; omega, ?_⟩;dsimp only;rw [he];exact .list (fun i => i) ⟨rfl, rfl, rfl, rfl, rfl, rfl, trivial⟩ ⟨⟨_, rfl, .var rfl⟩, ⟨_, rfl, .var (by simp [R.renL, R.ren, aV])⟩, ⟨_, rfl, .arr⟩, ⟨_, rfl, by rw [aV ((A 0).1 ++ _), map_append, ← aV]; exact .arr⟩, ⟨_, rfl, .var rfl⟩, trivial⟩ rfl
              ·-- 1
               have he : A (1 + 1) = ((A 1).1 ++ [.mk 2 (n / 14) [] [] (gOf f (b6 (A 1).2.1).2 (A 1).2.2).1], (gOf f (b6 (A 1).2.1).2 (A 1).2.2).2) := by
                rw [← hAd, cQ];rfl
               refine a8 (aB (a8 (aJ mixed ?_)));refine ak 4 [] rfl ?_;refine kc (aDe (n / 14 + ((1 : Nat) : Int)) (by unfold i64; omega)) ?_;refine ak 1 [] rfl ?_;refine kc hnames ?_;refine ak 3 [] rfl ?_;refine az ?_;refine a8 (a8 (ag [] rfl ?_));refine aA rfl (fun _ => ?_) (fun hb => by simp at hb);refine ag [] rfl ?_;refine a8 (a8 (ag [] rfl ?_));refine aA rfl (fun hb => by simp at hb) (fun _ => ?_);refine aD ?_;refine a8 (aJ mixed ?_);refine ak 3 [] rfl ?_;refine kc ihA ?_;refine ak 2 [] rfl ?_;refine az ?_;refine ag [] rfl ?_;refine ag [] rfl ?_;refine ⟨1 + 1, by omega, by dsimp only; omega, ?_⟩;dsimp only;rw [he];exact .list (fun i => i) ⟨rfl, rfl, rfl, rfl, rfl, rfl, trivial⟩ ⟨⟨_, rfl, .var rfl⟩, ⟨_, rfl, .var (by simp [R.renL, R.ren, aV])⟩, ⟨_, rfl, .arr⟩, ⟨_, rfl, by rw [aV ((A 1).1 ++ _), map_append, ← aV]; exact .arr⟩, ⟨_, rfl, .var rfl⟩, trivial⟩ rfl
              ·-- 2
               have he : A (2 + 1) = ((A 2).1 ++ [.mk 3 0 [] [] (gOf f (b6 (A 2).2.1).2 (A 2).2.2).1], (gOf f (b6 (A 2).2.1).2 (A 2).2.2).2) := by
                rw [← hAd, cQ];rfl
               refine a8 (aB (a8 (aJ mixed ?_)));refine ak 4 [] rfl ?_;refine kc (aDe (n / 14 + ((2 : Nat) : Int)) (by unfold i64; omega)) ?_;refine ak 1 [] rfl ?_;refine kc hnames ?_;refine ak 3 [] rfl ?_;refine az ?_;refine a8 (a8 (ag [] rfl ?_));refine aA rfl (fun hb => by simp at hb) (fun _ => ?_);refine aD ?_;refine a8 (a8 (ag [] rfl ?_));refine aA rfl (fun _ => ?_) (fun hb => by simp at hb);refine ag [] rfl ?_;refine a8 (aJ mixed ?_);refine ak 3 [] rfl ?_;refine kc ihA ?_;refine ak 2 [] rfl ?_;refine az ?_;refine ag [] rfl ?_;refine ag [] rfl ?_;refine ⟨2 + 1, by omega, by dsimp only; omega, ?_⟩;dsimp only;rw [he];exact .list (fun i => i) ⟨rfl, rfl, rfl, rfl, rfl, rfl, trivial⟩ ⟨⟨_, rfl, .var rfl⟩, ⟨_, rfl, .var (by simp [R.renL, R.ren, aV])⟩, ⟨_, rfl, .arr⟩, ⟨_, rfl, by rw [aV ((A 2).1 ++ _), map_append, ← aV]; exact .arr⟩, ⟨_, rfl, .var rfl⟩, trivial⟩ rfl
             ·have hie : (n / 14 % 4).toNat = i := by
               have : ¬ (i : Int) < n / 14 % 4 := by simpa using hb
               omega
              rw [hie];have hE : bH (A i).1 = ((bH (A i).1).drop 0).take (A i).1.length := by rw [drop_zero, hsz, take_length]
              refine aM (a8 (ag [] rfl ?_));refine AWp.sub (Sub.freeze (id := 900) rfl) (aF ?_);exact ⟨.inr rfl, ⟨_, _, .cell rfl (tg rfl) rfl rfl rfl .nil, .cons (by (first | apply Go.AM.Conv.pa | apply Go.AM.Conv.agg); repeat (first | exact .nil | apply Go.AM.PureL.c .refl | apply Go.AM.PureL.c .nl | (apply Go.AM.PureL.hs; rfl; (first | rfl | assumption | simp); (first | exact hE | rfl)))) .nil, rfl⟩, ⟨⟨_, rfl, .var rfl⟩, trivial⟩, rfl⟩
            ·have h11 : ¬ k = 11 := by simpa using hb11
             refine a8 (ag [] rfl ?_);refine aA rfl (fun hb12 => ?_) (fun hb12 => ?_)
             ·have h12 : k = 12 := by simpa using hb12
              obtain ⟨hf0, hl0⟩ := hkf (by omega);have ho := hg hf0;have hu : use f = 1 + 4 * use (f - 1) := by cases f with | zero => omega | succ f => rfl
              have g1 := ho.suf l1 (left - 1);have g2 := ho.le l1 (left - 1);have g3 := ho.ge l1 (left - 1);have ih1 := ih hf0 l1 (left - 1) hl1 hf1 (by omega) (by omega);have ih2 := ih hf0 (gOf f l1 (left - 1)).2.1 (gOf f l1 (left - 1)).2.2 (hl1.suf g1) (hf1.suf g1) (by omega) (by omega);have hr : dB (gOf f) n k l1 (left - 1) = (.mk 10 0 (oneOf tU (n / 14)) zTy [(gOf f l1 (left - 1)).1, (gOf f (gOf f l1 (left - 1)).2.1 (gOf f l1 (left - 1)).2.2).1] [] [], (gOf f (gOf f l1 (left - 1)).2.1 (gOf f l1 (left - 1)).2.2).2) := by
               unfold dB;rw [if_neg c1, if_neg h2, if_neg h3, if_neg c2, if_neg c3, if_neg h8, if_neg h9, if_neg h10, if_neg h11, if_pos h12]
              rw [hr];refine a8 (aJ mixed ?_);refine ak 3 [] rfl ?_;refine kc ih1 ?_;refine ak 2 [] rfl ?_;refine az ?_;refine a8 (aJ mixed ?_);refine ak 2 [] rfl ?_;refine kc (aHu (n / 14) (by unfold i64; omega)) ?_;refine ak 4 [] rfl ?_;refine kc ih2 ?_;refine ak 3 [] rfl ?_;refine az ?_;refine AWp.sub (Sub.freeze (id := 206) rfl) (aF (rtC trw))
             ·have h12 : ¬ k = 12 := by simpa using hb12
              have hty := y8 (left - 1) 2 l1 1 hl1 hf1 (by omega) (by omega);have hr : dB (gOf f) n k l1 (left - 1) = (.mk 11 0 [] (cK 2 l1).1 [] [] [], (cK 2 l1).2, left - 1) := by
               unfold dB;rw [if_neg c1, if_neg h2, if_neg h3, if_neg c2, if_neg c3, if_neg h8, if_neg h9, if_neg h10, if_neg h11, if_neg h12]
              rw [hr];refine aD (a8 (aJ mixed ?_));refine ak 1 [] rfl ?_;refine kc hty ?_;refine ak 2 [] rfl ?_;refine az ?_;exact aF (rtC trw)
theorem aEj : ∀ f : Nat, f ≤ 6 → aBp (lQ f) (6 - (f : Int)) (use f)
 | 0, _ => nF 0 _ (by omega) (by omega) (fun h => by omega) (fun h => by omega)
 | f + 1, hf => by
  refine nF (f + 1) _ (by omega) (by omega) (fun _ => ?_) (fun _ => wI f);have := aEj f (by omega);rwa [show (6 : Int) - ((f + 1 : Nat) : Int) + 1 = 6 - (f : Int) by omega]
theorem aHv (l : List Int) (k : Nat) (hf : Fits l) (hk : k ≤ 1000) : bN Tryd.prog 31 [.one (.c (.sl 1 (l.map aAc))), I .i64 k] [] (.one (.c (.sl 1 ((l.take k).map aAc)))) [] := by
 unfold Fits at hf;refine cT (n := 14) tok Tryd.func31 rfl rfl rfl ?_;refine a8 (ag [] rfl ?_);refine a8 (ag [] rfl ?_);refine a8 (aJ mixed ?_);refine ak 6 [] rfl ?_;have hm : (if (k : Int) < (((l.map aAc).length : Nat) : Int) then (k : Int) else (((l.map aAc).length : Nat) : Int)) = ((min l.length k : Nat) : Int) := by
  rw [length_map];split <;> omega
 rw [hm];have ht : (l.map aAc).take (min l.length k) = (l.take k).map aAc := by
  rw [← map_take];congr 1;by_cases h : k ≤ l.length
  ·rw [Nat.min_eq_right h]
  ·rw [min_eq_left (by omega), take_of_length_le (le_refl _), take_of_length_le (by omega)]
 have hl : ((l.map aAc).take (min l.length k)).length ≤ 1000 := by rw [length_take]; omega
 refine akN 3 [] rfl ?_ (hc := ⟨by omega, by rw [length_map]; omega, by omega, trivial⟩);refine az ?_;refine AWp.sub (Sub.freeze (id := 13) rfl) (aF ?_);rw [← ht];exact ⟨.inr rfl, ⟨_, _, .tmp rfl .nil, .cons (.one (.hs rfl rfl (by rw [drop_zero, take_length]) .nil)) .nil, rfl⟩, trivial, rfl⟩
def eO (l : List Int) : Core := (lQ 6 (l.take 60) 30).1
theorem aEg (l : List Int) (hl : yN l) (hf : Fits l) : bN Tryd.prog 11 [.one (.c (.sl 1 (l.map aAc)))] [] (.pa (aE (eO l))) [] := by
 have hl' : yN (l.take 60) := fun x hx => hl x (mem_of_mem_take hx)
 have hf' : Fits (l.take 60) := by
  unfold Fits at *;rw [length_take];omega
 have hc := aEj 6 (by omega) (l.take 60) 30 hl' hf' (by decide) (by decide);refine cT (n := 10) tok Tryd.func11 rfl rfl rfl ?_;refine a8 (ag [] rfl ?_);refine a8 (aJ mixed ?_);refine ak 1 [] rfl ?_;refine kc (aHv l 60 hf (by omega)) ?_;refine ak 3 [(3, .id 700)] rfl ?_;refine az ?_;refine a8 (aJ mixed ?_);refine ak 1 [] rfl ?_;refine kc hc ?_;refine ak 1 [] rfl ?_;refine az ?_;refine aF ?_;exact ⟨.inr rfl, ⟨_, _, .cell rfl (tg rfl) rfl rfl rfl .nil, .cons .refl .nil, rfl⟩, trivial, rfl⟩
def eE : Core := .mk 0 0 [] zTy [] [] []
mutual
def c7 : Core → Core
 | .mk f n s _ ks bs al => if (f = 6 ∨ f = 7) ∧ 1 ≤ ks.length then (cJ ks).headD (.mk 0 0 [] zTy [] [] []) else .mk f n s zTy (cJ ks) (dA bs) (dO al)
def cJ : List Core → List Core
 | [] => []
 | c :: l => c7 c :: cJ l
def eK : Bind → Bind
 | .mk s _ c => .mk s zTy (c7 c)
def dA : List Bind → List Bind
 | [] => []
 | b :: l => eK b :: dA l
def n8 : Alt → Alt
 | .mk f n s vs c => .mk f n s vs (c7 c)
def dO : List Alt → List Alt
 | [] => []
 | a :: l => n8 a :: dO l
end
theorem jL : ∀ l : List Core, cJ l = l.map c7
 | [] => by simp [cJ]
 | c :: l => by rw [cJ, jL l]; rfl
theorem n7 : ∀ l : List Bind, dA l = l.map eK
 | [] => by simp [dA]
 | c :: l => by rw [dA, n7 l]; rfl
theorem jM : ∀ l : List Alt, dO l = l.map n8
 | [] => by simp [dO]
 | c :: l => by rw [dO, jM l]; rfl
mutual
def aG : Core → Nat
 | .mk _ _ s _ ks bs al => 1 + s.length + bA ks + bE bs + bC al
def bA : List Core → Nat
 | [] => 0
 | c :: l => aG c + bA l
def bsize : Bind → Nat
 | .mk s _ c => 1 + s.length + aG c
def bE : List Bind → Nat
 | [] => 0
 | b :: l => bsize b + bE l
def fT : Alt → Nat
 | .mk _ _ s vs c => 1 + s.length + (vs.map (fun v => 1 + v.length)).sum + aG c
def bC : List Alt → Nat
 | [] => 0
 | a :: l => fT a + bC l
end
theorem cO (c : Core) : 1 ≤ aG c := by cases c; rw [aG]; omega
theorem l4 : ∀ l : List Core, l.length ≤ bA l
 | [] => zero_le _
 | c :: l => by rw [bA, length_cons]; have := l4 l; have := cO c; omega
theorem l0 : ∀ {l : List Core} {c : Core}, c ∈ l → aG c ≤ bA l
 | d :: l, c, h => by
  rw [bA];rcases mem_cons.1 h with rfl | h
  ·omega
  ·have := l0 h; omega
theorem cC : ∀ l : List Bind, l.length ≤ bE l
 | [] => zero_le _
 | .mk s t c :: l => by rw [bE, bsize, length_cons]; have := cC l; omega
theorem oO : ∀ {l : List Bind} {c : Bind}, c ∈ l → bsize c ≤ bE l
 | d :: l, c, h => by
  rw [bE];rcases mem_cons.1 h with rfl | h
  ·omega
  ·have := oO h; omega
theorem l9 : ∀ l : List Alt, l.length ≤ bC l
 | [] => zero_le _
 | .mk f n s vs c :: l => by rw [bC, fT, length_cons]; have := l9 l; omega
theorem gN : ∀ {l : List Alt} {c : Alt}, c ∈ l → fT c ≤ bC l
 | d :: l, c, h => by
  rw [bC];rcases mem_cons.1 h with rfl | h
  ·omega
  ·have := gN h; omega
def kF (c : Core) : Prop := bN Tryd.prog 10 [.pa (aE c)] [] (.pa (aE (c7 c))) []
theorem cB {l : List Bind} {k : Nat} {x : Bind} (h : l[k]? = some x) : (aP l)[k]? = some (aK x) := by rw [aU]; exact c6 aK h
theorem cU {l : List Core} {k : Nat} {x : Core} (h : l[k]? = some x) : (bB l)[k]? = some (aE x) := by rw [b9]; exact c6 aE h
theorem cV {l : List Alt} {k : Nat} {x : Alt} (h : l[k]? = some x) : (bH l)[k]? = some (cL x) := by rw [aV]; exact c6 cL h
theorem bG {α : Type} {l : List α} {k : Nat} {x : α} (h : l[k]? = some x) : l.take (k + 1) = l.take k ++ [x] := by rw [List.take_add_one, h]; rfl
theorem aDd (l : List Bind) (hl : l.length ≤ 1000000) (ih : ∀ b ∈ l, kF b.body) : bN Tryd.prog 30 [.one (.c (.sl 15 (aP l)))] [] (.one (.c (.sl 15 (aP (dA l))))) [] := by
 refine cT (n := 27) tok Tryd.func30 rfl rfl rfl ?_;refine a8 (ag [] rfl ?_);refine a8 (ag [] rfl ?_);refine a8 (a8 (ag [] rfl ?_));have hle : (aP l).length = l.length := by rw [aU, length_map]
 refine AWp.sub (Sub.own (t := 3) (id := 500) 46 15 rfl rfl) ?_;refine aB (aL (fun i : Nat => mk [(0, .one (.c (.sl 15 (aP l)))), (3, .one (.hs 500 0 ((l.take i).map eK).length ((l.take i).map eK).length)), (4, I .i64 i)] [(500, .arr 46 15 (aP ((l.take i).map eK)) 0)]) (fun i => i ≤ l.length) (fun i => l.length - i) 0 (zero_le _) (.list (fun i => i) ⟨rfl, rfl, rfl, trivial⟩ ⟨⟨_, rfl, .arr⟩, trivial⟩ rfl) ?_);intro i hi;have hsz : ((l.take i).map eK).length = (aP ((l.take i).map eK)).length := by rw [aU]; simp
 have hbl : (aP ((l.take i).map eK)).length ≤ 1000000 := by rw [← hsz, length_map, length_take]; omega
 refine a8 (a8 (ag [] rfl ?_));refine aA rfl (fun hb => ?_) (fun hb => ?_)
 ·refine aD ?_;have hlt : i < l.length := by rw [← hle]; simpa using hb
  obtain ⟨b, hbi⟩ := aI hlt;have hbi' := cB hbi;have he : (l.take (i + 1)).map eK = (l.take i).map eK ++ [eK b] := by rw [bG hbi, map_append]; rfl
  refine a8 (aB (aJ mixed ?_));refine ak 11 [(3, .row i (aK b)), (8, .row i (aK b))] rfl ?_;refine kc (ih b (List.mem_of_getElem? hbi)) ?_;refine ak 4 [] rfl ?_;refine az ?_;refine ag [] rfl ?_;refine ⟨i + 1, hlt, by dsimp only; omega, ?_⟩;dsimp only;rw [he];obtain ⟨s, t, c⟩ := b;refine .list (fun i => i) ⟨rfl, ?_, rfl, trivial⟩ ⟨⟨_, rfl, by rw [aU ((l.take i).map eK ++ _), map_append, ← aU]; exact .arr⟩, trivial⟩ rfl;show some (V.one (R.hs 500 0 _ _)) = some (V.one (R.hs 500 0 _ _));rw [length_append, ← hsz];rfl
 ·have hge : i = l.length := by
   have : ¬ i < l.length := by rw [← hle]; simpa using hb
   omega
  have hE : aP ((l.take i).map eK) = ((aP ((l.take i).map eK)).drop 0).take ((l.take i).map eK).length := by rw [drop_zero, hsz, take_length]
  refine aM (a8 (ag [] rfl ?_));refine AWp.sub (Sub.freeze (id := 500) rfl) (aF ?_);have hr : dA l = (l.take i).map eK := by rw [hge, take_length, n7]
  rw [hr];exact ⟨.inr rfl, ⟨_, _, .tmp rfl .nil, .cons (.one (.hs rfl hsz hE .nil)) .nil, rfl⟩, trivial, rfl⟩
def hY : List R := [.c (.int .i64 0), .c (.int .i64 0), .c (.str []), .c (.int .i64 0), .c (.int .i64 0), .c (.str []), .c .nl, .c .nl, .c .nl, .c .nl]
def bT (c : Core) : List R := (aE c).map R.c
theorem gP {f n : Int} {s : Str} {t : Ty} {ks : List Core} {bs : List Bind} {al : List Alt} : (∀ x ∈ ks, aG x < aG (.mk f n s t ks bs al)) ∧ (∀ x ∈ bs, aG x.body < aG (.mk f n s t ks bs al)) ∧ (∀ x ∈ al, aG x.body < aG (.mk f n s t ks bs al)) ∧
  ks.length < aG (.mk f n s t ks bs al) ∧ bs.length < aG (.mk f n s t ks bs al) ∧ al.length < aG (.mk f n s t ks bs al) := by
 rw [aG];have hkl := l4 ks;have hbl := cC bs;have hal := l9 al;refine ⟨fun x hx => ?_, fun x hx => ?_, fun x hx => ?_, by omega, by omega, by omega⟩
 ·have := l0 hx; omega
 ·have := oO hx;obtain ⟨s', t', c'⟩ := x;rw [bsize] at this;show aG c' < _;omega
 ·have := gN hx;obtain ⟨f', n', s', v', c'⟩ := x;rw [fT] at this;show aG c' < _;omega
theorem mF {α β : Type} (f : α → β) {l : List α} {i : Nat} {x : α} (h : l[i]? = some x) : (l.take i).map f ++ [f x] = (l.take (i + 1)).map f := by rw [bG h, map_append]; rfl
theorem zZ {c : Core} (h : c.form = 6 ∨ c.form = 7) : few c = decide (c.kids.length = 0) := by
 unfold few;rw [if_neg (by omega)];have : decide (c.form = 5 ∨ c.form = 6 ∨ c.form = 7 ∨ c.form = 8 ∨ c.form = 9) = true := by
  rw [decide_eq_true_eq]; omega
 rw [this, Bool.true_and];congr 1;rw [eq_iff_iff];omega
theorem sQ (c : Core) (hc : aG c ≤ 1000000) (ih : ∀ x, aG x < aG c → kF x) : kF c := by
 have hfew := aI8 c;obtain ⟨f, n, s, t, ks, bs, al⟩ := c;obtain ⟨ihk, ihb, iha, hkl, hbl, hal⟩ := @gP f n s t ks bs al;have hB := aDd bs (by omega) fun b hb => ih _ (ihb b hb)
 refine cT (n := 77) tok Tryd.func10 rfl rfl rfl ?_;refine a8 (ag [] rfl ?_);refine a8 (a8 (agF 4 [(10, .pc (B (few (.mk f n s t ks bs al))))] rfl rfl rfl ?_));refine aA rfl (fun hb => ?_) (fun hb => ?_)
 ·have hcond : (f = 6 ∨ f = 7) ∧ 1 ≤ ks.length := by
   by_cases h6 : f = 6 ∨ f = 7
   ·refine ⟨h6, ?_⟩;rw [zZ (c := .mk f n s t ks bs al) h6] at hb;rcases h6 with rfl | rfl <;> simp [Core.form, Core.kids] at hb <;> exact List.length_pos_iff.2 hb
   ·exfalso;have : ¬ f = 6 ∧ ¬ f = 7 := by omega
    simp [Core.form, this.1, this.2] at hb
  cases ks with
  | nil => simp at hcond
  | cons k0 ks =>
   have hk := ih k0 (ihk k0 (by simp));have hr : c7 (.mk f n s t (k0 :: ks) bs al) = c7 k0 := by
    rw [c7, if_pos hcond, cJ];rfl
   rw [hr];refine a8 (ag [(2, .row 0 (aE k0)), (4, .pc (.pa (aE (c7 k0))))] rfl ?_ (hc := ⟨⟨by kernel_rfl, hk⟩, rfl, rfl, trivial⟩));exact aF (rtC trw)
 ·have hcond : ¬ ((f = 6 ∨ f = 7) ∧ 1 ≤ ks.length) := by
   rintro ⟨h6, h1⟩;rw [zZ (c := .mk f n s t ks bs al) h6] at hb;rcases h6 with rfl | rfl <;> simp [Core.form, Core.kids] at hb <;> simp [hb] at h1
  rw [show c7 (.mk f n s t ks bs al) = .mk f n s zTy (cJ ks) (dA bs) (dO al) by rw [c7, if_neg hcond]];refine aD ?_;refine a8 (ag [] rfl ?_);refine a8 (a8 (ag [] rfl ?_));refine AWp.sub (Sub.ownCell (x := 3) (k := 7) (id := 500) 38 10 rfl rfl rfl) ?_;have hkE : (bB ks).length = ks.length := by rw [b9, length_map]
  refine aB ?_;refine aL (fun i : Nat => mk [(1, .one (.vp 1 0)), (2, .one (.vp 2 0)), (3, .one (.vp 3 0)), (4, I .i64 i)] [(1, .var 38 (bT (.mk f n s t ks bs al))), (2, .var 38 hY), (3, .var 38 [.c (.int .i64 f), .c (.int .i64 n), .c (.str s), .c (.int .i64 0), .c (.int .i64 0), .c (.str []), .c .nl, .hs 500 0 i i, .c .nl, .c .nl]), (500, .arr 38 10 ((ks.take i).map fun x => aE (c7 x)) 0)]) (fun i => i ≤ ks.length) (fun i => ks.length - i) 0 (zero_le _) sl ?_;intro i hi;refine a8 (a8 (ag [] rfl ?_));refine aA rfl (fun hb => ?_) (fun hb => ?_)
  ·have hlt : i < ks.length := ltD hb hkE;obtain ⟨k, hki⟩ := aI hlt;have hki' := cU hki;have he := ih k (ihk k (List.mem_of_getElem? hki));refine aD ?_;refine a8 (aB ?_);refine ag [(5, .row i (aE k)), (7, .pc (.pa (aE (c7 k))))] rfl ?_;refine ag [] rfl ?_;have hrows := mF (fun x => aE (c7 x)) hki;exact ⟨i + 1, hlt, by dsimp only; omega, sl⟩
  ·have hge : i = ks.length := geD hb hkE hi;subst hge;have hKs : (ks.take ks.length).map (fun x => aE (c7 x)) = bB (cJ ks) := by rw [take_length, b9, jL, map_map]; rfl
   rw [hKs];refine aM ?_;refine AWp.sub (Sub.freeze (id := 500) rfl) ?_;refine a8 (ag [(2, .pc (.one (.c (.sl 15 (aP (dA bs))))))] rfl ?_);refine a8 (a8 (ag [] rfl ?_));refine AWp.sub (Sub.ownCell (x := 3) (k := 9) (id := 501) 65 14 rfl rfl rfl) ?_;have hkA : (bH al).length = al.length := by rw [aV, length_map]
   refine aB ?_;refine aL (fun i : Nat => mk [(1, .one (.vp 1 0)), (2, .one (.vp 2 0)), (3, .one (.vp 3 0)), (5, I .i64 i)] [(1, .var 38 (bT (.mk f n s t ks bs al))), (2, .var 38 hY), (3, .var 38 [.c (.int .i64 f), .c (.int .i64 n), .c (.str s), .c (.int .i64 0), .c (.int .i64 0), .c (.str []), .c .nl, .hs 500 0 ks.length ks.length, .c (.sl 15 (aP (dA bs))), .hs 501 0 i i]), (500, .arr 38 10 (bB (cJ ks)) 2), (501, .arr 65 14 ((al.take i).map fun x => cL (n8 x)) 0)]) (fun i => i ≤ al.length) (fun i => al.length - i) 0 (zero_le _) sl ?_;intro j hj;refine a8 (a8 (ag [] rfl ?_));refine aA rfl (fun hb => ?_) (fun hb => ?_)
   ·have hlt : j < al.length := ltD hb hkA;obtain ⟨a, hai⟩ := aI hlt;have hai' := cV hai;have he := ih a.body (iha a (List.mem_of_getElem? hai));have hrows := mF (fun x => cL (n8 x)) hai;obtain ⟨f', n', s', v', c'⟩ := a;refine aD ?_;refine a8 (aB ?_);refine a8 (ag [(3, .row j (cL (.mk f' n' s' v' c')))] rfl ?_);refine a8 (ag [(2, .pc (.pa (aE (c7 c'))))] rfl ?_);refine ag [] rfl ?_;refine ag [] rfl ?_;exact ⟨j + 1, hlt, by dsimp only; omega, sl⟩
   ·have hge := geD hb hkA hj;subst hge;have hAs : (al.take al.length).map (fun x => cL (n8 x)) = bH (dO al) := by rw [take_length, aV, jM, map_map]; rfl
    rw [hAs];refine aM ?_;refine a8 (ag [] rfl ?_);refine AWp.sub (Sub.freeze (id := 501) rfl) ?_;have h1 : ks.length = (bB (cJ ks)).length := by rw [b9, jL, map_map, length_map]
    have h2 : al.length = (bH (dO al)).length := by rw [aV, jM, map_map, length_map]
    exact aF (rtC trw)
theorem uM : ∀ (n : Nat) (c : Core), aG c ≤ n → aG c ≤ 1000000 → kF c
 | 0, c, h, _ => by have := cO c; omega
 | n + 1, c, h, hm => sQ c hm fun x hx => uM n x (by omega) (by omega)
def ext (G : Str → Bool) (l : List Str) : Str → Bool := fun s => G s || decide (s ∈ l)
theorem ext_nil (G : Str → Bool) : ext G [] = G := by funext s; simp [ext]
theorem pT (G : Str → Bool) (a b : List Str) : ext (ext G a) b = ext G (a ++ b) := by funext s; simp [ext, Bool.or_assoc]
def gvs (f : Int) (s : Str) (bs : List Bind) : List Str := (if f = 5 then [s] else []) ++ bs.map Bind.name
mutual
def bZ (A : Str → Bool) : Core → (Str → Bool) → List Str → List Str
 | .mk f _ s _ ks bs al, G, out =>
  if f = 1 then (if A s && !G s && !decide (s ∈ out) then out ++ [s] else out)
  else dV A al (ext G (gvs f s bs)) (dN A ks (ext G (gvs f s bs)) (dG A bs (ext G (gvs f s bs)) out))
def dN (A : Str → Bool) : List Core → (Str → Bool) → List Str → List Str
 | [], _, out => out
 | c :: l, G, out => dN A l G (bZ A c G out)
def dG (A : Str → Bool) : List Bind → (Str → Bool) → List Str → List Str
 | [], _, out => out
 | .mk _ _ c :: l, G, out => dG A l G (bZ A c G out)
def dV (A : Str → Bool) : List Alt → (Str → Bool) → List Str → List Str
 | [], _, out => out
 | .mk _ _ _ vs c :: l, G, out => dV A l G (bZ A c (ext G vs) out)
end
theorem gW (A : Str → Bool) : ∀ (l : List Core) (G : Str → Bool) (out : List Str), dN A l G out = l.foldl (fun o c => bZ A c G o) out
 | [], _, _ => by rw [dN]; rfl
 | c :: l, G, out => by rw [dN, gW A l]; rfl
theorem gX (A : Str → Bool) : ∀ (l : List Bind) (G : Str → Bool) (out : List Str), dG A l G out = l.foldl (fun o c => bZ A c.body G o) out
 | [], _, _ => by rw [dG]; rfl
 | .mk _ _ c :: l, G, out => by rw [dG, gX A l]; rfl
theorem gY (A : Str → Bool) : ∀ (l : List Alt) (G : Str → Bool) (out : List Str), dV A l G out = l.foldl (fun o c => bZ A c.body (ext G c.vars) o) out
 | [], _, _ => by rw [dV]; rfl
 | .mk _ _ _ _ c :: l, G, out => by rw [dV, gY A l]; rfl
mutual
def bK : Core → (Str → Bool) → Bool
 | .mk f _ s t ks bs al, G =>
  if f = 5 ∨ f = 7 ∨ f = 6 ∨ t.form ≠ 0 then false
  else if f = 1 then G s
  else oH bs (ext G (gvs f s bs)) && (oG ks (ext G (gvs f s bs)) && oI al (ext G (gvs f s bs)))
def oG : List Core → (Str → Bool) → Bool
 | [], _ => true
 | c :: l, G => bK c G && oG l G
def oH : List Bind → (Str → Bool) → Bool
 | [], _ => true
 | .mk _ t c :: l, G => (bK c G && decide (t.form = 0)) && oH l G
def oI : List Alt → (Str → Bool) → Bool
 | [], _ => true
 | .mk _ _ _ vs c :: l, G => bK c (ext G vs) && oI l G
end
theorem kW : ∀ (l : List Core) (G : Str → Bool), oG l G = l.all fun c => bK c G
 | [], _ => by rw [oG]; rfl
 | c :: l, G => by rw [oG, kW l]; rfl
theorem kX : ∀ (l : List Bind) (G : Str → Bool), oH l G = l.all fun c => bK c.body G && decide (c.ty.form = 0)
 | [], _ => by rw [oH]; rfl
 | .mk _ _ c :: l, G => by rw [oH, kX l]; rfl
theorem kY : ∀ (l : List Alt) (G : Str → Bool), oI l G = l.all fun c => bK c.body (ext G c.vars)
 | [], _ => by rw [oI]; rfl
 | .mk _ _ _ _ c :: l, G => by rw [oI, kY l]; rfl
def digits : Nat → Nat → Str
 | 0, _ => []
 | f + 1, n => if n < 10 then [UInt8.ofNat (48 + n)] else digits f (n / 10) ++ [UInt8.ofNat (48 + n % 10)]
def dec (n : Nat) : Str := digits 20 n
def eR : Nat → List Str → List Str
 | _, [] => []
 | i, s :: l => (if s ∈ l then s ++ [64, 112] ++ dec i else s) :: eR (i + 1) l
def aX (l : List Str) : List Str := eR 0 l
structure Sup where
 name : Str
 params : List Str
 body : Core
def aY (x : Sup) : List C := [.str x.name, .sl 1 (x.params.map bF)] ++ aE x.body
def setBody : List Sup → Nat → Core → List Sup
 | [], _, _ => []
 | x :: l, 0, c => { x with body := c } :: l
 | x :: l, k + 1, c => x :: setBody l k c
def dR (s : Str) : Core := .mk 1 0 s zTy [] [] []
def tG (f a : Core) : Core := .mk 4 0 [] zTy [f, a] [] []
def eI (c : Core) : List Str → Core
 | [] => c
 | s :: l => eI (tG c (dR s)) l
def cX (of : Str) (k : Nat) : Str := of ++ [64, 102] ++ dec (k + 1)
mutual
def aW : Core → List Str
 | .mk f _ s _ ks _ _ => if f = 5 then s :: cM ks else []
def cM : List Core → List Str
 | [] => []
 | c :: _ => aW c
end
mutual
def bD (of : Str) : Bool → Core → (Str → Bool) → List Sup → Core × List Sup
 | ch, .mk f n s t ks bs al, A, made =>
  if f = 5 then
   if ch then jH of ks A made
   else
    let free := bZ A (.mk f n s t ks bs al) (fun _ => false) []
    let all := free ++ (s :: cM ks)
    let r := jH of ks (fun x => decide (x ∈ all)) (made ++ [⟨cX of made.length, aX all, eE⟩])
    (eI (dR (cX of made.length)) free, setBody r.2 made.length r.1)
  else
   let rb := bM of bs (ext A (gvs f s bs)) made
   let rk := bX of ks (ext A (gvs f s bs)) rb.2
   let ra := c0 of al (ext A (gvs f s bs)) rk.2
   (.mk f n s t rk.1 rb.1 ra.1, ra.2)
def jH (of : Str) : List Core → (Str → Bool) → List Sup → Core × List Sup
 | [], _, made => (eE, made)
 | c :: _, A, made => bD of true c A made
def bX (of : Str) : List Core → (Str → Bool) → List Sup → List Core × List Sup
 | [], _, made => ([], made)
 | c :: l, A, made =>
  let r := bD of false c A made
  let q := bX of l A r.2
  (r.1 :: q.1, q.2)
def bM (of : Str) : List Bind → (Str → Bool) → List Sup → List Bind × List Sup
 | [], _, made => ([], made)
 | .mk s t c :: l, A, made =>
  let r := bD of false c A made
  let q := bM of l A r.2
  (.mk s t r.1 :: q.1, q.2)
def c0 (of : Str) : List Alt → (Str → Bool) → List Sup → List Alt × List Sup
 | [], _, made => ([], made)
 | .mk f n s vs c :: l, A, made =>
  let r := bD of false c (ext A vs) made
  let q := c0 of l A r.2
  (.mk f n s vs r.1 :: q.1, q.2)
end
def tX (b : Bind) : List Sup :=
 let r := bD b.name true b.body (fun x => decide (x ∈ aW b.body)) []
 ⟨b.name, aX (aW b.body), r.1⟩ :: r.2
def fC (l : List Bind) : List Sup := l.flatMap tX
def cN : List Str → Bool
 | [] => true
 | s :: l => !decide (s ∈ l) && cN l
def oM (l : List Sup) : Bool := cN (l.map (·.name)) && l.all fun x => cN x.params && bK x.body (ext (fun s => decide (s ∈ l.map (·.name))) x.params)
mutual
def clR : Core → (Str → Bool) → Bool
 | .mk f _ s _ ks bs al, G => if f = 1 then G s else aBy bs (ext G (gvs f s bs)) && (aAk ks (ext G (gvs f s bs)) && aBz al (ext G (gvs f s bs)))
def aAk : List Core → (Str → Bool) → Bool
 | [], _ => true
 | c :: l, G => clR c G && aAk l G
def aBy : List Bind → (Str → Bool) → Bool
 | [], _ => true
 | .mk _ _ c :: l, G => clR c G && aBy l G
def aBz : List Alt → (Str → Bool) → Bool
 | [], _ => true
 | .mk _ _ _ vs c :: l, G => clR c (ext G vs) && aBz l G
end
def Le (G H : Str → Bool) : Prop := ∀ s, G s = true → H s = true
theorem Le.ext {G H : Str → Bool} (h : Le G H) (l : List Str) : Le (ext G l) (ext H l) := by
 intro s hs;simp only [YtlegeikmepnmcaaDoor.ext, Bool.or_eq_true] at hs ⊢;exact hs.imp (h s) id
mutual
theorem kA : ∀ (c : Core) {G H : Str → Bool}, Le G H → clR c G = true → clR c H = true
 | .mk f _ s _ ks bs al, G, H, h, k => by
  rw [clR] at k ⊢;split at k
  ·rename_i hf; rw [if_pos hf]; exact h _ k
  ·rename_i hf;rw [if_neg hf];simp only [Bool.and_eq_true] at k ⊢;exact ⟨sI bs (h.ext _) k.1, sH ks (h.ext _) k.2.1, sJ al (h.ext _) k.2.2⟩
theorem sH : ∀ (l : List Core) {G H : Str → Bool}, Le G H → aAk l G = true → aAk l H = true
 | [], _, _, _, _ => by rw [aAk]
 | c :: l, G, H, h, k => by
  rw [aAk, Bool.and_eq_true] at k ⊢;exact ⟨kA c h k.1, sH l h k.2⟩
theorem sI : ∀ (l : List Bind) {G H : Str → Bool}, Le G H → aBy l G = true → aBy l H = true
 | [], _, _, _, _ => by rw [aBy]
 | .mk _ _ c :: l, G, H, h, k => by
  rw [aBy, Bool.and_eq_true] at k ⊢;exact ⟨kA c h k.1, sI l h k.2⟩
theorem sJ : ∀ (l : List Alt) {G H : Str → Bool}, Le G H → aBz l G = true → aBz l H = true
 | [], _, _, _, _ => by rw [aBz]
 | .mk _ _ _ vs c :: l, G, H, h, k => by
  rw [aBz, Bool.and_eq_true] at k ⊢;exact ⟨kA c (h.ext vs) k.1, sJ l h k.2⟩
end
def InA (A : Str → Bool) (out : List Str) : Prop := ∀ s ∈ out, A s = true
mutual
theorem iZ (A : Str → Bool) : ∀ (c : Core) (G : Str → Bool) (out : List Str), InA A out → InA A (bZ A c G out)
 | .mk f _ x _ ks bs al, G, out, h => by
  rw [bZ];split
  ·split
   ·rename_i hc;intro s hs;rcases mem_append.1 hs with hs | hs
    ·exact h s hs
    ·simp only [mem_singleton] at hs;subst hs;simp only [Bool.and_eq_true] at hc;exact hc.1.1
   ·exact h
  ·exact s9 A al _ _ (rZ A ks _ _ (s8 A bs _ _ h))
theorem rZ (A : Str → Bool) : ∀ (l : List Core) (G : Str → Bool) (out : List Str), InA A out → InA A (dN A l G out)
 | [], _, _, h => by rw [dN]; exact h
 | c :: l, G, out, h => by rw [dN]; exact rZ A l _ _ (iZ A c _ _ h)
theorem s8 (A : Str → Bool) : ∀ (l : List Bind) (G : Str → Bool) (out : List Str), InA A out → InA A (dG A l G out)
 | [], _, _, h => by rw [dG]; exact h
 | .mk _ _ c :: l, G, out, h => by rw [dG]; exact s8 A l _ _ (iZ A c _ _ h)
theorem s9 (A : Str → Bool) : ∀ (l : List Alt) (G : Str → Bool) (out : List Str), InA A out → InA A (dV A l G out)
 | [], _, _, h => by rw [dV]; exact h
 | .mk _ _ _ vs c :: l, G, out, h => by rw [dV]; exact s9 A l _ _ (iZ A c _ _ h)
end
mutual
def bJ : Core → Core
 | .mk f n s t ks bs al => if f = 5 then l5 ks else .mk f n s t ks bs al
def l5 : List Core → Core
 | [] => eE
 | c :: _ => bJ c
end
theorem jU : ∀ l : List Str, cN l = true ↔ l.Nodup
 | [] => by simp [cN]
 | s :: l => by simp [cN, jU l]
theorem eP (f n : Nat) : digits (f + 1) n = if n < 10 then [UInt8.ofNat (48 + n)] else digits f (n / 10) ++ [UInt8.ofNat (48 + n % 10)] := rfl
mutual
theorem iL (A : Str → Bool) : ∀ (c : Core) (G : Str → Bool) (out : List Str), (bZ A c G out).length ≤ out.length + aG c
 | .mk f _ x _ ks bs al, G, out => by
  rw [bZ, aG];split
  ·split
   ·simp; omega
   ·omega
  ·have h1 := kU A bs (ext G (gvs f x bs)) out;have h2 := kT A ks (ext G (gvs f x bs)) (dG A bs (ext G (gvs f x bs)) out);have h3 := kV A al (ext G (gvs f x bs)) (dN A ks (ext G (gvs f x bs)) (dG A bs (ext G (gvs f x bs)) out));omega
theorem kT (A : Str → Bool) : ∀ (l : List Core) (G : Str → Bool) (out : List Str), (dN A l G out).length ≤ out.length + bA l
 | [], _, out => by rw [dN]; omega
 | c :: l, G, out => by rw [dN, bA]; have := kT A l G (bZ A c G out); have := iL A c G out; omega
theorem kU (A : Str → Bool) : ∀ (l : List Bind) (G : Str → Bool) (out : List Str), (dG A l G out).length ≤ out.length + bE l
 | [], _, out => by rw [dG]; omega
 | .mk _ _ c :: l, G, out => by rw [dG, bE, bsize]; have := kU A l G (bZ A c G out); have := iL A c G out; omega
theorem kV (A : Str → Bool) : ∀ (l : List Alt) (G : Str → Bool) (out : List Str), (dV A l G out).length ≤ out.length + bC l
 | [], _, out => by rw [dV]; omega
 | .mk _ _ _ vs c :: l, G, out => by rw [dV, bC, fT]; have := kV A l G (bZ A c (ext G vs) out); have := iL A c (ext G vs) out; omega
end
theorem eN (c : Core) : ∀ (l : List Sup) (k : Nat), (setBody l k c).length = l.length
 | [], _ => rfl
 | _ :: _, 0 => rfl
 | _ :: l, k + 1 => by simp [setBody, eN c l k]
mutual
def fR : Core → (Str → Bool) → List Str → List Str
 | .mk f _ s _ ks bs al, G, out =>
  if f = 1 then (if !G s && !decide (s ∈ out) then out ++ [s] else out)
  else fRa al (ext G (gvs f s bs)) (fRb bs (ext G (gvs f s bs)) (fRk ks (ext G (gvs f s bs)) out))
def fRk : List Core → (Str → Bool) → List Str → List Str
 | [], _, out => out
 | c :: l, G, out => fRk l G (fR c G out)
def fRb : List Bind → (Str → Bool) → List Str → List Str
 | [], _, out => out
 | .mk _ _ c :: l, G, out => fRb l G (fR c G out)
def fRa : List Alt → (Str → Bool) → List Str → List Str
 | [], _, out => out
 | .mk _ _ _ vs c :: l, G, out => fRa l G (fR c (ext G vs) out)
end
theorem pP : ∀ (l : List Core) (G : Str → Bool) (out : List Str), fRk l G out = l.foldl (fun o c => fR c G o) out
 | [], _, _ => by rw [fRk]; rfl
 | c :: l, G, out => by rw [fRk, pP l]; rfl
theorem pR : ∀ (l : List Bind) (G : Str → Bool) (out : List Str), fRb l G out = l.foldl (fun o c => fR c.body G o) out
 | [], _, _ => by rw [fRb]; rfl
 | .mk _ _ c :: l, G, out => by rw [fRb, pR l]; rfl
theorem pS : ∀ (l : List Alt) (G : Str → Bool) (out : List Str), fRa l G out = l.foldl (fun o c => fR c.body (ext G c.vars) o) out
 | [], _, _ => by rw [fRa]; rfl
 | .mk _ _ _ _ c :: l, G, out => by rw [fRa, pS l]; rfl
theorem fO {α β : Type} (f : β → α → β) (b : β) {l : List α} {i : Nat} {x : α} (h : l[i]? = some x) : (l.take (i + 1)).foldl f b = f ((l.take i).foldl f b) x := by
 rw [bG h, List.foldl_append]; rfl
mutual
theorem aAb : ∀ (c : Core) (G : Str → Bool) (out : List Str), (fR c G out).length ≤ out.length + aG c
 | .mk f _ x _ ks bs al, G, out => by
  rw [fR, aG];split
  ·split
   ·simp; omega
   ·omega
  ·have h1 := u6 ks (ext G (gvs f x bs)) out;have h2 := u7 bs (ext G (gvs f x bs)) (fRk ks (ext G (gvs f x bs)) out);have h3 := u9 al (ext G (gvs f x bs)) (fRb bs (ext G (gvs f x bs)) (fRk ks (ext G (gvs f x bs)) out));omega
theorem u6 : ∀ (l : List Core) (G : Str → Bool) (out : List Str), (fRk l G out).length ≤ out.length + bA l
 | [], _, out => by rw [fRk]; omega
 | c :: l, G, out => by rw [fRk, bA]; have := u6 l G (fR c G out); have := aAb c G out; omega
theorem u7 : ∀ (l : List Bind) (G : Str → Bool) (out : List Str), (fRb l G out).length ≤ out.length + bE l
 | [], _, out => by rw [fRb]; omega
 | .mk _ _ c :: l, G, out => by rw [fRb, bE, bsize]; have := u7 l G (fR c G out); have := aAb c G out; omega
theorem u9 : ∀ (l : List Alt) (G : Str → Bool) (out : List Str), (fRa l G out).length ≤ out.length + bC l
 | [], _, out => by rw [fRa]; omega
 | .mk _ _ _ vs c :: l, G, out => by rw [fRa, bC, fT]; have := u9 l G (fR c (ext G vs) out); have := aAb c (ext G vs) out; omega
end
theorem dP : ∀ {l : List Core} {i : Nat} {c : Core}, l[i]? = some c → bA (l.take i) + aG c + (l.length - (i + 1)) ≤ bA l
 | d :: l, 0, c, h => by simp at h; subst h; rw [take_zero, bA, bA, length_cons]; have := l4 l; omega
 | d :: l, i + 1, c, h => by
  have := dP (l := l) (i := i) (c := c) (by simpa using h);rw [take_succ_cons, bA, bA, length_cons]; omega
theorem cW : ∀ {l : List Bind} {i : Nat} {c : Bind}, l[i]? = some c → bE (l.take i) + bsize c + (l.length - (i + 1)) ≤ bE l
 | d :: l, 0, c, h => by simp at h; subst h; rw [take_zero, bE, bE, length_cons]; have := cC l; omega
 | d :: l, i + 1, c, h => by
  have := cW (l := l) (i := i) (c := c) (by simpa using h);rw [take_succ_cons, bE, bE, length_cons]; omega
theorem dQ : ∀ {l : List Alt} {i : Nat} {c : Alt}, l[i]? = some c → bC (l.take i) + fT c + (l.length - (i + 1)) ≤ bC l
 | d :: l, 0, c, h => by simp at h; subst h; rw [take_zero, bC, bC, length_cons]; have := l9 l; omega
 | d :: l, i + 1, c, h => by
  have := dQ (l := l) (i := i) (c := c) (by simpa using h);rw [take_succ_cons, bC, bC, length_cons]; omega
theorem fX : ∀ l : List Str, l.length ≤ (l.map fun v => 1 + v.length).sum
 | [] => zero_le _
 | _ :: l => by have := fX l; simp; omega
theorem aCx (g l : List Str) : (fun s => decide (s ∈ g ++ l)) = ext (fun s => decide (s ∈ g)) l := by
 funext s; simp [ext]
def pH (l : List Str) : AObj := .arr 9 1 (l.map bF) 1
def vN (l : List Str) : V := .one (.hs 900 0 l.length l.length)
def b7 (l : List Str) : V := .one (.c (.sl 1 (l.map bF)))
def aBs (c : Core) : Prop := ∀ g out : List Str, 2 * aG c + g.length + out.length ≤ 1000000 → bN Tryd.prog 42 [.pa (aE c), b7 g, vN out] [(900, pH out)] (vN (fR c (fun s => decide (s ∈ g)) out)) [(900, pH (fR c (fun s => decide (s ∈ g)) out))]
theorem aAv (c : Core) (ih : ∀ x, aG x < aG c → aBs x) : aBs c := by
 intro g out hsz;obtain ⟨f, n, s, t, ks, bs, al⟩ := c;obtain ⟨ihk, ihb, iha, hkl, hbl, hal⟩ := @gP f n s t ks bs al;have hg := nE g s (by unfold Fits; omega);have hsz2 := hsz;rw [aG] at hsz2;have hbl2 := cC bs;have ho := nE out s (by unfold Fits; omega);refine cT (n := 119) tok Tryd.func42 rfl rfl rfl ?_;refine a8 (ag [] rfl ?_);refine a8 (a8 (ag [] rfl ?_));refine aA rfl (fun hb => ?_) (fun hb => ?_)
 ·have hf : f = 1 := of_decide_eq_true hb;have hr : fR (.mk f n s t ks bs al) (fun s => decide (s ∈ g)) out = if !decide (s ∈ g) && !decide (s ∈ out) then out ++ [s] else out := by rw [fR, if_pos hf]
  rw [hr];refine AWp.sub (Sub.freeze (id := 900) rfl) ?_;refine a8 (a8 (agF 5 [(3, .pc (B (decide (s ∈ g)))), (9, .pc (B (decide (s ∈ out))))] rfl rfl rfl ?_));refine aA rfl (fun hb => ?_) (fun hb => ?_)
  ·have hm : (!decide (s ∈ g) && !decide (s ∈ out)) = true := by
    cases h1 : decide (s ∈ g) <;> cases h2 : decide (s ∈ out) <;> simp [h1, h2] at hb ⊢
   rw [if_pos hm];refine ag [] rfl ?_;refine a8 (ag [] rfl ?_);refine AWp.sub (st2 := mk [(6, vN (out ++ [s]))] [(900, pH (out ++ [s]))]) sl ?_;exact aF rtT
  ·have hm : ¬ (!decide (s ∈ g) && !decide (s ∈ out)) = true := by
    cases h1 : decide (s ∈ g) <;> cases h2 : decide (s ∈ out) <;> simp [h1, h2] at hb ⊢
   rw [if_neg hm];refine aD ?_;refine a8 (ag [] rfl ?_);exact aF rtT
 ·have hf : ¬ f = 1 := of_decide_eq_false hb;rw [show fR (.mk f n s t ks bs al) (fun s => decide (s ∈ g)) out = fRa al (fun x => decide (x ∈ g ++ gvs f s bs)) (fRb bs (fun x => decide (x ∈ g ++ gvs f s bs)) (fRk ks (fun x => decide (x ∈ g ++ gvs f s bs)) out)) by rw [fR, if_neg hf, aCx]];refine aD ?_;refine a8 (ag [] rfl ?_);refine a8 (ag [] rfl ?_);have hE1 : (if f = 5 then [s] else []).length ≤ 1 := by split <;> simp
  refine a8 (AWp.cut (mk [(2, vN out), (3, .one (.vp 3 0)), (7, .one (.hs 36 0 (g ++ (if f = 5 then [s] else [])).length (g ++ (if f = 5 then [s] else [])).length))] [(3, .var 38 (bT (.mk f n s t ks bs al))), (36, .arr 9 1 ((g ++ (if f = 5 then [s] else [])).map bF) 0), (900, pH out)]) ?_ ?_)
  ·refine a8 (ag [] rfl ?_);refine aA rfl (fun hb => ?_) (fun hb => ?_)
   ·have h5 : f = 5 := of_decide_eq_true hb;rw [if_pos h5];refine ag [] rfl ?_;exact sl
   ·have h5 : ¬ f = 5 := of_decide_eq_false hb;rw [if_neg h5, append_nil];refine aD ?_;exact sl
  have hgv : gvs f s bs = (if f = 5 then [s] else []) ++ bs.map Bind.name := rfl;have hil : (g ++ gvs f s bs).length ≤ g.length + 1 + bs.length := by
   rw [hgv]; simp only [length_append, length_map]; omega
  generalize (if f = 5 then [s] else []) = w at hE1 hgv ⊢;have hkB : (aP bs).length = bs.length := by rw [aU, length_map]
  have hkK : (bB ks).length = ks.length := by rw [b9, length_map]
  have hkA : (bH al).length = al.length := by rw [aV, length_map]
  refine a8 (a8 (ag [] rfl ?_));refine aB ?_;refine aL (fun i : Nat => mk [(2, vN out), (3, .one (.vp 3 0)), (7, .one (.hs 36 0 (g.length + w.length + i) (g.length + w.length + i))), (8, I .i64 i)] [(3, .var 38 (bT (.mk f n s t ks bs al))), (36, .arr 9 1 ((g ++ (w ++ (bs.take i).map Bind.name)).map bF) 0), (900, pH out)]) (fun i => i ≤ bs.length) (fun i => bs.length - i) 0 (zero_le _) sl ?_;intro i hi;refine a8 (a8 (ag [] rfl ?_));refine aA rfl (fun hb => ?_) (fun hb => ?_)
  ·have hlt := ltD hb hkB;obtain ⟨b, hbi⟩ := aI hlt;have hbi' := cB hbi;have hrows : (g ++ (w ++ (bs.take i).map Bind.name)).map bF ++ [[.str b.name]] = (g ++ (w ++ (bs.take (i + 1)).map Bind.name)).map bF := by
    rw [bG hbi]; simp [bF]
   refine aD ?_;refine a8 (aB ?_);refine ag [(4, .row i (aK b))] rfl ?_;refine ag [] rfl ?_;exact ⟨i + 1, hlt, by dsimp only; omega, sl⟩
  have hge := geD hb hkB hi;subst hge;refine aM ?_;rw [take_length, ← hgv];have hil2 : g.length + w.length + bs.length = (g ++ gvs f s bs).length := by rw [hgv]; simp [add_assoc]
  rw [hil2];generalize g ++ gvs f s bs = ins at hil ⊢;refine AWp.sub (Sub.freeze (id := 36) rfl) ?_;refine a8 (a8 (ag [] rfl ?_));refine aB ?_;have hfl := fun (l : List Core) => u6 l (fun x => decide (x ∈ ins)) out
  refine aL (fun i : Nat => mk [(2, vN (fRk (ks.take i) (fun x => decide (x ∈ ins)) out)), (3, .one (.vp 3 0)), (7, .one (.hs 36 0 ins.length ins.length)), (9, I .i64 i)] [(3, .var 38 (bT (.mk f n s t ks bs al))), (36, .arr 9 1 (ins.map bF) 2), (900, pH (fRk (ks.take i) (fun x => decide (x ∈ ins)) out))]) (fun i => i ≤ ks.length) (fun i => ks.length - i) 0 (zero_le _) (by rw [take_zero, fRk]; exact sl) ?_;intro i hi;refine a8 (a8 (ag [] rfl ?_));refine aA rfl (fun hb => ?_) (fun hb => ?_)
  ·have hlt := ltD hb hkK;obtain ⟨k, hki⟩ := aI hlt;have hki' := cU hki;have hst : fRk (ks.take (i + 1)) (fun x => decide (x ∈ ins)) out = fR k (fun x => decide (x ∈ ins)) (fRk (ks.take i) (fun x => decide (x ∈ ins)) out) := by
    rw [pP, pP, fO _ _ hki]
   have h1 := dP hki;have h2 := hfl (ks.take i);have hc := ih k (ihk k (List.mem_of_getElem? hki)) ins (fRk (ks.take i) (fun x => decide (x ∈ ins)) out) (by omega);refine aD ?_;refine a8 (aB ?_);refine aJ mixed ?_;refine ak 7 [(3, .row i (aE k))] rfl ?_;refine kc hc ?_;refine ak 1 [] rfl ?_;refine az ?_;refine ag [] rfl ?_;refine ⟨i + 1, hlt, by dsimp only; omega, ?_⟩;dsimp only;rw [hst];exact sl
  have hge := geD hb hkK hi;subst hge;refine aM ?_;rw [take_length];have hk1 := hfl ks;generalize fRk ks (fun x => decide (x ∈ ins)) out = oK at hk1;refine a8 (a8 (ag [] rfl ?_));refine aB ?_;have hfl := fun (l : List Bind) => u7 l (fun x => decide (x ∈ ins)) oK
  refine aL (fun i : Nat => mk [(2, vN (fRb (bs.take i) (fun x => decide (x ∈ ins)) oK)), (3, .one (.vp 3 0)), (7, .one (.hs 36 0 ins.length ins.length)), (10, I .i64 i)] [(3, .var 38 (bT (.mk f n s t ks bs al))), (36, .arr 9 1 (ins.map bF) 2), (900, pH (fRb (bs.take i) (fun x => decide (x ∈ ins)) oK))]) (fun i => i ≤ bs.length) (fun i => bs.length - i) 0 (zero_le _) (by rw [take_zero, fRb]; exact sl) ?_;intro i hi;refine a8 (a8 (ag [] rfl ?_));refine aA rfl (fun hb => ?_) (fun hb => ?_)
  ·have hlt := ltD hb hkB;obtain ⟨b, hbi⟩ := aI hlt;have hbi' := cB hbi;have hst : fRb (bs.take (i + 1)) (fun x => decide (x ∈ ins)) oK = fR b.body (fun x => decide (x ∈ ins)) (fRb (bs.take i) (fun x => decide (x ∈ ins)) oK) := by
    rw [pR, pR, fO _ _ hbi]
   have h1 := cW hbi;have h2 := hfl (bs.take i);have h3 : aG b.body ≤ bsize b := by obtain ⟨s', t', c'⟩ := b; rw [bsize]; show aG c' ≤ _; omega
   have hbl3 := cC (bs.take i);rw [length_take] at hbl3;have hc := ih b.body (ihb b (List.mem_of_getElem? hbi)) ins (fRb (bs.take i) (fun x => decide (x ∈ ins)) oK) (by omega);refine aD ?_;refine a8 (aB ?_);refine aJ mixed ?_;refine ak 8 [(3, .row i (aK b))] rfl ?_;refine kc hc ?_;refine ak 1 [] rfl ?_;refine az ?_;refine ag [] rfl ?_;refine ⟨i + 1, hlt, by dsimp only; omega, ?_⟩;dsimp only;rw [hst];exact sl
  have hge := geD hb hkB hi;subst hge;refine aM ?_;rw [take_length];have hb1 := hfl bs;generalize fRb bs (fun x => decide (x ∈ ins)) oK = oB at hb1;refine a8 (a8 (ag [] rfl ?_));refine aB ?_;have hfl := fun (l : List Alt) => u9 l (fun x => decide (x ∈ ins)) oB
  refine aL (fun i : Nat => mk [(2, vN (fRa (al.take i) (fun x => decide (x ∈ ins)) oB)), (3, .one (.vp 3 0)), (7, .one (.hs 36 0 ins.length ins.length)), (11, I .i64 i)] [(3, .var 38 (bT (.mk f n s t ks bs al))), (36, .arr 9 1 (ins.map bF) 2), (900, pH (fRa (al.take i) (fun x => decide (x ∈ ins)) oB))]) (fun i => i ≤ al.length) (fun i => al.length - i) 0 (zero_le _) (by rw [take_zero, fRa]; exact sl) ?_;intro i hi;refine a8 (a8 (ag [] rfl ?_));refine aA rfl (fun hb => ?_) (fun hb => ?_)
  ·have hlt := ltD hb hkA;obtain ⟨a, hai⟩ := aI hlt;have hai' := cV hai;have hst : fRa (al.take (i + 1)) (fun x => decide (x ∈ ins)) oB = fR a.body (fun x => decide (x ∈ ins ++ a.vars)) (fRa (al.take i) (fun x => decide (x ∈ ins)) oB) := by
    rw [pS, pS, fO _ _ hai, aCx]
   have h1 := dQ hai;have h2 := hfl (al.take i);have h3 : aG a.body + a.vars.length ≤ fT a := by obtain ⟨f', n', s', v', c'⟩ := a; rw [fT]; show aG c' + v'.length ≤ _; have := fX v'; omega
   have hc := ih a.body (iha a (List.mem_of_getElem? hai)) (ins ++ a.vars) (fRa (al.take i) (fun x => decide (x ∈ ins)) oB) (by rw [length_append]; omega);refine aD ?_;refine a8 (aB ?_);refine a8 (ag [] rfl ?_);refine a8 (ag [(2, .all)] rfl ?_);refine aJ mixed ?_;refine ak 15 [(3, .row i (cL a)), (10, .row i (cL a)), (13, .fz)] rfl ?_;refine kc hc ?_;refine ak 1 [] rfl ?_;refine az ?_;refine ag [] rfl ?_;refine ⟨i + 1, hlt, by dsimp only; omega, ?_⟩;dsimp only;rw [hst];exact sl
  have hge := geD hb hkA hi;subst hge;refine aM ?_;rw [take_length];refine a8 (ag [] rfl ?_);exact aF rtT
theorem aJg : ∀ (n : Nat) (c : Core), aG c ≤ n → aBs c
 | 0, c, h => by have := cO c; omega
 | n + 1, c, h => aAv c fun x hx => aJg n x (by omega)
theorem aDg (c : Core) (h : aG c ≤ 400000) : bN Tryd.prog 19 [.pa (aE c)] [] (b7 (fR c (fun _ => false) [])) [] := by
 have h0 := aJg _ c (le_refl _) [] [] (by simp; omega);have h1 := bN.nilArg (pre := [.pa (aE c), b7 []]) (post := []) (hin := []) h0 rfl;have h2 := h1.plain (by simp);refine cT (n := 5) tok Tryd.func19 rfl rfl rfl ?_;refine a8 (ag [] rfl ?_);refine a8 (aJ mixed ?_);refine ak 1 [] rfl ?_;refine kc h2 ?_;refine ak 1 [] rfl ?_;refine az ?_;exact aF rtT
theorem lJ (a b : List Str) (h : a.length + b.length ≤ 8000000) : bN Tryd.prog 34 [b7 a, b7 b] [] (b7 (a ++ b)) [] := by
 refine cT (n := 12) tok Tryd.func34 rfl rfl rfl ?_;refine a8 (ag [] rfl ?_);refine a8 (ag [] rfl ?_);refine a8 (ag [] rfl ?_);refine a8 (ag [] rfl ?_);refine AWp.sub (Sub.freeze (id := 8) rfl) ?_;exact aF (rtT (hc := hs_all rfl rfl (by simp) (by simp)))
theorem uK (c : Core) (hsz : aG c ≤ 4000000) : bN Tryd.prog 41 [.pa (aE c)] [] (b7 (gvs c.form c.name c.binds)) [] := by
 obtain ⟨f, n, s, t, ks, bs, al⟩ := c;rw [aG] at hsz;have hbl := cC bs;refine cT (n := 30) tok Tryd.func41 rfl rfl rfl ?_;refine a8 (ag [] rfl ?_);refine a8 (ag [] rfl ?_);refine AWp.sub (Sub.own (t := 3) (id := 500) 9 1 rfl rfl) ?_;have hE1 : (if f = 5 then [s] else []).length ≤ 1 := by split <;> simp
 refine a8 (AWp.cut (mk [(1, .one (.vp 1 0)), (3, .one (.hs 500 0 (if f = 5 then [s] else []).length (if f = 5 then [s] else []).length))] [(1, .var 38 (bT (.mk f n s t ks bs al))), (500, .arr 9 1 ((if f = 5 then [s] else []).map bF) 0)]) ?_ ?_)
 ·refine a8 (ag [] rfl ?_);refine aA rfl (fun hb => ?_) (fun hb => ?_)
  ·have h5 : f = 5 := of_decide_eq_true hb;rw [if_pos h5];exact ag [] rfl sl
  ·have h5 : ¬ f = 5 := of_decide_eq_false hb;rw [if_neg h5];exact aD sl
 have hgv : gvs f s bs = (if f = 5 then [s] else []) ++ bs.map Bind.name := rfl;show AM.Then _ _ _ _ _ _ _ _;rw [show gvs (Core.form (.mk f n s t ks bs al)) (Core.name (.mk f n s t ks bs al)) (Core.binds (.mk f n s t ks bs al)) = gvs f s bs from rfl];generalize (if f = 5 then [s] else []) = w at hE1 hgv ⊢;have hkB : (aP bs).length = bs.length := by rw [aU, length_map]
 refine a8 (a8 (ag [] rfl ?_));refine aB ?_;refine aL (fun i : Nat => mk [(1, .one (.vp 1 0)), (3, .one (.hs 500 0 (w.length + i) (w.length + i))), (4, I .i64 i)] [(1, .var 38 (bT (.mk f n s t ks bs al))), (500, .arr 9 1 ((w ++ (bs.take i).map Bind.name).map bF) 0)]) (fun i => i ≤ bs.length) (fun i => bs.length - i) 0 (zero_le _) sl ?_;intro i hi;refine a8 (a8 (ag [] rfl ?_));refine aA rfl (fun hb => ?_) (fun hb => ?_)
 ·have hlt := ltD hb hkB;obtain ⟨b, hbi⟩ := aI hlt;have hbi' := cB hbi;have hrows : (w ++ (bs.take i).map Bind.name).map bF ++ [[.str b.name]] = (w ++ (bs.take (i + 1)).map Bind.name).map bF := by
   rw [bG hbi]; simp [bF]
  refine aD ?_;refine a8 (aB ?_);refine ag [(4, .row i (aK b))] rfl ?_;refine ag [] rfl ?_;exact ⟨i + 1, hlt, by dsimp only; omega, sl⟩
 have hge := geD hb hkB hi;subst hge;refine aM ?_;rw [take_length, ← hgv];refine a8 (ag [] rfl ?_);refine AWp.sub (Sub.freeze (id := 500) rfl) ?_;exact aF (rtT (hc := hs_all rfl rfl (by rw [hgv]; simp) rfl))
theorem nC (a b : List Str) (h : a.length ≤ 8000000) : bN Tryd.prog 47 [b7 a, b7 b] [] (B (decide (a = b))) [] := by
 refine cT (n := 26) tok Tryd.func47 rfl rfl rfl ?_;refine a8 (ag [] rfl ?_);refine a8 (a8 (ag [] rfl ?_));refine aA rfl (fun hb => ?_) (fun hb => ?_)
 ·have hne : ¬ a = b := by
   rintro rfl;simp at hb
  refine a8 (ag [] rfl ?_);rw [decide_eq_false hne];exact aF rtT
 ·have hlen : a.length = b.length := by
   have : (a.length : Int) = (b.length : Int) := by simpa using hb
   omega
  refine aD ?_;refine a8 (a8 (ag [] rfl ?_));refine aB ?_;have hka : (a.map bF).length = a.length := length_map _;refine aL (fun i : Nat => mk [(0, b7 a), (1, b7 b), (5, I .i64 i)] []) (fun i => i ≤ a.length ∧ a.take i = b.take i) (fun i => a.length - i) 0 ⟨zero_le _, by simp⟩ sl ?_;intro i ⟨hi, he⟩;refine a8 (a8 (ag [] rfl ?_));refine aA rfl (fun hb => ?_) (fun hb => ?_)
  ·have hlt := ltD hb hka;obtain ⟨x, hx⟩ := aI hlt;obtain ⟨y, hy⟩ := aI (show i < b.length by omega);have hx' := c6 bF hx;have hy' := c6 bF hy;refine aD ?_;refine a8 (aB ?_);refine a8 (ag [(2, .row i (bF x)), (6, .row i (bF y))] rfl ?_);refine aA rfl (fun hb => ?_) (fun hb => ?_)
   ·have hxy : ¬ x = y := by simpa using hb
    have hne : ¬ a = b := by
     rintro rfl;rw [hx] at hy;exact hxy (Option.some.inj hy)
    rw [decide_eq_false hne];refine a8 (ag [] rfl ?_);exact aF rtT
   ·have hxy : x = y := by simpa using hb
    refine aD ?_;refine ag [] rfl ?_;refine ⟨i + 1, ⟨hlt, ?_⟩, by dsimp only; omega, sl⟩;rw [bG hx, bG hy, he, hxy]
  ·have hge := geD hb hka hi;have hab : a = b := by
    have := he;rw [hge, take_length, take_of_length_le (by omega)] at this;exact this
   refine aM ?_;rw [decide_eq_true hab];refine a8 (ag [] rfl ?_);exact aF (rtT (hc := .refl))
theorem nA : ∀ (f n : Nat), n < 10 ^ (f + 1) → digits (f + 2) n = digits (f + 1) n
 | 0, n, h => by
  have : n < 10 := by simpa using h
  rw [eP 1 n, eP 0 n, if_pos this, if_pos this]
 | f + 1, n, h => by
  rw [eP (f + 2) n, eP (f + 1) n];split
  ·rfl
  ·have e : (10 : Nat) ^ (f + 1 + 1) = 10 ^ (f + 1) * 10 := Nat.pow_succ ..;rw [nA f (n / 10) (by omega)]
theorem aEe (n : Nat) (h : n < 1000000000000000000) : dec n = if n < 10 then [UInt8.ofNat (48 + n)] else dec (n / 10) ++ [UInt8.ofNat (48 + n % 10)] := by
 unfold dec;rw [eP 19 n];split
 ·rfl
 ·rw [← nA 18 (n / 10) (lt_of_lt_of_le (show n / 10 < 1000000000000000000 by omega) (by decide))]
theorem jN (n : Nat) : (dec n).length ≤ 20 := by
 unfold dec;have : ∀ f n, (digits f n).length ≤ f := by
  intro f
  induction f with
  | zero => intro n; simp [digits]
  | succ f ih =>
   intro n;rw [eP];split
   ·simp
   ·have := ih (n / 10); simp; omega
 exact this 20 n
theorem wZ (n : Nat) : UInt8.ofNat (IntKind.u8.wrap ((48 + n % 10 : Nat) : Int)).toNat = UInt8.ofNat (48 + n % 10) := by
 have h : n % 10 < 10 := Nat.mod_lt _ (by omega);have : IntKind.u8.wrap ((48 + n % 10 : Nat) : Int) = ((48 + n % 10 : Nat) : Int) := by
  simp [IntKind.wrap, IntKind.signed, IntKind.bits];omega
 rw [this];rfl
theorem aHy (n : Nat) : n < 1000000000000000000 → bN Tryd.prog 40 [I .i64 (n : Int)] [] (Go.AM.T (dec n)) [] := by
 induction n using Nat.strongRecOn with
 | ind n ih =>
  intro hn;refine cT (n := 32) tok Tryd.func40 rfl rfl rfl ?_;refine a8 (ag [] rfl ?_);refine a8 (agN [] rfl ?_);refine a8 (a8 (ag [] rfl ?_));refine aA rfl (fun hb => ?_) (fun hb => ?_)
  ·exfalso;have : ((n % 10 : Nat) : Int) < 0 := by simpa using hb
   omega
  ·refine aD ?_;refine a8 (agN [] rfl ?_);refine AWp.sub (st2 := mk [(0, I .i64 (n : Int)), (4, Go.AM.T [UInt8.ofNat (48 + n % 10)])] []) (.list (fun i => i) ⟨rfl, ?_, trivial⟩ trivial rfl) ?_
   ·show some (V.one (R.c (C.str [UInt8.ofNat (IntKind.u8.wrap ((48 + n % 10 : Nat) : Int)).toNat]))) = _;rw [wZ];rfl
   refine a8 (a8 (agF 3 [] rfl rfl rfl ?_));refine aA rfl (fun hb => ?_) (fun hb => ?_)
   ·have hlt : n < 10 := by
     simp at hb;omega
    refine a8 (a8 (ag [] rfl ?_));refine aA rfl (fun hb => ?_) (fun hb => ?_)
    ·exfalso;have : (n : Int) < 0 := by simpa using hb
     omega
    ·refine aD ?_;refine a8 (ag [] rfl ?_);rw [aEe n hn, if_pos hlt];rw [Nat.mod_eq_of_lt hlt];exact aF (rtT (hc := .refl))
   ·have hge : ¬ n < 10 := by
     intro hlt;simp at hb;omega
    have hc := ih (n / 10) (by omega) (by omega);have hl := jN (n / 10);have hM : 1000000000 ≤ maxLen := by decide
    refine aD ?_;refine a8 (aJ mixed ?_);refine akN 2 [] rfl ?_;refine kc hc ?_;refine ak 3 [] rfl ?_;refine az ?_;rw [aEe n hn, if_neg hge];exact aF (rtT (hc := .refl))
def lP : Core → Bool
 | .mk f _ _ _ ks _ _ => if f = 5 then (match ks with | [] => false | k :: _ => lP k) else true
theorem aA4 (c : Core) (hl : lP c = true) (hs : aG c ≤ 4000000) : bN Tryd.prog 16 [.pa (aE c)] [] (.tup [b7 (aW c), .pa (aE (bJ c))]) [] := by
 refine cT (n := 19) tok Tryd.func16 rfl rfl rfl ?_;refine a8 (ag [] rfl ?_);refine a8 (ag [] rfl ?_);refine AWp.sub (Sub.own (t := 4) (id := 500) 9 1 rfl rfl) ?_;refine a8 (aB ?_);refine aL (fun x : List Str × Core => mk [(1, .one (.vp 1 0)), (3, .one (.vp 3 0)), (4, .one (.hs 500 0 x.1.length x.1.length))] [(1, .var 38 (bT x.2)), (3, .var 38 hY), (500, .arr 9 1 (x.1.map bF) 0)]) (fun x => lP x.2 = true ∧ aW c = x.1 ++ aW x.2 ∧ bJ c = bJ x.2 ∧ x.1.length + aG x.2 ≤ aG c) (fun x => aG x.2) ([], c) ⟨hl, rfl, rfl, by simp⟩ sl ?_;rintro ⟨pre, f, n, s, t, ks, bs, al⟩ ⟨h1, h2, h3, h4⟩;dsimp only at h1 h2 h3 h4 ⊢;refine a8 (a8 (ag [] rfl ?_));refine aA rfl (fun hb => ?_) (fun hb => ?_)
 ·have hf : f = 5 := of_decide_eq_true hb;refine aD ?_;cases ks with
  | nil => simp [lP, hf] at h1
  | cons k ks =>
   rw [lP, if_pos hf] at h1;rw [aW, if_pos hf, cM] at h2;rw [bJ, if_pos hf, l5] at h3;rw [aG, bA] at h4;refine aB ?_;refine a8 (ag [] rfl ?_);refine ag [(2, .row 0 (aE k))] rfl ?_;refine ⟨(pre ++ [s], k), ⟨h1, by rw [h2]; simp, h3, by simp; omega⟩, by dsimp only; rw [aG, bA]; omega, sl⟩
 ·have hf : ¬ f = 5 := of_decide_eq_false hb;rw [aW, if_neg hf, append_nil] at h2;rw [bJ, if_neg hf] at h3;rw [h2, h3];refine aM ?_;refine a8 (ag [] rfl ?_);refine AWp.sub (Sub.freeze (id := 500) rfl) ?_;refine aF ?_;exact ⟨.inr rfl, ⟨_, _, .tmp rfl (.cell rfl (tg rfl) rfl rfl rfl .nil), .cons (hs_all rfl rfl (by simp) rfl) (.cons .refl .nil), rfl⟩, trivial, rfl⟩
def aBt (c : Core) : Prop := ∀ ar g out : List Str, ar.length ≤ 1000000 → 2 * aG c + g.length + out.length ≤ 1000000 → bN Tryd.prog 39 [.pa (aE c), b7 ar, b7 g, vN out] [(900, pH out)] (vN (bZ (fun s => decide (s ∈ ar)) c (fun s => decide (s ∈ g)) out)) [(900, pH (bZ (fun s => decide (s ∈ ar)) c (fun s => decide (s ∈ g)) out))]
theorem aAz (c : Core) (ih : ∀ x, aG x < aG c → aBt x) : aBt c := by
 intro ar g out har hsz;obtain ⟨f, n, s, t, ks, bs, al⟩ := c;obtain ⟨ihk, ihb, iha, hkl, hbl, hal⟩ := @gP f n s t ks bs al;have hA := nE ar s (by unfold Fits; omega);have hg := nE g s (by unfold Fits; omega);have ho := nE out s (by unfold Fits; omega);have hgi := uK (.mk f n s t ks bs al) (by omega)
 have hwi := lJ g (gvs f s bs) (by
  have : (gvs f s bs).length ≤ 1 + bs.length := by
   unfold gvs; rw [length_append, length_map]; split <;> simp
  omega)
 have hsz2 := hsz;rw [aG] at hsz2;have hbl2 := cC bs;refine cT (n := 102) tok Tryd.func39 rfl rfl rfl ?_;refine a8 (ag [] rfl ?_);refine a8 (a8 (ag [] rfl ?_));generalize hAd : (fun s => decide (s ∈ ar)) = A at ih ⊢;refine aA rfl (fun hb => ?_) (fun hb => ?_)
 ·have hf : f = 1 := of_decide_eq_true hb;have hr : bZ A (.mk f n s t ks bs al) (fun s => decide (s ∈ g)) out = if A s && !decide (s ∈ g) && !decide (s ∈ out) then out ++ [s] else out := by rw [bZ, if_pos hf]
  rw [hr, show A s = decide (s ∈ ar) by rw [← hAd]];refine AWp.sub (Sub.freeze (id := 900) rfl) ?_;refine a8 (a8 (agF 5 [(3, .pc (B (decide (s ∈ ar)))), (8, .pc (B (decide (s ∈ g)))), (15, .pc (B (decide (s ∈ out))))] rfl rfl rfl ?_));refine aA rfl (fun hb => ?_) (fun hb => ?_)
  ·have hm : (decide (s ∈ ar) && !decide (s ∈ g) && !decide (s ∈ out)) = true := by
    cases h0 : decide (s ∈ ar) <;> cases h1 : decide (s ∈ g) <;> cases h2 : decide (s ∈ out) <;> simp [h0, h1, h2] at hb ⊢
   rw [if_pos hm];refine ag [] rfl ?_;refine a8 (ag [] rfl ?_);refine AWp.sub (st2 := mk [(8, vN (out ++ [s]))] [(900, pH (out ++ [s]))]) sl ?_;exact aF rtT
  ·have hm : ¬ (decide (s ∈ ar) && !decide (s ∈ g) && !decide (s ∈ out)) = true := by
    cases h0 : decide (s ∈ ar) <;> cases h1 : decide (s ∈ g) <;> cases h2 : decide (s ∈ out) <;> simp [h0, h1, h2] at hb ⊢
   rw [if_neg hm];refine aD ?_;refine a8 (ag [] rfl ?_);exact aF rtT
 ·have hf : ¬ f = 1 := of_decide_eq_false hb;rw [show bZ A (.mk f n s t ks bs al) (fun s => decide (s ∈ g)) out = dV A al (fun x => decide (x ∈ g ++ gvs f s bs)) (dN A ks (fun x => decide (x ∈ g ++ gvs f s bs)) (dG A bs (fun x => decide (x ∈ g ++ gvs f s bs)) out)) by rw [bZ, if_neg hf, aCx]];refine aD ?_;refine a8 (ag [(2, .pc (b7 (gvs f s bs))), (3, .pc (b7 (g ++ gvs f s bs)))] rfl ?_);have hil : (g ++ gvs f s bs).length ≤ g.length + 1 + bs.length := by
   have : (gvs f s bs).length ≤ 1 + bs.length := by
    unfold gvs; rw [length_append, length_map]; split <;> simp
   rw [length_append]; omega
  have hkB : (aP bs).length = bs.length := by rw [aU, length_map]
  have hkK : (bB ks).length = ks.length := by rw [b9, length_map]
  have hkA : (bH al).length = al.length := by rw [aV, length_map]
  generalize g ++ gvs f s bs = ins at hil ⊢;refine a8 (a8 (ag [] rfl ?_));refine aB ?_;have hfl := fun (l : List Bind) => kU A l (fun x => decide (x ∈ ins)) out
  refine aL (fun i : Nat => mk [(1, b7 ar), (3, vN (dG A (bs.take i) (fun x => decide (x ∈ ins)) out)), (4, .one (.vp 4 0)), (9, b7 ins), (10, I .i64 i)] [(4, .var 38 (bT (.mk f n s t ks bs al))), (900, pH (dG A (bs.take i) (fun x => decide (x ∈ ins)) out))]) (fun i => i ≤ bs.length) (fun i => bs.length - i) 0 (zero_le _) (by rw [take_zero, dG]; exact sl) ?_;intro i hi;refine a8 (a8 (ag [] rfl ?_));refine aA rfl (fun hb => ?_) (fun hb => ?_)
  ·have hlt := ltD hb hkB;obtain ⟨b, hbi⟩ := aI hlt;have hbi' := cB hbi;have hst : dG A (bs.take (i + 1)) (fun x => decide (x ∈ ins)) out = bZ A b.body (fun x => decide (x ∈ ins)) (dG A (bs.take i) (fun x => decide (x ∈ ins)) out) := by
    rw [gX, gX, fO _ _ hbi]
   have h1 := cW hbi;have h2 := hfl (bs.take i);have h3 : aG b.body ≤ bsize b := by obtain ⟨s', t', c'⟩ := b; rw [bsize]; show aG c' ≤ _; omega
   have hbl3 := cC (bs.take i);rw [length_take] at hbl3;have hc := ih b.body (ihb b (List.mem_of_getElem? hbi)) ar ins (dG A (bs.take i) (fun x => decide (x ∈ ins)) out) har (by omega);rw [hAd] at hc;refine aD ?_;refine a8 (aB ?_);refine aJ mixed ?_;refine ak 9 [(3, .row i (aK b))] rfl ?_;refine kc hc ?_;refine ak 1 [] rfl ?_;refine az ?_;refine ag [] rfl ?_;refine ⟨i + 1, hlt, by dsimp only; omega, ?_⟩;dsimp only;rw [hst];exact sl
  have hge := geD hb hkB hi;subst hge;refine aM ?_;rw [take_length];have hb1 := hfl bs;generalize dG A bs (fun x => decide (x ∈ ins)) out = oB at hb1;refine a8 (a8 (ag [] rfl ?_));refine aB ?_;have hfl := fun (l : List Core) => kT A l (fun x => decide (x ∈ ins)) oB
  refine aL (fun i : Nat => mk [(1, b7 ar), (3, vN (dN A (ks.take i) (fun x => decide (x ∈ ins)) oB)), (4, .one (.vp 4 0)), (9, b7 ins), (11, I .i64 i)] [(4, .var 38 (bT (.mk f n s t ks bs al))), (900, pH (dN A (ks.take i) (fun x => decide (x ∈ ins)) oB))]) (fun i => i ≤ ks.length) (fun i => ks.length - i) 0 (zero_le _) (by rw [take_zero, dN]; exact sl) ?_;intro i hi;refine a8 (a8 (ag [] rfl ?_));refine aA rfl (fun hb => ?_) (fun hb => ?_)
  ·have hlt := ltD hb hkK;obtain ⟨k, hki⟩ := aI hlt;have hki' := cU hki;have hst : dN A (ks.take (i + 1)) (fun x => decide (x ∈ ins)) oB = bZ A k (fun x => decide (x ∈ ins)) (dN A (ks.take i) (fun x => decide (x ∈ ins)) oB) := by
    rw [gW, gW, fO _ _ hki]
   have h1 := dP hki;have h2 := hfl (ks.take i);have hc := ih k (ihk k (List.mem_of_getElem? hki)) ar ins (dN A (ks.take i) (fun x => decide (x ∈ ins)) oB) har (by omega);rw [hAd] at hc;refine aD ?_;refine a8 (aB ?_);refine aJ mixed ?_;refine ak 8 [(3, .row i (aE k))] rfl ?_;refine kc hc ?_;refine ak 1 [] rfl ?_;refine az ?_;refine ag [] rfl ?_;refine ⟨i + 1, hlt, by dsimp only; omega, ?_⟩;dsimp only;rw [hst];exact sl
  have hge := geD hb hkK hi;subst hge;refine aM ?_;rw [take_length];have hk1 := hfl ks;generalize dN A ks (fun x => decide (x ∈ ins)) oB = oK at hk1;refine a8 (a8 (ag [] rfl ?_));refine aB ?_;have hfl := fun (l : List Alt) => kV A l (fun x => decide (x ∈ ins)) oK
  refine aL (fun i : Nat => mk [(1, b7 ar), (3, vN (dV A (al.take i) (fun x => decide (x ∈ ins)) oK)), (4, .one (.vp 4 0)), (9, b7 ins), (12, I .i64 i)] [(4, .var 38 (bT (.mk f n s t ks bs al))), (900, pH (dV A (al.take i) (fun x => decide (x ∈ ins)) oK))]) (fun i => i ≤ al.length) (fun i => al.length - i) 0 (zero_le _) (by rw [take_zero, dV]; exact sl) ?_;intro i hi;refine a8 (a8 (ag [] rfl ?_));refine aA rfl (fun hb => ?_) (fun hb => ?_)
  ·have hlt := ltD hb hkA;obtain ⟨a, hai⟩ := aI hlt;have hai' := cV hai;have hst : dV A (al.take (i + 1)) (fun x => decide (x ∈ ins)) oK = bZ A a.body (fun x => decide (x ∈ ins ++ a.vars)) (dV A (al.take i) (fun x => decide (x ∈ ins)) oK) := by
    rw [gY, gY, fO _ _ hai, aCx]
   have h1 := dQ hai;have h2 := hfl (al.take i);have h3 : aG a.body + a.vars.length ≤ fT a := by obtain ⟨f', n', s', v', c'⟩ := a; rw [fT]; show aG c' + v'.length ≤ _; have := fX v'; omega
   have hc := ih a.body (iha a (List.mem_of_getElem? hai)) ar (ins ++ a.vars) (dV A (al.take i) (fun x => decide (x ∈ ins)) oK) har (by rw [length_append]; omega);have hw := lJ ins a.vars (by omega);rw [hAd] at hc;refine aD ?_;refine a8 (aB ?_);refine aJ mixed ?_;refine ak 16 [(3, .row i (cL a)), (11, .row i (cL a)), (14, .pc (b7 (ins ++ a.vars)))] rfl ?_;refine kc hc ?_;refine ak 1 [] rfl ?_;refine az ?_;refine ag [] rfl ?_;refine ⟨i + 1, hlt, by dsimp only; omega, ?_⟩;dsimp only;rw [hst];exact sl
  have hge := geD hb hkA hi;subst hge;refine aM ?_;rw [take_length];refine a8 (ag [] rfl ?_);exact aF rtT
theorem aJh : ∀ (n : Nat) (c : Core), aG c ≤ n → aBt c
 | 0, c, h => by have := cO c; omega
 | n + 1, c, h => aAz c fun x hx => aJh n x (by omega)
theorem aDf (c : Core) (ar : List Str) (ha : ar.length ≤ 1000000) (h : aG c ≤ 400000) : bN Tryd.prog 39 [.pa (aE c), b7 ar, b7 [], .one (.c .nl)] [] (b7 (bZ (fun s => decide (s ∈ ar)) c (fun _ => false) [])) [] := by
 have h0 := aJh _ c (le_refl _) ar [] [] ha (by simp; omega);exact (bN.nilArg (pre := [.pa (aE c), b7 ar, b7 []]) (post := []) (hin := []) h0 rfl).plain (by simp)
theorem jT (l : List Str) : ∀ (i k : Nat) (s : Str), l[i]? = some s → (eR k l)[i]? = some (if s ∈ l.drop (i + 1) then s ++ [64, 112] ++ dec (k + i) else s) := by
 induction l with
 | nil => intro i k s h; simp at h
 | cons x l ih =>
  intro i k s h;cases i with
  | zero =>
   simp only [List.getElem?_cons_zero, Option.some.injEq] at h;subst h;simp [eR]
  | succ i =>
   have h' : l[i]? = some s := by simpa using h
   have := ih i (k + 1) s h';rw [eR, List.getElem?_cons_succ, this];rw [show k + 1 + i = k + (i + 1) by omega];rfl
theorem eA : ∀ (l : List Str) (k : Nat), (eR k l).length = l.length
 | [], _ => rfl
 | _ :: l, k => by rw [eR, length_cons, length_cons, eA l]
def tz (t : Ty) : Bool := decide (t.form = 0) && (decide (t.n = 0) && (t.name.isEmpty && t.args.isEmpty))
theorem aEu {t : Ty} (h : tz t = true) : t = zTy := by
 obtain ⟨f, n, s, a⟩ := t;simp only [tz, Bool.and_eq_true, decide_eq_true_eq, List.isEmpty_iff] at h;obtain ⟨h1, h2, h3, h4⟩ := h;simp only [Ty.form, Ty.n, Ty.name, Ty.args] at h1 h2 h3 h4;subst h1 h2 h3 h4;rfl
mutual
def wfR : Core → Bool
 | .mk f _ _ _ ks bs al => (if f = 5 then !ks.isEmpty else true) && (tJ ks && (aB1 bs && aB2 al))
def tJ : List Core → Bool
 | [] => true
 | c :: l => wfR c && tJ l
def aB1 : List Bind → Bool
 | [] => true
 | .mk _ t c :: l => (tz t && wfR c) && aB1 l
def aB2 : List Alt → Bool
 | [] => true
 | .mk _ _ _ _ c :: l => wfR c && aB2 l
end
theorem oV : ∀ {l : List Core}, tJ l = true → ∀ x ∈ l, wfR x = true
 | c :: l, h, x, hx => by
  rw [tJ, Bool.and_eq_true] at h;rcases mem_cons.1 hx with rfl | hx
  ·exact h.1
  ·exact oV h.2 x hx
theorem oW : ∀ {l : List Bind}, aB1 l = true → ∀ x ∈ l, x.ty = zTy ∧ wfR x.body = true
 | .mk s t c :: l, h, x, hx => by
  simp only [aB1, Bool.and_eq_true] at h;rcases mem_cons.1 hx with rfl | hx
  ·exact ⟨aEu h.1.1, h.1.2⟩
  ·exact oW h.2 x hx
theorem oX : ∀ {l : List Alt}, aB2 l = true → ∀ x ∈ l, wfR x.body = true
 | .mk f n s v c :: l, h, x, hx => by
  rw [aB2, Bool.and_eq_true] at h;rcases mem_cons.1 hx with rfl | hx
  ·exact h.1
  ·exact oX h.2 x hx
theorem iR : ∀ (m : Nat) (c : Core), aG c ≤ m → wfR c = true → lP c = true ∧ wfR (bJ c) = true ∧ (aW c).length + aG (bJ c) ≤ aG c ∧ (bJ c).form ≠ 5 ∧ (∀ s ∈ aW c, s.length ≤ aG c) ∧ (c.form = 5 → aG (bJ c) < aG c) := by
 intro m
 induction m with
 | zero => intro c hc; have := cO c; omega
 | succ m ih =>
  intro c hc h;obtain ⟨f, n, s, t, ks, bs, al⟩ := c;have hw := h;simp only [wfR, Bool.and_eq_true] at hw;by_cases hf : f = 5
  ·cases ks with
   | nil => simp [hf] at hw
   | cons k ks =>
    rw [aG, bA] at hc;have hk := hw.2.1;rw [tJ, Bool.and_eq_true] at hk;obtain ⟨h1, h2, h3, h4, h5, h6⟩ := ih k (by omega) hk.1;rw [lP, aW, bJ, if_pos hf, if_pos hf, if_pos hf, cM, l5, aG, bA];refine ⟨h1, h2, by rw [length_cons]; omega, h4, fun x hx => ?_, fun _ => by omega⟩;rcases mem_cons.1 hx with rfl | hx
    ·omega
    ·have := h5 x hx; omega
  ·rw [aW, bJ, if_neg hf, if_neg hf];exact ⟨by rw [lP.eq_def]; simp [hf], h, by simp, hf, by simp, fun e => absurd e hf⟩
theorem jG (of : Str) : ∀ (m : Nat) (c : Core), aG c ≤ m → wfR c = true → ∀ (A : Str → Bool) (made : List Sup), bD of true c A made = bD of false (bJ c) A made := by
 intro m
 induction m with
 | zero => intro c hc; have := cO c; omega
 | succ m ih =>
  intro c hc h A made;obtain ⟨f, n, s, t, ks, bs, al⟩ := c;have hw := h;simp only [wfR, Bool.and_eq_true] at hw;by_cases hf : f = 5
  ·cases ks with
   | nil => simp [hf] at hw
   | cons k ks =>
    rw [aG, bA] at hc;have hk := hw.2.1;rw [tJ, Bool.and_eq_true] at hk;rw [bD, if_pos hf, if_pos rfl, jH, ih k (by omega) hk.1, bJ, if_pos hf, l5]
  ·rw [bJ, if_neg hf, bD, bD, if_neg hf, if_neg hf]
mutual
theorem eZ (of : Str) : ∀ (c : Core) (ch : Bool) (A : Str → Bool) (made : List Sup), made.length ≤ (bD of ch c A made).2.length ∧ (bD of ch c A made).2.length ≤ made.length + aG c
 | .mk f n s t ks bs al, ch, A, made => by
  rw [bD, aG];split
  ·split
   ·have := r5 of ks A made; omega
   ·have hp := r5 of ks (fun x => decide (x ∈ bZ A (.mk f n s t ks bs al) (fun _ => false) [] ++ (s :: cM ks))) (made ++ [⟨cX of made.length, aX (bZ A (.mk f n s t ks bs al) (fun _ => false) [] ++ (s :: cM ks)), eE⟩]);rw [length_append, length_singleton] at hp;dsimp only;rw [eN];omega
  ·have h1 := iT of bs (ext A (gvs f s bs)) made;have h2 := iS of ks (ext A (gvs f s bs)) (bM of bs (ext A (gvs f s bs)) made).2;have h3 := kN of al (ext A (gvs f s bs)) (bX of ks (ext A (gvs f s bs)) (bM of bs (ext A (gvs f s bs)) made).2).2;dsimp only;omega
theorem r5 (of : Str) : ∀ (l : List Core) (A : Str → Bool) (made : List Sup), made.length ≤ (jH of l A made).2.length ∧ (jH of l A made).2.length ≤ made.length + bA l
 | [], _, made => by rw [jH]; exact ⟨le_refl _, le_add_right _ _⟩
 | c :: l, A, made => by
  rw [jH, bA];have := eZ of c true A made;omega
theorem iS (of : Str) : ∀ (l : List Core) (A : Str → Bool) (made : List Sup), made.length ≤ (bX of l A made).2.length ∧ (bX of l A made).2.length ≤ made.length + bA l
 | [], _, made => by rw [bX]; exact ⟨le_refl _, le_add_right _ _⟩
 | c :: l, A, made => by
  rw [bX, bA];have h1 := eZ of c false A made;have h2 := iS of l A (bD of false c A made).2;dsimp only;omega
theorem iT (of : Str) : ∀ (l : List Bind) (A : Str → Bool) (made : List Sup), made.length ≤ (bM of l A made).2.length ∧ (bM of l A made).2.length ≤ made.length + bE l
 | [], _, made => by rw [bM]; exact ⟨le_refl _, le_add_right _ _⟩
 | .mk s t c :: l, A, made => by
  rw [bM, bE, bsize];have h1 := eZ of c false A made;have h2 := iT of l A (bD of false c A made).2;dsimp only;omega
theorem kN (of : Str) : ∀ (l : List Alt) (A : Str → Bool) (made : List Sup), made.length ≤ (c0 of l A made).2.length ∧ (c0 of l A made).2.length ≤ made.length + bC l
 | [], _, made => by rw [c0]; exact ⟨le_refl _, le_add_right _ _⟩
 | .mk f n s vs c :: l, A, made => by
  rw [c0, bC, fT];have h1 := eZ of c false (ext A vs) made;have h2 := kN of l A (bD of false c (ext A vs) made).2;dsimp only;omega
end
theorem kK (of : Str) (A : Str → Bool) (c : Core) : ∀ (l : List Core) (made : List Sup), bX of (l ++ [c]) A made = ((bX of l A made).1 ++ [(bD of false c A (bX of l A made).2).1], (bD of false c A (bX of l A made).2).2)
 | [], made => by simp [bX]
 | d :: l, made => by simp [bX, kK of A c l]
theorem kM (of : Str) (A : Str → Bool) (b : Bind) : ∀ (l : List Bind) (made : List Sup), bM of (l ++ [b]) A made = ((bM of l A made).1 ++ [.mk b.name b.ty (bD of false b.body A (bM of l A made).2).1], (bD of false b.body A (bM of l A made).2).2)
 | [], made => by obtain ⟨s, t, c⟩ := b; simp [bM, Bind.name, Bind.ty, Bind.body]
 | .mk s t c :: l, made => by simp [bM, kM of A b l]
theorem kP (of : Str) (A : Str → Bool) (a : Alt) : ∀ (l : List Alt) (made : List Sup), c0 of (l ++ [a]) A made = ((c0 of l A made).1 ++ [.mk a.form a.n a.name a.vars (bD of false a.body (ext A a.vars) (c0 of l A made).2).1], (bD of false a.body (ext A a.vars) (c0 of l A made).2).2)
 | [], made => by obtain ⟨f, n, s, v, c⟩ := a; simp [c0, Alt.form, Alt.n, Alt.name, Alt.vars, Alt.body]
 | .mk f n s v c :: l, made => by simp [c0, kP of A a l]
theorem fY (of : Str) (A : Str → Bool) : ∀ (l : List Core) (made : List Sup), (bX of l A made).1.length = l.length
 | [], _ => by rw [bX]
 | d :: l, made => by rw [bX]; simp [fY of A l]
theorem fZ (of : Str) (A : Str → Bool) : ∀ (l : List Bind) (made : List Sup), (bM of l A made).1.length = l.length
 | [], _ => by rw [bM]
 | .mk s t c :: l, made => by rw [bM]; simp [fZ of A l]
theorem gA (of : Str) (A : Str → Bool) : ∀ (l : List Alt) (made : List Sup), (c0 of l A made).1.length = l.length
 | [], _ => by rw [c0]
 | .mk f n s v c :: l, made => by rw [c0]; simp [gA of A l]
theorem mI (c : Core) : ∀ (l : List Sup) (k : Nat) (y : Sup), l[k]? = some y → (setBody l k c).map aY = (l.map aY).set k ([.str y.name, .sl 1 (y.params.map bF)] ++ aE c)
 | [], k, y, h => by simp at h
 | x :: l, 0, y, h => by simp at h; subst h; rfl
 | x :: l, k + 1, y, h => by
  have := mI c l k y (by simpa using h);simp only [setBody, map_cons, List.set_cons_succ, this]
def rK (l : List Sup) : V := .one (.hs 901 0 l.length l.length)
def kQ (l : List Sup) : AObj := .arr 40 12 (l.map aY) 0
theorem pO (f : Int) (s : Str) (bs : List Bind) : (gvs f s bs).length ≤ 1 + bs.length := by
 unfold gvs; rw [length_append, length_map]; split <;> simp
theorem nG : ∀ {l : List Bind}, ∀ s ∈ l.map Bind.name, s.length ≤ bE l
 | .mk x t c :: l, s, h => by
  rw [bE, bsize];rcases mem_cons.1 h with h | h
  ·have e : s = x := h;subst e;omega
  ·have := nG s h; omega
theorem aFp {f n : Int} {s : Str} {t : Ty} {ks : List Core} {bs : List Bind} {al : List Alt} : ∀ x ∈ gvs f s bs, x.length ≤ aG (.mk f n s t ks bs al) := by
 intro x hx;rw [aG];rcases mem_append.1 hx with h | h
 ·split at h
  ·simp only [mem_singleton] at h; subst h; omega
  ·simp at h
 ·have := nG x h; omega
theorem vA : ∀ {l : List Str} {s : Str}, s ∈ l → s.length ≤ (l.map fun v => 1 + v.length).sum
 | x :: l, s, h => by
  rcases mem_cons.1 h with rfl | h
  ·simp; omega
  ·have := vA h; simp; omega
def uW (l : List Str) : Prop := ∀ s ∈ l, s.length ≤ 1000000
theorem iQ (s : Str) : ∀ (l : List Str) (c : Core), eI c (l ++ [s]) = tG (eI c l) (dR s)
 | [], _ => rfl
 | x :: l, c => by rw [cons_append, eI, iQ s l]; rfl
end Go.Proofs.YtlegeikmepnmcaaDoor
