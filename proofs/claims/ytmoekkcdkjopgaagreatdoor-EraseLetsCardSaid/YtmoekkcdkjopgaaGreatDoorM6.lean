/-
  Texts La4 to Ls1 in one.
-/
import Derived.Test.YtmoekkcdkjopgaaGreatDoorM5
import Derived.Shelf.Spec.SlicesGrow
open List (all_eq_true cons_append drop_eq_getElem_cons drop_length drop_zero eq_nil_of_length_eq_zero flatten_cons isEmpty_iff length_append length_cons length_eq_one_iff length_map length_nil length_take map_append map_cons map_map map_nil mem_append mem_cons mem_map mem_of_mem_take mem_singleton nil_append suffix_refl sum_cons sum_nil take_add_one take_length take_of_length_le)
open Nat (add_assoc add_mul beq_refl le_of_eq le_refl le_trans min_eq_left mul_le_mul_right sub_zero zero_add zero_le)
namespace Go.Proofs.YtmoekkcdkjopgaaGreatDoor
open Go Go.AM
set_option maxRecDepth 20000
def aUg (l : List Str) (s : Str) : List Str := if s ∈ l then l else l ++ [s]
def nameAt (n : Int) (i : Nat) : Str := oneOf nmL (n / 4 + (i : Int) * (1 + n % 2))
def dH (n : Int) : Nat → List Str
 | 0 => []
 | i + 1 => aUg (dH n i) (nameAt n i)
def b6 (l : List Int) : List Str × List Int := (dH (aW l).1 ((aW l).1 % 4).toNat, (aW l).2)
theorem aPl (l : List Str) (s : Str) : (aUg l s).length ≤ l.length + 1 := by
 unfold aUg;split <;> simp
theorem mF (n : Int) : ∀ i : Nat, (dH n i).length ≤ i
 | 0 => le_refl _
 | i + 1 => le_trans (aPl _ _) (Nat.succ_le_succ (mF n i))
theorem aLa (left : Int) (l : List Int) (hl : aAe l) (hf : Fits l) : aY Tryz.prog 85 [.one (.vp 700 0)] (mkO l left) (.one (.c (.sl 1 ((b6 l).1.map bG)))) (mkO (b6 l).2 left) := by
 have hn := pK l;refine c8 (n := 33) tok Tryz.func85 rfl rfl rfl ?_;refine a8 (ag [] rfl ?_);refine a8 (aF mixed ?_);refine ak 1 [] rfl ?_;refine kc (aE2 l left hl hf) ?_;refine ak 1 [] rfl ?_;refine az ?_;refine a8 (ag [] rfl ?_);refine a8 (a8 (ag [] rfl ?_));refine AWp.sub (Sub.own (t := 4) (id := 500) 9 1 rfl rfl) (AWp.sub (Sub.freeze (id := 500) rfl) ?_);refine aC (aJ (fun i : Nat => mk [(3, I .i64 (aW l).1), (4, .one (.hs 500 0 (dH (aW l).1 i).length (dH (aW l).1 i).length)), (5, I .i64 i)] ((500, .arr 9 1 ((dH (aW l).1 i).map bG) 2) :: mkO (aW l).2 left)) (fun i => (i : Int) ≤ (aW l).1 % 4) (fun i => 4 - i) 0 (by simp; omega) (.list (fun i => i) ⟨rfl, rfl, rfl, trivial⟩ ⟨⟨_, rfl, .arr⟩, ⟨_, rfl, .var rfl⟩, trivial⟩ rfl) ?_);intro i hi;have hlen := mF (aW l).1 i;refine a8 (a8 (ag [] rfl ?_));refine aB rfl (fun hb => ?_) (fun hb => ?_)
 ·refine aD ?_;have hlt : (i : Int) < (aW l).1 % 4 := by simpa using hb
  have hi64 : i64 ((aW l).1 / 4 + (i : Int) * (1 + (aW l).1 % 2)) := by
   have h1 : (i : Int) ≤ 4 := by omega
   have h2 : (i : Int) * (1 + (aW l).1 % 2) ≤ 4 * 2 := Int.mul_le_mul h1 (by omega) (by omega) (by omega);have h3 : 0 ≤ (i : Int) * (1 + (aW l).1 % 2) := Int.mul_nonneg (by omega) (by omega);unfold i64;omega
  have hm : -9223372036854775808 ≤ (i : Int) * (1 + (aW l).1 % 2) ∧ (i : Int) * (1 + (aW l).1 % 2) ≤ 9223372036854775807 := by
   have h1 : (i : Int) ≤ 4 := by omega
   have h2 : (i : Int) * (1 + (aW l).1 % 2) ≤ 4 * 2 := Int.mul_le_mul h1 (by omega) (by omega) (by omega);have h3 : 0 ≤ (i : Int) * (1 + (aW l).1 % 2) := Int.mul_nonneg (by omega) (by omega);omega
  refine a8 (aC (a8 (aF mixed ?_)));unfold i64 at hi64;refine ak 8 [] rfl ?_;refine kc (z8 _ hi64) ?_;refine ak 1 [] rfl ?_;refine az ?_;refine a8 (aF mixed ?_);refine ak 2 [] rfl ?_;refine kc (a0d (dH (aW l).1 i) (nameAt (aW l).1 i) (by unfold Fits; omega)) ?_;refine ak 1 [] rfl ?_;refine az ?_;refine aB rfl (fun hb => ?_) (fun hb => ?_)
  ·have hni : nameAt (aW l).1 i ∉ dH (aW l).1 i := by simpa using hb
   refine ag [] rfl ?_;refine AWp.sub (Sub.freeze (id := 500) rfl) ?_;refine ag [] rfl ?_;have he : dH (aW l).1 (i + 1) = dH (aW l).1 i ++ [nameAt (aW l).1 i] := by rw [dH, aUg, if_neg hni]
   refine ⟨i + 1, by dsimp only; omega, by dsimp only; omega, .list (fun i => i) ⟨rfl, ?_, rfl, trivial⟩ ⟨⟨_, rfl, by rw [he, map_append]; exact .arr⟩, ⟨_, rfl, .var rfl⟩, trivial⟩ rfl⟩;show some (V.one (R.hs 500 0 _ _)) = some (V.one (R.hs 500 0 _ _));rw [he];simp
  ·have hni : nameAt (aW l).1 i ∈ dH (aW l).1 i := by simpa using hb
   have he : dH (aW l).1 (i + 1) = dH (aW l).1 i := by rw [dH, aUg, if_pos hni]
   refine aD (ag [] rfl ?_);refine ⟨i + 1, by dsimp only; omega, by dsimp only; omega, ?_⟩;dsimp only;rw [he];exact .list (fun i => i) ⟨rfl, rfl, rfl, trivial⟩ ⟨⟨_, rfl, .arr⟩, ⟨_, rfl, .var rfl⟩, trivial⟩ rfl
 ·have hge : ((aW l).1 % 4).toNat = i := by
   have : ¬ (i : Int) < (aW l).1 % 4 := by simpa using hb
   omega
  have hr : b6 l = (dH (aW l).1 i, (aW l).2) := by unfold b6; rw [hge]
  refine aK (a8 (ag [] rfl (aE ?_)));rw [hr];exact ⟨.inr rfl, ⟨_, _, .tmp rfl .nil, .cons (.one (.hs rfl (by simp) Go.AM.take_map.symm .nil)) .nil, rfl⟩, ⟨⟨_, rfl, .var rfl⟩, trivial⟩, rfl⟩
def zTy : Ty := .mk 0 0 [] []
abbrev Mk := Core × List Int × Int
def bL (g : List Int → Int → Mk) (ns : List Str) (l : List Int) (left : Int) : Nat → List Bind × List Int × Int
 | 0 => ([], l, left)
 | i + 1 => let r := bL g ns l left i
  let c := g (cC 2 r.2.1).2 r.2.2
  (r.1 ++ [.mk (ns[i]?.getD []) (cC 2 r.2.1).1 c.1], c.2)
def cH (g : List Int → Int → Mk) (n : Int) (l : List Int) (left : Int) : Nat → List Alt × List Int × Int
 | 0 => ([], l, left)
 | i + 1 => let r := cH g n l left i
  let c := g (b6 r.2.1).2 r.2.2
  (r.1 ++ [if i = 1 then .mk 2 (n / 14) [] [] c.1 else if i = 2 then .mk 3 0 [] [] c.1 else .mk 1 0 (oneOf aK1 (n / 14 + i)) (b6 r.2.1).1 c.1], c.2)
def dI (g : List Int → Int → Mk) (n k : Int) (l : List Int) (left : Int) : Mk :=
 if k < 2 then (.mk 1 0 (oneOf nmL (n / 14)) zTy [] [] [], l, left)
 else if k = 2 then (.mk 2 0 (oneOf aK1 (n / 14)) zTy [] [] [], l, left)
 else if k = 3 then (.mk 3 (n / 14 - 3) [] zTy [] [] [], l, left)
 else if k < 6 then (.mk 4 0 [] zTy [(g l left).1, (g (g l left).2.1 (g l left).2.2).1] [] [], (g (g l left).2.1 (g l left).2.2).2)
 else if k < 8 then (.mk 5 0 (oneOf nmL (n / 14)) (cC 2 l).1 [(g (cC 2 l).2 left).1] [] [], (g (cC 2 l).2 left).2)
 else if k = 8 then (.mk 6 0 [] (cC 2 l).1 [(g (cC 2 l).2 left).1] [] [], (g (cC 2 l).2 left).2)
 else if k = 9 then (.mk 7 0 (oneOf l5 (n / 14)) zTy [(g l left).1] [] [], (g l left).2)
 else if k = 10 then
  let r := bL g (b6 l).1 (b6 l).2 left (b6 l).1.length
  (.mk 8 0 [] zTy [(g r.2.1 r.2.2).1] r.1 [], (g r.2.1 r.2.2).2)
 else if k = 11 then
  let c := g (cC 2 l).2 left
  let r := cH g n c.2.1 c.2.2 (n / 14 % 4).toNat
  (.mk 9 0 [] (cC 2 l).1 [c.1] [] r.1, r.2)
 else if k = 12 then (.mk 10 0 (oneOf xY (n / 14)) zTy [(g l left).1, (g (g l left).2.1 (g l left).2.2).1] [] [], (g (g l left).2.1 (g l left).2.2).2)
 else (.mk 11 0 [] (cC 2 l).1 [] [] [], (cC 2 l).2, left)
def nJ : Nat → List Int → Int → Mk
 | 0, l, left => dI (fun l left => (.mk 0 0 [] zTy [] [] [], l, left)) (aW l).1 ((aW l).1 % 4) (aW l).2 (left - 1)
 | f + 1, l, left => dI (nJ f) (aW l).1 (if left - 1 < 1 then (aW l).1 % 4 else (aW l).1 % 14) (aW l).2 (left - 1)
structure MkOk (g : List Int → Int → Mk) (N : Nat) : Prop where
 suf : ∀ l left, (g l left).2.1 <:+ l
 le : ∀ l left, (g l left).2.2 ≤ left
 ge : ∀ l left, left ≤ (g l left).2.2 + N
theorem j2 (l : List Int) : (b6 l).2 <:+ l := eJ l
theorem gT (l : List Int) : (b6 l).1.length ≤ 3 := by
 have h1 := mF (aW l).1 ((aW l).1 % 4).toNat;have h2 : ((aW l).1 % 4).toNat ≤ 3 := by omega
 exact le_trans h1 h2
theorem oF {g : List Int → Int → Mk} {N : Nat} (h : MkOk g N) (ns : List Str) (l : List Int) (left : Int) : ∀ i : Nat, (bL g ns l left i).2.1 <:+ l ∧ (bL g ns l left i).2.2 ≤ left ∧ left ≤ (bL g ns l left i).2.2 + (i : Int) * N ∧ (bL g ns l left i).1.length = i
 | 0 => by simp [bL]
 | i + 1 => by
  obtain ⟨h1, h2, h3, h4⟩ := oF h ns l left i;simp only [bL];refine ⟨((h.suf _ _).trans (fL 2 _)).trans h1, Int.le_trans (h.le _ _) h2, ?_, by simp [h4]⟩;have := h.ge (cC 2 (bL g ns l left i).2.1).2 (bL g ns l left i).2.2;rw [show ((i + 1 : Nat) : Int) * (N : Int) = (i : Int) * N + N by rw [Int.natCast_add, Int.add_mul]; simp];omega
theorem rH {g : List Int → Int → Mk} {N : Nat} (h : MkOk g N) (n : Int) (l : List Int) (left : Int) : ∀ i : Nat, (cH g n l left i).2.1 <:+ l ∧ (cH g n l left i).2.2 ≤ left ∧ left ≤ (cH g n l left i).2.2 + (i : Int) * N ∧ (cH g n l left i).1.length = i
 | 0 => by simp [cH]
 | i + 1 => by
  obtain ⟨h1, h2, h3, h4⟩ := rH h n l left i;simp only [cH];refine ⟨((h.suf _ _).trans (j2 _)).trans h1, Int.le_trans (h.le _ _) h2, ?_, by simp [h4]⟩;have := h.ge (b6 (cH g n l left i).2.1).2 (cH g n l left i).2.2;rw [show ((i + 1 : Nat) : Int) * (N : Int) = (i : Int) * N + N by rw [Int.natCast_add, Int.add_mul]; simp];omega
theorem aEv {g : List Int → Int → Mk} {N : Nat} (h : MkOk g N) (n k : Int) (l : List Int) (left : Int) : (dI g n k l left).2.1 <:+ l ∧ (dI g n k l left).2.2 ≤ left ∧ left ≤ (dI g n k l left).2.2 + 4 * N := by
 have ht := fL 2 l;have hg1 := h.suf l left;have hg2 := h.le l left;have hg3 := h.ge l left;have hh1 := h.suf (g l left).2.1 (g l left).2.2;have hh2 := h.le (g l left).2.1 (g l left).2.2;have hh3 := h.ge (g l left).2.1 (g l left).2.2;have hu1 := h.suf (cC 2 l).2 left;have hu2 := h.le (cC 2 l).2 left;have hu3 := h.ge (cC 2 l).2 left;unfold dI;split
 ·exact ⟨suffix_refl _, Int.le_refl _, by dsimp only; omega⟩
 split
 ·exact ⟨suffix_refl _, Int.le_refl _, by dsimp only; omega⟩
 split
 ·exact ⟨suffix_refl _, Int.le_refl _, by dsimp only; omega⟩
 split
 ·exact ⟨hh1.trans hg1, by dsimp only; omega, by dsimp only; omega⟩
 split
 ·exact ⟨hu1.trans ht, by dsimp only; omega, by dsimp only; omega⟩
 split
 ·exact ⟨hu1.trans ht, by dsimp only; omega, by dsimp only; omega⟩
 split
 ·exact ⟨hg1, by dsimp only; omega, by dsimp only; omega⟩
 split
 ·have hl := gT l;obtain ⟨b1, b2, b3, _⟩ := oF h (b6 l).1 (b6 l).2 left (b6 l).1.length;have c1 := h.suf (bL g (b6 l).1 (b6 l).2 left (b6 l).1.length).2.1 (bL g (b6 l).1 (b6 l).2 left (b6 l).1.length).2.2;have c2 := h.le (bL g (b6 l).1 (b6 l).2 left (b6 l).1.length).2.1 (bL g (b6 l).1 (b6 l).2 left (b6 l).1.length).2.2;have c3 := h.ge (bL g (b6 l).1 (b6 l).2 left (b6 l).1.length).2.1 (bL g (b6 l).1 (b6 l).2 left (b6 l).1.length).2.2;have hm : (((b6 l).1.length : Nat) : Int) * (N : Int) ≤ 3 * (N : Int) := Int.mul_le_mul_of_nonneg_right (by omega) (by omega);exact ⟨(c1.trans b1).trans (j2 l), by dsimp only; omega, by dsimp only; omega⟩
 split
 ·obtain ⟨b1, b2, b3, _⟩ := rH h n (g (cC 2 l).2 left).2.1 (g (cC 2 l).2 left).2.2 (n / 14 % 4).toNat;have hm : (((n / 14 % 4).toNat : Nat) : Int) * (N : Int) ≤ 3 * (N : Int) := Int.mul_le_mul_of_nonneg_right (by omega) (by omega);exact ⟨(b1.trans hu1).trans ht, by dsimp only; omega, by dsimp only; omega⟩
 split
 ·exact ⟨hh1.trans hg1, by dsimp only; omega, by dsimp only; omega⟩
 ·exact ⟨ht, Int.le_refl _, by dsimp only; omega⟩
def use : Nat → Nat
 | 0 => 1
 | f + 1 => 1 + 4 * use f
theorem aEu : ∀ f : Nat, MkOk (nJ f) (use f)
 | 0 => by
  have h : MkOk (fun l left => ((.mk 0 0 [] zTy [] [] [], l, left) : Mk)) 0 := ⟨fun _ _ => suffix_refl _, fun _ _ => Int.le_refl _, fun _ _ => by simp⟩
  refine ⟨fun l left => ?_, fun l left => ?_, fun l left => ?_⟩ <;> obtain ⟨h1, h2, h3⟩ := aEv h (aW l).1 ((aW l).1 % 4) (aW l).2 (left - 1) <;> simp only [nJ, use]
  ·exact h1.trans (eJ l)
  ·omega
  ·simp only [Int.natCast_zero, Int.mul_zero, Int.add_zero] at h3; omega
 | f + 1 => by
  have h := aEu f;refine ⟨fun l left => ?_, fun l left => ?_, fun l left => ?_⟩ <;> obtain ⟨h1, h2, h3⟩ := aEv h (aW l).1 (if left - 1 < 1 then (aW l).1 % 4 else (aW l).1 % 14) (aW l).2 (left - 1) <;> simp only [nJ, use]
  ·exact h1.trans (eJ l)
  ·omega
  ·simp only [Int.natCast_add, Int.natCast_mul]; omega
def gOf : Nat → List Int → Int → Mk
 | 0 => fun l left => (.mk 0 0 [] zTy [] [] [], l, left)
 | f + 1 => nJ f
theorem aOn (f : Nat) (l : List Int) (left : Int) : nJ f l left = dI (gOf f) (aW l).1 (if f = 0 ∨ left - 1 < 1 then (aW l).1 % 4 else (aW l).1 % 14) (aW l).2 (left - 1) := by
 cases f with
 | zero => simp [nJ, gOf]
 | succ f => simp [nJ, gOf]
def aMf (g : List Int → Int → Mk) (dp : Int) (N : Nat) : Prop := ∀ l left, aAe l → Fits l → -9223372036854775808 + (N : Int) ≤ left → left ≤ 1000000 →
 aY Tryz.prog 35 [.one (.vp 700 0), I .i64 dp] (mkO l left) (.pa (aA (g l left).1)) (mkO (g l left).2.1 (g l left).2.2)
theorem rE (f : Nat) (dp : Int) (hd : dp + f = 6) (h0 : 0 ≤ dp) (ih : 1 ≤ f → aMf (gOf f) (dp + 1) (use (f - 1))) (hg : 1 ≤ f → MkOk (gOf f) (use (f - 1))) : aMf (nJ f) dp (use f) := by
 intro l left hl hf hlo hhi;have hn := pK l;have hl1 := hl.suf (eJ l);have hf1 := hf.suf (eJ l);have huse : 1 ≤ use f := by cases f <;> simp [use]
 refine c8 (n := 211) tok Tryz.func35 rfl rfl rfl ?_;refine a8 (ag [] rfl ?_);refine a8 (aF mixed ?_);refine ak 1 [] rfl ?_;refine kc (aE2 l left hl hf) ?_;refine ak 1 [] rfl ?_;refine az ?_;refine a8 (ag [] rfl ?_);refine a8 (ag [] rfl ?_);refine a8 (AWp.cut (mk [(0, .one (.vp 700 0)), (1, I .i64 dp), (4, .one (.vp 4 0)), (5, I .i64 (aW l).1), (6, I .i64 (if f = 0 ∨ left - 1 < 1 then (aW l).1 % 4 else (aW l).1 % 14))] ((4, .var 37 [.c (.int .i64 0), .c (.int .i64 0), .c (.str []), .c (.int .i64 0), .c (.int .i64 0), .c (.str []), .c .nl, .c .nl, .c .nl, .c .nl]) :: mkO (aW l).2 (left - 1))) ?_ ?_)
 ·refine a8 (agF 3 [] rfl rfl rfl ?_);refine aB rfl (fun hb => ?_) (fun hb => ?_)
  ·have hb' : f = 0 ∨ left - 1 < 1 := by
    simp at hb;omega
   refine ag [] rfl ?_;rw [if_pos hb'];exact .list (fun i => i) ⟨rfl, rfl, rfl, rfl, rfl, trivial⟩ ⟨⟨_, rfl, .var rfl⟩, ⟨_, rfl, .var rfl⟩, trivial⟩ rfl
  ·have hb' : ¬ (f = 0 ∨ left - 1 < 1) := by
    simp at hb;omega
   refine aD ?_;rw [if_neg hb'];exact .list (fun i => i) ⟨rfl, rfl, rfl, rfl, rfl, trivial⟩ ⟨⟨_, rfl, .var rfl⟩, ⟨_, rfl, .var rfl⟩, trivial⟩ rfl
 have hr0 := aOn f l left;have hk0 : 0 ≤ (if f = 0 ∨ left - 1 < 1 then (aW l).1 % 4 else (aW l).1 % 14) := by split <;> omega
 have hkf : 4 ≤ (if f = 0 ∨ left - 1 < 1 then (aW l).1 % 4 else (aW l).1 % 14) → 1 ≤ f ∧ 1 ≤ left - 1 := by split <;> omega
 rw [hr0];clear hr0;generalize (if f = 0 ∨ left - 1 < 1 then (aW l).1 % 4 else (aW l).1 % 14) = k at hk0 hkf ⊢;generalize (aW l).2 = l1 at hl1 hf1 ⊢;generalize (aW l).1 = n at hn ⊢;have hlu : -9223372036854775808 + (use f : Int) ≤ left := hlo;refine a8 (a8 (ag [] rfl ?_))

 refine aC (a8 (a8 (ag [] rfl ?_)));refine aB rfl (fun hb => ?_) (fun hb => ?_)
 ·have h0 : k = 0 := by simpa using hb
  refine aD (aB rfl (fun _ => ?_) (fun hb' => by rw [hb] at hb'; cases hb'));have hr : dI (gOf f) n k l1 (left - 1) = (.mk 1 0 (oneOf nmL (n / 14)) zTy [] [] [], l1, left - 1) := by
   unfold dI;rw [if_pos (by omega)]
  rw [hr];refine a8 (aF mixed ?_);refine ak 2 [] rfl ?_;refine kc (z8 (n / 14) (by unfold i64; omega)) ?_;refine ak 2 [] rfl ?_;refine az ?_;exact aE (rtC trw)
 ·have h0 : ¬ k = 0 := by simpa using hb
  refine ag [] rfl ?_;refine aB rfl (fun hb1 => ?_) (fun hb1 => ?_)
  ·have h1 : k = 1 := by simpa using hb1
   have hr : dI (gOf f) n k l1 (left - 1) = (.mk 1 0 (oneOf nmL (n / 14)) zTy [] [] [], l1, left - 1) := by
    unfold dI;rw [if_pos (by omega)]
   rw [hr];refine a8 (aF mixed ?_);refine ak 2 [] rfl ?_;refine kc (z8 (n / 14) (by unfold i64; omega)) ?_;refine ak 2 [] rfl ?_;refine az ?_;exact aE (rtC trw)
  ·have h1 : ¬ k = 1 := by simpa using hb1
   have c1 : ¬ k < 2 := by omega
   refine a8 (ag [] rfl ?_);refine aB rfl (fun hb2 => ?_) (fun hb2 => ?_)
   ·have h2 : k = 2 := by simpa using hb2
    have hr : dI (gOf f) n k l1 (left - 1) = (.mk 2 0 (oneOf aK1 (n / 14)) zTy [] [] [], l1, left - 1) := by
     unfold dI;rw [if_neg c1, if_pos h2]
    rw [hr];refine a8 (aF mixed ?_);refine ak 2 [] rfl ?_;refine kc (aO7 (n / 14) (by unfold i64; omega)) ?_;refine ak 2 [] rfl ?_;refine az ?_;exact aE (rtC trw)
   ·have h2 : ¬ k = 2 := by simpa using hb2
    refine a8 (ag [] rfl ?_);refine aB rfl (fun hb3 => ?_) (fun hb3 => ?_)
    ·have h3 : k = 3 := by simpa using hb3
     have hr : dI (gOf f) n k l1 (left - 1) = (.mk 3 (n / 14 - 3) [] zTy [] [] [], l1, left - 1) := by
      unfold dI;rw [if_neg c1, if_neg h2, if_pos h3]
     rw [hr];refine a8 (ag [] rfl ?_);exact aE (rtC trw)
    ·have h3 : ¬ k = 3 := by simpa using hb3
     refine a8 (a8 (ag [] rfl ?_));refine aB rfl (fun hb4 => ?_) (fun hb4 => ?_)
     ·have h4 : k = 4 := by simpa using hb4
      refine aD (aB rfl (fun _ => ?_) (fun hb' => by rw [hb4] at hb'; cases hb'));obtain ⟨hf0, hl0⟩ := hkf (by omega);have ho := hg hf0;have hu : use f = 1 + 4 * use (f - 1) := by cases f with | zero => omega | succ f => rfl
      have g1 := ho.suf l1 (left - 1);have g2 := ho.le l1 (left - 1);have g3 := ho.ge l1 (left - 1);have ih1 := ih hf0 l1 (left - 1) hl1 hf1 (by omega) (by omega);have ih2 := ih hf0 (gOf f l1 (left - 1)).2.1 (gOf f l1 (left - 1)).2.2 (hl1.suf g1) (hf1.suf g1) (by omega) (by omega);have hr : dI (gOf f) n k l1 (left - 1) = (.mk 4 0 [] zTy [(gOf f l1 (left - 1)).1, (gOf f (gOf f l1 (left - 1)).2.1 (gOf f l1 (left - 1)).2.2).1] [] [], (gOf f (gOf f l1 (left - 1)).2.1 (gOf f l1 (left - 1)).2.2).2) := by
       unfold dI;rw [if_neg c1, if_neg h2, if_neg h3, if_pos (by omega)]
      rw [hr];refine a8 (aF mixed ?_);refine ak 3 [] rfl ?_;refine kc ih1 ?_;refine ak 2 [] rfl ?_;refine az ?_;refine a8 (aF mixed ?_);refine ak 4 [] rfl ?_;refine kc ih2 ?_;refine ak 3 [] rfl ?_;refine az ?_;refine AWp.sub (Sub.freeze (id := 72) rfl) (aE (rtC trw))
     ·have h4 : ¬ k = 4 := by simpa using hb4
      refine ag [] rfl ?_;refine aB rfl (fun hb5 => ?_) (fun hb5 => ?_)
      ·have h5 : k = 5 := by simpa using hb5
       obtain ⟨hf0, hl0⟩ := hkf (by omega);have ho := hg hf0;have hu : use f = 1 + 4 * use (f - 1) := by cases f with | zero => omega | succ f => rfl
       have g1 := ho.suf l1 (left - 1);have g2 := ho.le l1 (left - 1);have g3 := ho.ge l1 (left - 1);have ih1 := ih hf0 l1 (left - 1) hl1 hf1 (by omega) (by omega);have ih2 := ih hf0 (gOf f l1 (left - 1)).2.1 (gOf f l1 (left - 1)).2.2 (hl1.suf g1) (hf1.suf g1) (by omega) (by omega);have hr : dI (gOf f) n k l1 (left - 1) = (.mk 4 0 [] zTy [(gOf f l1 (left - 1)).1, (gOf f (gOf f l1 (left - 1)).2.1 (gOf f l1 (left - 1)).2.2).1] [] [], (gOf f (gOf f l1 (left - 1)).2.1 (gOf f l1 (left - 1)).2.2).2) := by
        unfold dI;rw [if_neg c1, if_neg h2, if_neg h3, if_pos (by omega)]
       rw [hr];refine a8 (aF mixed ?_);refine ak 3 [] rfl ?_;refine kc ih1 ?_;refine ak 2 [] rfl ?_;refine az ?_;refine a8 (aF mixed ?_);refine ak 4 [] rfl ?_;refine kc ih2 ?_;refine ak 3 [] rfl ?_;refine az ?_;refine AWp.sub (Sub.freeze (id := 72) rfl) (aE (rtC trw))
      ·have h5 : ¬ k = 5 := by simpa using hb5
       have c2 : ¬ k < 6 := by omega
       refine a8 (a8 (ag [] rfl ?_));refine aB rfl (fun hb6 => ?_) (fun hb6 => ?_)
       ·have h6 : k = 6 := by simpa using hb6
        refine aD (aB rfl (fun _ => ?_) (fun hb' => by rw [hb6] at hb'; cases hb'));obtain ⟨hf0, hl0⟩ := hkf (by omega);have ho := hg hf0;have hu : use f = 1 + 4 * use (f - 1) := by cases f with | zero => omega | succ f => rfl
        have ht := fL 2 l1;have iht := ih hf0 (cC 2 l1).2 (left - 1) (hl1.suf ht) (hf1.suf ht) (by omega) (by omega);have hty := aGk (left - 1) 2 l1 1 hl1 hf1 (by omega) (by omega);have hr : dI (gOf f) n k l1 (left - 1) = (.mk 5 0 (oneOf nmL (n / 14)) (cC 2 l1).1 [(gOf f (cC 2 l1).2 (left - 1)).1] [] [], (gOf f (cC 2 l1).2 (left - 1)).2) := by
         unfold dI;rw [if_neg c1, if_neg h2, if_neg h3, if_neg c2, if_pos (by omega)]
        rw [hr];refine a8 (aF mixed ?_);refine ak 1 [] rfl ?_;refine kc hty ?_;refine ak 2 [] rfl ?_;refine az ?_;refine a8 (aF mixed ?_);refine ak 2 [] rfl ?_;refine kc (z8 (n / 14) (by unfold i64; omega)) ?_;refine ak 4 [] rfl ?_;refine kc iht ?_;refine ak 3 [] rfl ?_;refine az ?_;refine AWp.sub (Sub.freeze (id := 87) rfl) (aE (rtC trw))
       ·have h6 : ¬ k = 6 := by simpa using hb6
        refine ag [] rfl ?_;refine aB rfl (fun hb7 => ?_) (fun hb7 => ?_)
        ·have h7 : k = 7 := by simpa using hb7
         obtain ⟨hf0, hl0⟩ := hkf (by omega);have ho := hg hf0;have hu : use f = 1 + 4 * use (f - 1) := by cases f with | zero => omega | succ f => rfl
         have ht := fL 2 l1;have iht := ih hf0 (cC 2 l1).2 (left - 1) (hl1.suf ht) (hf1.suf ht) (by omega) (by omega);have hty := aGk (left - 1) 2 l1 1 hl1 hf1 (by omega) (by omega);have hr : dI (gOf f) n k l1 (left - 1) = (.mk 5 0 (oneOf nmL (n / 14)) (cC 2 l1).1 [(gOf f (cC 2 l1).2 (left - 1)).1] [] [], (gOf f (cC 2 l1).2 (left - 1)).2) := by
          unfold dI;rw [if_neg c1, if_neg h2, if_neg h3, if_neg c2, if_pos (by omega)]
         rw [hr];refine a8 (aF mixed ?_);refine ak 1 [] rfl ?_;refine kc hty ?_;refine ak 2 [] rfl ?_;refine az ?_;refine a8 (aF mixed ?_);refine ak 2 [] rfl ?_;refine kc (z8 (n / 14) (by unfold i64; omega)) ?_;refine ak 4 [] rfl ?_;refine kc iht ?_;refine ak 3 [] rfl ?_;refine az ?_;refine AWp.sub (Sub.freeze (id := 87) rfl) (aE (rtC trw))
        ·have h7 : ¬ k = 7 := by simpa using hb7
         have c3 : ¬ k < 8 := by omega
         refine a8 (ag [] rfl ?_);refine aB rfl (fun hb8 => ?_) (fun hb8 => ?_)
         ·have h8 : k = 8 := by simpa using hb8
          obtain ⟨hf0, hl0⟩ := hkf (by omega);have ho := hg hf0;have hu : use f = 1 + 4 * use (f - 1) := by cases f with | zero => omega | succ f => rfl
          have ht := fL 2 l1;have iht := ih hf0 (cC 2 l1).2 (left - 1) (hl1.suf ht) (hf1.suf ht) (by omega) (by omega);have hty := aGk (left - 1) 2 l1 1 hl1 hf1 (by omega) (by omega);have hr : dI (gOf f) n k l1 (left - 1) = (.mk 6 0 [] (cC 2 l1).1 [(gOf f (cC 2 l1).2 (left - 1)).1] [] [], (gOf f (cC 2 l1).2 (left - 1)).2) := by
           unfold dI;rw [if_neg c1, if_neg h2, if_neg h3, if_neg c2, if_neg c3, if_pos h8]
          rw [hr];refine a8 (aF mixed ?_);refine ak 1 [] rfl ?_;refine kc hty ?_;refine ak 2 [] rfl ?_;refine az ?_;refine a8 (aF mixed ?_);refine ak 4 [] rfl ?_;refine kc iht ?_;refine ak 3 [] rfl ?_;refine az ?_;refine AWp.sub (Sub.freeze (id := 98) rfl) (aE (rtC trw))
         ·have h8 : ¬ k = 8 := by simpa using hb8
          refine a8 (ag [] rfl ?_);refine aB rfl (fun hb9 => ?_) (fun hb9 => ?_)
          ·have h9 : k = 9 := by simpa using hb9
           obtain ⟨hf0, hl0⟩ := hkf (by omega);have ho := hg hf0;have hu : use f = 1 + 4 * use (f - 1) := by cases f with | zero => omega | succ f => rfl
           have g1 := ho.suf l1 (left - 1);have g2 := ho.le l1 (left - 1);have g3 := ho.ge l1 (left - 1);have ih1 := ih hf0 l1 (left - 1) hl1 hf1 (by omega) (by omega);have ih2 := ih hf0 (gOf f l1 (left - 1)).2.1 (gOf f l1 (left - 1)).2.2 (hl1.suf g1) (hf1.suf g1) (by omega) (by omega);have hr : dI (gOf f) n k l1 (left - 1) = (.mk 7 0 (oneOf l5 (n / 14)) zTy [(gOf f l1 (left - 1)).1] [] [], (gOf f l1 (left - 1)).2) := by
            unfold dI;rw [if_neg c1, if_neg h2, if_neg h3, if_neg c2, if_neg c3, if_neg h8, if_pos h9]
           rw [hr];refine a8 (aF mixed ?_);refine ak 2 [] rfl ?_;refine kc (oC (n / 14) (by unfold i64; omega)) ?_;refine ak 3 [] rfl ?_;refine kc ih1 ?_;refine ak 3 [] rfl ?_;refine az ?_;refine AWp.sub (Sub.freeze (id := 109) rfl) (aE (rtC trw))
          ·have h9 : ¬ k = 9 := by simpa using hb9
           refine a8 (ag [] rfl ?_);refine aB rfl (fun hb10 => ?_) (fun hb10 => ?_)
           ·have h10 : k = 10 := by simpa using hb10
            obtain ⟨hf0, hl0⟩ := hkf (by omega);have ho := hg hf0;have hu : use f = 1 + 4 * use (f - 1) := by cases f with | zero => omega | succ f => rfl
            have hnm := gT l1;have hr : dI (gOf f) n k l1 (left - 1) = (.mk 8 0 [] zTy [(gOf f (bL (gOf f) (b6 l1).1 (b6 l1).2 (left - 1) (b6 l1).1.length).2.1 (bL (gOf f) (b6 l1).1 (b6 l1).2 (left - 1) (b6 l1).1.length).2.2).1] (bL (gOf f) (b6 l1).1 (b6 l1).2 (left - 1) (b6 l1).1.length).1 [], (gOf f (bL (gOf f) (b6 l1).1 (b6 l1).2 (left - 1) (b6 l1).1.length).2.1 (bL (gOf f) (b6 l1).1 (b6 l1).2 (left - 1) (b6 l1).1.length).2.2).2) := by
             unfold dI;rw [if_neg c1, if_neg h2, if_neg h3, if_neg c2, if_neg c3, if_neg h8, if_neg h9, if_pos h10]
            rw [hr];refine a8 (aF mixed ?_);refine ak 1 [] rfl ?_;refine kc (aLa (left - 1) l1 hl1 hf1) ?_;refine ak 1 [] rfl ?_;refine az ?_;have hl2 := hl1.suf (j2 l1);have hf2 := hf1.suf (j2 l1);generalize (b6 l1).1 = ns at hnm ⊢;generalize (b6 l1).2 = l2 at hl2 hf2 ⊢;refine a8 (ag [] rfl ?_);refine a8 (a8 (ag [] rfl ?_));refine AWp.sub (Sub.ownCell (x := 11) (k := 8) (id := 800) 73 15 rfl rfl rfl) ?_;have hB := oF ho ns l2 (left - 1);generalize hBd : bL (gOf f) ns l2 (left - 1) = B at hB ⊢;refine aC (aJ (fun i : Nat => mk [(0, .one (.vp 700 0)), (1, I .i64 dp), (4, .one (.vp 4 0)), (10, .one (.c (.sl 1 (ns.map bG)))), (11, .one (.vp 11 0)), (12, I .i64 i)] ((4, .var 37 [.c (.int .i64 0), .c (.int .i64 0), .c (.str []), .c (.int .i64 0), .c (.int .i64 0), .c (.str []), .c .nl, .c .nl, .c .nl, .c .nl]) :: (11, .var 37 [.c (.int .i64 8), .c (.int .i64 0), .c (.str []), .c (.int .i64 0), .c (.int .i64 0), .c (.str []), .c .nl, .c .nl, .hs 800 0 (B i).1.length (B i).1.length, .c .nl]) :: (800, .arr 73 15 (aO (B i).1) 0) :: mkO (B i).2.1 (B i).2.2)) (fun i => i ≤ ns.length) (fun i => ns.length - i) 0 (zero_le _) (by rw [← hBd]; exact .list (fun i => i) ⟨rfl, rfl, rfl, rfl, rfl, rfl, trivial⟩ ⟨⟨_, rfl, .var rfl⟩, ⟨_, rfl, .var rfl⟩, ⟨_, rfl, .arr⟩, ⟨_, rfl, .var rfl⟩, trivial⟩ rfl) ?_);intro i hi;obtain ⟨b1, b2, b3, b4⟩ := hB i;have hsz : (B i).1.length = (aO (B i).1).length := by rw [bD, length_map]
            have hbl : (aO (B i).1).length ≤ 3 := by omega
            have hm : (i : Int) * (use (f - 1) : Int) ≤ 3 * (use (f - 1) : Int) := Int.mul_le_mul_of_nonneg_right (by omega) (by omega);have hlB := hl2.suf b1;have hfB := hf2.suf b1;refine a8 (a8 (ag [] rfl ?_));refine aB rfl (fun hb => ?_) (fun hb => ?_)
            ·refine aD ?_;have hlt : i < ns.length := by simpa using hb
             obtain ⟨s, hs⟩ := aL hlt;have hs' := cE bG hs;have hty := aGk (B i).2.2 2 (B i).2.1 1 hlB hfB (by omega) (by omega);have htS := fL 2 (B i).2.1;have ihB := ih hf0 (cC 2 (B i).2.1).2 (B i).2.2 (hlB.suf htS) (hfB.suf htS) (by omega) (by omega);have he : B (i + 1) = ((B i).1 ++ [.mk s (cC 2 (B i).2.1).1 (gOf f (cC 2 (B i).2.1).2 (B i).2.2).1], (gOf f (cC 2 (B i).2.1).2 (B i).2.2).2) := by
              rw [← hBd, bL, hs];rfl
             refine a8 (aC (a8 (aF mixed ?_)));refine ak 1 [] rfl ?_;refine kc hty ?_;refine ak 2 [] rfl ?_;refine az ?_;refine aF mixed ?_;refine ak 10 [(4, .row i (bG s))] rfl ?_;refine kc ihB ?_;refine ak 5 [] rfl ?_;refine az ?_;refine ag [] rfl ?_;refine ⟨i + 1, hlt, by dsimp only; omega, ?_⟩;dsimp only;rw [he];exact .list (fun i => i) ⟨rfl, rfl, rfl, rfl, rfl, rfl, trivial⟩ ⟨⟨_, rfl, .var rfl⟩, ⟨_, rfl, .var (by simp [R.renL, R.ren, bD])⟩, ⟨_, rfl, by rw [bD ((B i).1 ++ _), map_append, ← bD]; exact .arr⟩, ⟨_, rfl, .var rfl⟩, trivial⟩ rfl
            ·have hie : i = ns.length := by
              have : ¬ i < ns.length := by simpa using hb
              omega
             rw [← hie];have ihB := ih hf0 (B i).2.1 (B i).2.2 hlB hfB (by omega) (by omega);have hE : aO (B i).1 = ((aO (B i).1).drop 0).take (B i).1.length := by rw [drop_zero, hsz, take_length]
             refine aK (a8 (aF mixed ?_));refine ak 3 [] rfl ?_;refine kc ihB ?_;refine ak 3 [] rfl ?_;refine az ?_;refine a8 (ag [] rfl ?_);refine AWp.sub (Sub.freeze (id := 800) rfl) (AWp.sub (Sub.freeze (id := 143) rfl) (aE ?_));exact ⟨.inr rfl, ⟨_, _, .cell rfl (tg rfl) rfl rfl rfl .nil, .cons (by (first | apply Go.AM.Conv.pa | apply Go.AM.Conv.agg); repeat (first | exact .nil | apply Go.AM.PureL.c .refl | apply Go.AM.PureL.c .nl | (apply Go.AM.PureL.hs; rfl; (first | rfl | assumption | simp); (first | exact hE | rfl)))) .nil, rfl⟩, ⟨⟨_, rfl, .var rfl⟩, trivial⟩, rfl⟩
           ·have h10 : ¬ k = 10 := by simpa using hb10
            refine a8 (ag [] rfl ?_);refine aB rfl (fun hb11 => ?_) (fun hb11 => ?_)
            ·have h11 : k = 11 := by simpa using hb11
             obtain ⟨hf0, hl0⟩ := hkf (by omega);have ho := hg hf0;have hu : use f = 1 + 4 * use (f - 1) := by cases f with | zero => omega | succ f => rfl
             have ht := fL 2 l1;have iht := ih hf0 (cC 2 l1).2 (left - 1) (hl1.suf ht) (hf1.suf ht) (by omega) (by omega);have hty := aGk (left - 1) 2 l1 1 hl1 hf1 (by omega) (by omega);have hr : dI (gOf f) n k l1 (left - 1) = (.mk 9 0 [] (cC 2 l1).1 [(gOf f (cC 2 l1).2 (left - 1)).1] [] (cH (gOf f) n (gOf f (cC 2 l1).2 (left - 1)).2.1 (gOf f (cC 2 l1).2 (left - 1)).2.2 (n / 14 % 4).toNat).1, (cH (gOf f) n (gOf f (cC 2 l1).2 (left - 1)).2.1 (gOf f (cC 2 l1).2 (left - 1)).2.2 (n / 14 % 4).toNat).2) := by
              unfold dI;rw [if_neg c1, if_neg h2, if_neg h3, if_neg c2, if_neg c3, if_neg h8, if_neg h9, if_neg h10, if_pos h11]
             rw [hr];refine a8 (aF mixed ?_);refine ak 1 [] rfl ?_;refine kc hty ?_;refine ak 3 [] rfl ?_;refine az ?_;refine a8 (aF mixed ?_);refine ak 3 [] rfl ?_;refine kc iht ?_;refine ak 3 [] rfl ?_;refine az ?_;have g1 := (ho.suf (cC 2 l1).2 (left - 1)).trans ht;have g2 := ho.le (cC 2 l1).2 (left - 1);have g3 := ho.ge (cC 2 l1).2 (left - 1);have hl2 := hl1.suf g1;have hf2 := hf1.suf g1;generalize gOf f (cC 2 l1).2 (left - 1) = c at g2 g3 hl2 hf2 ⊢;generalize (cC 2 l1).1 = t;refine a8 (a8 (ag [] rfl ?_));refine AWp.sub (Sub.freeze (id := 155) rfl) (AWp.sub (Sub.ownCell (x := 14) (k := 9) (id := 900) 78 14 rfl rfl rfl) ?_);have hA := rH ho n c.2.1 c.2.2;generalize hAd : cH (gOf f) n c.2.1 c.2.2 = A at hA ⊢;refine aC (aJ (fun i : Nat => mk [(0, .one (.vp 700 0)), (1, I .i64 dp), (4, .one (.vp 4 0)), (5, I .i64 n), (14, .one (.vp 14 0)), (15, I .i64 i)] ((4, .var 37 [.c (.int .i64 0), .c (.int .i64 0), .c (.str []), .c (.int .i64 0), .c (.int .i64 0), .c (.str []), .c .nl, .c .nl, .c .nl, .c .nl]) :: (14, .var 37 [.c (.int .i64 9), .c (.int .i64 0), .c (.str []), .c (.int .i64 t.form), .c (.int .i64 t.n), .c (.str t.name), .c (.sl 4 (gM t)), .hs 155 0 1 1, .c .nl, .hs 900 0 (A i).1.length (A i).1.length]) :: (155, .arr 37 10 [aA c.1] 2) :: (900, .arr 78 14 (bK (A i).1) 0) :: mkO (A i).2.1 (A i).2.2)) (fun i => (i : Int) ≤ n / 14 % 4) (fun i => 4 - i) 0 (by simp; omega) (by rw [← hAd]; exact .list (fun i => i) ⟨rfl, rfl, rfl, rfl, rfl, rfl, trivial⟩ ⟨⟨_, rfl, .var rfl⟩, ⟨_, rfl, .var rfl⟩, ⟨_, rfl, .arr⟩, ⟨_, rfl, .arr⟩, ⟨_, rfl, .var rfl⟩, trivial⟩ rfl) ?_);intro i hi;obtain ⟨b1, b2, b3, b4⟩ := hA i;have hsz : (A i).1.length = (bK (A i).1).length := by rw [bE, length_map]
             have hbl : (bK (A i).1).length ≤ 3 := by omega
             have hm : (i : Int) * (use (f - 1) : Int) ≤ 3 * (use (f - 1) : Int) := Int.mul_le_mul_of_nonneg_right (by omega) (by omega);have hlA := hl2.suf b1;have hfA := hf2.suf b1;refine a8 (a8 (ag [] rfl ?_));refine aB rfl (fun hb => ?_) (fun hb => ?_)
             ·refine aD ?_;have hlt : (i : Int) < n / 14 % 4 := by simpa using hb
              have hm2 : (i : Int) * (use (f - 1) : Int) ≤ 2 * (use (f - 1) : Int) := Int.mul_le_mul_of_nonneg_right (by omega) (by omega);have hnames := aLa (A i).2.2 (A i).2.1 hlA hfA;have hnS := j2 (A i).2.1;have ihA := ih hf0 (b6 (A i).2.1).2 (A i).2.2 (hlA.suf hnS) (hfA.suf hnS) (by omega) (by omega);have hi3 : i = 0 ∨ i = 1 ∨ i = 2 := by omega
              rcases hi3 with rfl | rfl | rfl
              ·-- 0
               have he : A (0 + 1) = ((A 0).1 ++ [.mk 1 0 (oneOf aK1 (n / 14 + ((0 : Nat) : Int))) (b6 (A 0).2.1).1 (gOf f (b6 (A 0).2.1).2 (A 0).2.2).1], (gOf f (b6 (A 0).2.1).2 (A 0).2.2).2) := by
                rw [← hAd, cH];rfl
               refine a8 (aC (a8 (aF mixed ?_)));refine ak 4 [] rfl ?_;refine kc (aO7 (n / 14 + ((0 : Nat) : Int)) (by unfold i64; omega)) ?_;refine ak 1 [] rfl ?_;refine kc hnames ?_;refine ak 3 [] rfl ?_;refine az ?_;refine a8 (a8 (ag [] rfl ?_));refine aB rfl (fun hb => by simp at hb) (fun _ => ?_);refine aD ?_;refine a8 (a8 (ag [] rfl ?_));refine aB rfl (fun hb => by simp at hb) (fun _ => ?_);refine aD ?_;refine a8 (aF mixed ?_);refine ak 3 [] rfl ?_;refine kc ihA ?_;refine ak 2 [] rfl ?_;refine az ?_;refine ag [] rfl ?_;refine ag [] rfl ?_;refine ⟨0 + 1, by omega, by dsimp only; omega, ?_⟩;dsimp only;rw [he];exact .list (fun i => i) ⟨rfl, rfl, rfl, rfl, rfl, rfl, trivial⟩ ⟨⟨_, rfl, .var rfl⟩, ⟨_, rfl, .var (by simp [R.renL, R.ren, bE])⟩, ⟨_, rfl, .arr⟩, ⟨_, rfl, by rw [bE ((A 0).1 ++ _), map_append, ← bE]; exact .arr⟩, ⟨_, rfl, .var rfl⟩, trivial⟩ rfl
              ·-- 1
               have he : A (1 + 1) = ((A 1).1 ++ [.mk 2 (n / 14) [] [] (gOf f (b6 (A 1).2.1).2 (A 1).2.2).1], (gOf f (b6 (A 1).2.1).2 (A 1).2.2).2) := by
                rw [← hAd, cH];rfl
               refine a8 (aC (a8 (aF mixed ?_)));refine ak 4 [] rfl ?_;refine kc (aO7 (n / 14 + ((1 : Nat) : Int)) (by unfold i64; omega)) ?_;refine ak 1 [] rfl ?_;refine kc hnames ?_;refine ak 3 [] rfl ?_;refine az ?_;refine a8 (a8 (ag [] rfl ?_));refine aB rfl (fun _ => ?_) (fun hb => by simp at hb);refine ag [] rfl ?_;refine a8 (a8 (ag [] rfl ?_));refine aB rfl (fun hb => by simp at hb) (fun _ => ?_);refine aD ?_;refine a8 (aF mixed ?_);refine ak 3 [] rfl ?_;refine kc ihA ?_;refine ak 2 [] rfl ?_;refine az ?_;refine ag [] rfl ?_;refine ag [] rfl ?_;refine ⟨1 + 1, by omega, by dsimp only; omega, ?_⟩;dsimp only;rw [he];exact .list (fun i => i) ⟨rfl, rfl, rfl, rfl, rfl, rfl, trivial⟩ ⟨⟨_, rfl, .var rfl⟩, ⟨_, rfl, .var (by simp [R.renL, R.ren, bE])⟩, ⟨_, rfl, .arr⟩, ⟨_, rfl, by rw [bE ((A 1).1 ++ _), map_append, ← bE]; exact .arr⟩, ⟨_, rfl, .var rfl⟩, trivial⟩ rfl
              ·-- 2
               have he : A (2 + 1) = ((A 2).1 ++ [.mk 3 0 [] [] (gOf f (b6 (A 2).2.1).2 (A 2).2.2).1], (gOf f (b6 (A 2).2.1).2 (A 2).2.2).2) := by
                rw [← hAd, cH];rfl
               refine a8 (aC (a8 (aF mixed ?_)));refine ak 4 [] rfl ?_;refine kc (aO7 (n / 14 + ((2 : Nat) : Int)) (by unfold i64; omega)) ?_;refine ak 1 [] rfl ?_;refine kc hnames ?_;refine ak 3 [] rfl ?_;refine az ?_;refine a8 (a8 (ag [] rfl ?_));refine aB rfl (fun hb => by simp at hb) (fun _ => ?_);refine aD ?_;refine a8 (a8 (ag [] rfl ?_));refine aB rfl (fun _ => ?_) (fun hb => by simp at hb);refine ag [] rfl ?_;refine a8 (aF mixed ?_);refine ak 3 [] rfl ?_;refine kc ihA ?_;refine ak 2 [] rfl ?_;refine az ?_;refine ag [] rfl ?_;refine ag [] rfl ?_;refine ⟨2 + 1, by omega, by dsimp only; omega, ?_⟩;dsimp only;rw [he];exact .list (fun i => i) ⟨rfl, rfl, rfl, rfl, rfl, rfl, trivial⟩ ⟨⟨_, rfl, .var rfl⟩, ⟨_, rfl, .var (by simp [R.renL, R.ren, bE])⟩, ⟨_, rfl, .arr⟩, ⟨_, rfl, by rw [bE ((A 2).1 ++ _), map_append, ← bE]; exact .arr⟩, ⟨_, rfl, .var rfl⟩, trivial⟩ rfl
             ·have hie : (n / 14 % 4).toNat = i := by
               have : ¬ (i : Int) < n / 14 % 4 := by simpa using hb
               omega
              rw [hie];have hE : bK (A i).1 = ((bK (A i).1).drop 0).take (A i).1.length := by rw [drop_zero, hsz, take_length]
              refine aK (a8 (ag [] rfl ?_));refine AWp.sub (Sub.freeze (id := 900) rfl) (aE ?_);exact ⟨.inr rfl, ⟨_, _, .cell rfl (tg rfl) rfl rfl rfl .nil, .cons (by (first | apply Go.AM.Conv.pa | apply Go.AM.Conv.agg); repeat (first | exact .nil | apply Go.AM.PureL.c .refl | apply Go.AM.PureL.c .nl | (apply Go.AM.PureL.hs; rfl; (first | rfl | assumption | simp); (first | exact hE | rfl)))) .nil, rfl⟩, ⟨⟨_, rfl, .var rfl⟩, trivial⟩, rfl⟩
            ·have h11 : ¬ k = 11 := by simpa using hb11
             refine a8 (ag [] rfl ?_);refine aB rfl (fun hb12 => ?_) (fun hb12 => ?_)
             ·have h12 : k = 12 := by simpa using hb12
              obtain ⟨hf0, hl0⟩ := hkf (by omega);have ho := hg hf0;have hu : use f = 1 + 4 * use (f - 1) := by cases f with | zero => omega | succ f => rfl
              have g1 := ho.suf l1 (left - 1);have g2 := ho.le l1 (left - 1);have g3 := ho.ge l1 (left - 1);have ih1 := ih hf0 l1 (left - 1) hl1 hf1 (by omega) (by omega);have ih2 := ih hf0 (gOf f l1 (left - 1)).2.1 (gOf f l1 (left - 1)).2.2 (hl1.suf g1) (hf1.suf g1) (by omega) (by omega);have hr : dI (gOf f) n k l1 (left - 1) = (.mk 10 0 (oneOf xY (n / 14)) zTy [(gOf f l1 (left - 1)).1, (gOf f (gOf f l1 (left - 1)).2.1 (gOf f l1 (left - 1)).2.2).1] [] [], (gOf f (gOf f l1 (left - 1)).2.1 (gOf f l1 (left - 1)).2.2).2) := by
               unfold dI;rw [if_neg c1, if_neg h2, if_neg h3, if_neg c2, if_neg c3, if_neg h8, if_neg h9, if_neg h10, if_neg h11, if_pos h12]
              rw [hr];refine a8 (aF mixed ?_);refine ak 3 [] rfl ?_;refine kc ih1 ?_;refine ak 2 [] rfl ?_;refine az ?_;refine a8 (aF mixed ?_);refine ak 2 [] rfl ?_;refine kc (aXt (n / 14) (by unfold i64; omega)) ?_;refine ak 4 [] rfl ?_;refine kc ih2 ?_;refine ak 3 [] rfl ?_;refine az ?_;refine AWp.sub (Sub.freeze (id := 206) rfl) (aE (rtC trw))
             ·have h12 : ¬ k = 12 := by simpa using hb12
              have hty := aGk (left - 1) 2 l1 1 hl1 hf1 (by omega) (by omega);have hr : dI (gOf f) n k l1 (left - 1) = (.mk 11 0 [] (cC 2 l1).1 [] [] [], (cC 2 l1).2, left - 1) := by
               unfold dI;rw [if_neg c1, if_neg h2, if_neg h3, if_neg c2, if_neg c3, if_neg h8, if_neg h9, if_neg h10, if_neg h11, if_neg h12]
              rw [hr];refine aD (a8 (aF mixed ?_));refine ak 1 [] rfl ?_;refine kc hty ?_;refine ak 2 [] rfl ?_;refine az ?_;exact aE (rtC trw)
theorem aRi : ∀ f : Nat, f ≤ 6 → aMf (nJ f) (6 - (f : Int)) (use f)
 | 0, _ => rE 0 _ (by omega) (by omega) (fun h => by omega) (fun h => by omega)
 | f + 1, hf => by
  refine rE (f + 1) _ (by omega) (by omega) (fun _ => ?_) (fun _ => aEu f);have := aRi f (by omega);rwa [show (6 : Int) - ((f + 1 : Nat) : Int) + 1 = 6 - (f : Int) by omega]
theorem aRh (l : List Int) (k : Nat) (hf : Fits l) (hk : k ≤ 1000) : aY Tryz.prog 20 [.one (.c (.sl 1 (l.map yS))), I .i64 k] [] (.one (.c (.sl 1 ((l.take k).map yS)))) [] := by
 unfold Fits at hf;refine c8 (n := 14) tok Tryz.func20 rfl rfl rfl ?_;refine a8 (ag [] rfl ?_);refine a8 (ag [] rfl ?_);refine a8 (aF mixed ?_);refine ak 6 [] rfl ?_;have hm : (if (k : Int) < (((l.map yS).length : Nat) : Int) then (k : Int) else (((l.map yS).length : Nat) : Int)) = ((min l.length k : Nat) : Int) := by
  rw [length_map];split <;> omega
 rw [hm];have ht : (l.map yS).take (min l.length k) = (l.take k).map yS := by
  rw [← List.map_take];congr 1;by_cases h : k ≤ l.length
  ·rw [Nat.min_eq_right h]
  ·rw [min_eq_left (by omega), take_of_length_le (le_refl _), take_of_length_le (by omega)]
 have hl : ((l.map yS).take (min l.length k)).length ≤ 1000 := by rw [length_take]; omega
 refine akN 3 [] rfl ?_ (hc := ⟨by omega, by rw [length_map]; omega, by omega, trivial⟩);refine az ?_;refine AWp.sub (Sub.freeze (id := 13) rfl) (aE ?_);rw [← ht];exact ⟨.inr rfl, ⟨_, _, .tmp rfl .nil, .cons (.one (.hs rfl rfl (by rw [drop_zero, take_length]) .nil)) .nil, rfl⟩, trivial, rfl⟩
def fK (l : List Int) : Core := (nJ 6 (l.take 60) 30).1
theorem aXw (l : List Int) (hl : aAe l) (hf : Fits l) : aY Tryz.prog 9 [.one (.c (.sl 1 (l.map yS)))] [] (.pa (aA (fK l))) [] := by
 have hl' : aAe (l.take 60) := fun x hx => hl x (mem_of_mem_take hx)
 have hf' : Fits (l.take 60) := by
  unfold Fits at *;rw [length_take];omega
 have hc := aRi 6 (by omega) (l.take 60) 30 hl' hf' (by decide) (by decide);refine c8 (n := 10) tok Tryz.func9 rfl rfl rfl ?_;refine a8 (ag [] rfl ?_);refine a8 (aF mixed ?_);refine ak 1 [] rfl ?_;refine kc (aRh l 60 hf (by omega)) ?_;refine ak 3 [(3, .id 700)] rfl ?_;refine az ?_;refine a8 (aF mixed ?_);refine ak 1 [] rfl ?_;refine kc hc ?_;refine ak 1 [] rfl ?_;refine az ?_;refine aE ?_;exact ⟨.inr rfl, ⟨_, _, .cell rfl (tg rfl) rfl rfl rfl .nil, .cons .refl .nil, rfl⟩, trivial, rfl⟩
mutual
def bO : Core → Core
 | .mk f n s _ ks bs al => if (f = 6 ∨ f = 7) ∧ 1 ≤ ks.length then (bS ks).headD (.mk 0 0 [] zTy [] [] []) else .mk f n s zTy (bS ks) (bZ bs) (cX al)
def bS : List Core → List Core
 | [] => []
 | c :: l => bO c :: bS l
def eO : Bind → Bind
 | .mk s _ c => .mk s zTy (bO c)
def bZ : List Bind → List Bind
 | [] => []
 | b :: l => eO b :: bZ l
def kR : Alt → Alt
 | .mk f n s vs c => .mk f n s vs (bO c)
def cX : List Alt → List Alt
 | [] => []
 | a :: l => kR a :: cX l
end
theorem iA : ∀ l : List Core, bS l = l.map bO
 | [] => by simp [bS]
 | c :: l => by rw [bS, iA l]; rfl
theorem jQ : ∀ l : List Bind, bZ l = l.map eO
 | [] => by simp [bZ]
 | c :: l => by rw [bZ, jQ l]; rfl
theorem iB : ∀ l : List Alt, cX l = l.map kR
 | [] => by simp [cX]
 | c :: l => by rw [cX, iB l]; rfl
mutual
def aR : Core → Nat
 | .mk _ _ s _ ks bs al => 1 + s.length + bJ ks + bW bs + bR al
def bJ : List Core → Nat
 | [] => 0
 | c :: l => aR c + bJ l
def bsize : Bind → Nat
 | .mk s _ c => 1 + s.length + aR c
def bW : List Bind → Nat
 | [] => 0
 | b :: l => bsize b + bW l
def jC : Alt → Nat
 | .mk _ _ s vs c => 1 + s.length + (vs.map (fun v => 1 + v.length)).sum + aR c
def bR : List Alt → Nat
 | [] => 0
 | a :: l => jC a + bR l
end
theorem dW (c : Core) : 1 ≤ aR c := by cases c; rw [aR]; omega
theorem lF : ∀ l : List Core, l.length ≤ bJ l
 | [] => zero_le _
 | c :: l => by rw [bJ, length_cons]; have := lF l; have := dW c; omega
theorem tF : ∀ {l : List Core} {c : Core}, c ∈ l → aR c ≤ bJ l
 | d :: l, c, h => by
  rw [bJ];rcases mem_cons.1 h with rfl | h
  ·omega
  ·have := tF h; omega
theorem lJ : ∀ l : List Bind, l.length ≤ bW l
 | [] => zero_le _
 | .mk s t c :: l => by rw [bW, bsize, length_cons]; have := lJ l; omega
theorem tQ : ∀ {l : List Bind} {c : Bind}, c ∈ l → bsize c ≤ bW l
 | d :: l, c, h => by
  rw [bW];rcases mem_cons.1 h with rfl | h
  ·omega
  ·have := tQ h; omega
theorem lL : ∀ l : List Alt, l.length ≤ bR l
 | [] => zero_le _
 | .mk f n s vs c :: l => by rw [bR, jC, length_cons]; have := lL l; omega
theorem eM : ∀ {l : List Alt} {c : Alt}, c ∈ l → jC c ≤ bR l
 | d :: l, c, h => by
  rw [bR];rcases mem_cons.1 h with rfl | h
  ·omega
  ·have := eM h; omega
def nS (c : Core) : Prop := aY Tryz.prog 75 [.pa (aA c)] [] (.pa (aA (bO c))) []
theorem cB {l : List Bind} {k : Nat} {x : Bind} (h : l[k]? = some x) : (aO l)[k]? = some (bA x) := by rw [bD]; exact cE bA h
theorem dS {l : List Core} {k : Nat} {x : Core} (h : l[k]? = some x) : (aQ l)[k]? = some (aA x) := by rw [bB]; exact cE aA h
theorem j7 {l : List Alt} {k : Nat} {x : Alt} (h : l[k]? = some x) : (bK l)[k]? = some (cV x) := by rw [bE]; exact cE cV h
theorem dT {α : Type} {l : List α} {k : Nat} {x : α} (h : l[k]? = some x) : l.take (k + 1) = l.take k ++ [x] := by rw [take_add_one, h]; rfl
theorem aO5 (l : List Bind) (hl : l.length ≤ 1000000) (ih : ∀ b ∈ l, nS b.body) : aY Tryz.prog 137 [.one (.c (.sl 15 (aO l)))] [] (.one (.c (.sl 15 (aO (bZ l))))) [] := by
 refine c8 (n := 27) tok Tryz.func137 rfl rfl rfl ?_;refine a8 (ag [] rfl ?_);refine a8 (ag [] rfl ?_);refine a8 (a8 (ag [] rfl ?_));have hle : (aO l).length = l.length := by rw [bD, length_map]
 refine AWp.sub (Sub.own (t := 3) (id := 500) 73 15 rfl rfl) ?_;refine aC (aJ (fun i : Nat => mk [(0, .one (.c (.sl 15 (aO l)))), (3, .one (.hs 500 0 ((l.take i).map eO).length ((l.take i).map eO).length)), (4, I .i64 i)] [(500, .arr 73 15 (aO ((l.take i).map eO)) 0)]) (fun i => i ≤ l.length) (fun i => l.length - i) 0 (zero_le _) (.list (fun i => i) ⟨rfl, rfl, rfl, trivial⟩ ⟨⟨_, rfl, .arr⟩, trivial⟩ rfl) ?_);intro i hi;have hsz : ((l.take i).map eO).length = (aO ((l.take i).map eO)).length := by rw [bD]; simp
 have hbl : (aO ((l.take i).map eO)).length ≤ 1000000 := by rw [← hsz, length_map, length_take]; omega
 refine a8 (a8 (ag [] rfl ?_));refine aB rfl (fun hb => ?_) (fun hb => ?_)
 ·refine aD ?_;have hlt : i < l.length := by rw [← hle]; simpa using hb
  obtain ⟨b, hbi⟩ := aL hlt;have hbi' := cB hbi;have he : (l.take (i + 1)).map eO = (l.take i).map eO ++ [eO b] := by rw [dT hbi, map_append]; rfl
  refine a8 (aC (aF mixed ?_));refine ak 11 [(3, .row i (bA b)), (8, .row i (bA b))] rfl ?_;refine kc (ih b (zq7 hbi)) ?_;refine ak 4 [] rfl ?_;refine az ?_;refine ag [] rfl ?_;refine ⟨i + 1, hlt, by dsimp only; omega, ?_⟩;dsimp only;rw [he];obtain ⟨s, t, c⟩ := b;refine .list (fun i => i) ⟨rfl, ?_, rfl, trivial⟩ ⟨⟨_, rfl, by rw [bD ((l.take i).map eO ++ _), map_append, ← bD]; exact .arr⟩, trivial⟩ rfl;show some (V.one (R.hs 500 0 _ _)) = some (V.one (R.hs 500 0 _ _));rw [length_append, ← hsz];rfl
 ·have hge : i = l.length := by
   have : ¬ i < l.length := by rw [← hle]; simpa using hb
   omega
  have hE : aO ((l.take i).map eO) = ((aO ((l.take i).map eO)).drop 0).take ((l.take i).map eO).length := by rw [drop_zero, hsz, take_length]
  refine aK (a8 (ag [] rfl ?_));refine AWp.sub (Sub.freeze (id := 500) rfl) (aE ?_);have hr : bZ l = (l.take i).map eO := by rw [hge, take_length, jQ]
  rw [hr];exact ⟨.inr rfl, ⟨_, _, .tmp rfl .nil, .cons (.one (.hs rfl hsz hE .nil)) .nil, rfl⟩, trivial, rfl⟩
def bH : List R := [.c (.int .i64 0), .c (.int .i64 0), .c (.str []), .c (.int .i64 0), .c (.int .i64 0), .c (.str []), .c .nl, .c .nl, .c .nl, .c .nl]
def bF (c : Core) : List R := (aA c).map R.c
theorem gY {f n : Int} {s : Str} {t : Ty} {ks : List Core} {bs : List Bind} {al : List Alt} : (∀ x ∈ ks, aR x < aR (.mk f n s t ks bs al)) ∧ (∀ x ∈ bs, aR x.body < aR (.mk f n s t ks bs al)) ∧ (∀ x ∈ al, aR x.body < aR (.mk f n s t ks bs al)) ∧
  ks.length < aR (.mk f n s t ks bs al) ∧ bs.length < aR (.mk f n s t ks bs al) ∧ al.length < aR (.mk f n s t ks bs al) := by
 rw [aR];have hkl := lF ks;have hbl := lJ bs;have hal := lL al;refine ⟨fun x hx => ?_, fun x hx => ?_, fun x hx => ?_, by omega, by omega, by omega⟩
 ·have := tF hx; omega
 ·have := tQ hx;obtain ⟨s', t', c'⟩ := x;rw [bsize] at this;show aR c' < _;omega
 ·have := eM hx;obtain ⟨f', n', s', v', c'⟩ := x;rw [jC] at this;show aR c' < _;omega
theorem gX {α β : Type} (f : α → β) {l : List α} {i : Nat} {x : α} (h : l[i]? = some x) : (l.take i).map f ++ [f x] = (l.take (i + 1)).map f := by rw [dT h, map_append]; rfl
theorem aKo {c : Core} (h : c.form = 6 ∨ c.form = 7) : few c = decide (c.kids.length = 0) := by
 unfold few;rw [if_neg (by omega)];have : decide (c.form = 5 ∨ c.form = 6 ∨ c.form = 7 ∨ c.form = 8 ∨ c.form = 9) = true := by
  rw [decide_eq_true_eq]; omega
 rw [this, Bool.true_and];congr 1;rw [eq_iff_iff];omega
theorem zB (c : Core) (hc : aR c ≤ 1000000) (ih : ∀ x, aR x < aR c → nS x) : nS c := by
 have hfew := a0f c;obtain ⟨f, n, s, t, ks, bs, al⟩ := c;obtain ⟨ihk, ihb, iha, hkl, hbl, hal⟩ := @gY f n s t ks bs al;have hB := aO5 bs (by omega) fun b hb => ih _ (ihb b hb)
 refine c8 (n := 77) tok Tryz.func75 rfl rfl rfl ?_;refine a8 (ag [] rfl ?_);refine a8 (a8 (agF 4 [(10, .pc (B (few (.mk f n s t ks bs al))))] rfl rfl rfl ?_));refine aB rfl (fun hb => ?_) (fun hb => ?_)
 ·have hcond : (f = 6 ∨ f = 7) ∧ 1 ≤ ks.length := by
   by_cases h6 : f = 6 ∨ f = 7
   ·refine ⟨h6, ?_⟩;rw [aKo (c := .mk f n s t ks bs al) h6] at hb;rcases h6 with rfl | rfl <;> simp [Core.form, Core.kids] at hb <;> exact List.length_pos_iff.2 hb
   ·exfalso;have : ¬ f = 6 ∧ ¬ f = 7 := by omega
    simp [Core.form, this.1, this.2] at hb
  cases ks with
  | nil => simp at hcond
  | cons k0 ks =>
   have hk := ih k0 (ihk k0 (by simp));have hr : bO (.mk f n s t (k0 :: ks) bs al) = bO k0 := by
    rw [bO, if_pos hcond, bS];rfl
   rw [hr];refine a8 (ag [(2, .row 0 (aA k0)), (4, .pc (.pa (aA (bO k0))))] rfl ?_ (hc := ⟨⟨by kernel_rfl, hk⟩, rfl, rfl, trivial⟩));exact aE (rtC trw)
 ·have hcond : ¬ ((f = 6 ∨ f = 7) ∧ 1 ≤ ks.length) := by
   rintro ⟨h6, h1⟩;rw [aKo (c := .mk f n s t ks bs al) h6] at hb;rcases h6 with rfl | rfl <;> simp [Core.form, Core.kids] at hb <;> simp [hb] at h1
  rw [show bO (.mk f n s t ks bs al) = .mk f n s zTy (bS ks) (bZ bs) (cX al) by rw [bO, if_neg hcond]];refine aD ?_;refine a8 (ag [] rfl ?_);refine a8 (a8 (ag [] rfl ?_));refine AWp.sub (Sub.ownCell (x := 3) (k := 7) (id := 500) 37 10 rfl rfl rfl) ?_;have hkE : (aQ ks).length = ks.length := by rw [bB, length_map]
  refine aC ?_;refine aJ (fun i : Nat => mk [(1, .one (.vp 1 0)), (2, .one (.vp 2 0)), (3, .one (.vp 3 0)), (4, I .i64 i)] [(1, .var 37 (bF (.mk f n s t ks bs al))), (2, .var 37 bH), (3, .var 37 [.c (.int .i64 f), .c (.int .i64 n), .c (.str s), .c (.int .i64 0), .c (.int .i64 0), .c (.str []), .c .nl, .hs 500 0 i i, .c .nl, .c .nl]), (500, .arr 37 10 ((ks.take i).map fun x => aA (bO x)) 0)]) (fun i => i ≤ ks.length) (fun i => ks.length - i) 0 (zero_le _) sl ?_;intro i hi;refine a8 (a8 (ag [] rfl ?_));refine aB rfl (fun hb => ?_) (fun hb => ?_)
  ·have hlt : i < ks.length := ltD hb hkE;obtain ⟨k, hki⟩ := aL hlt;have hki' := dS hki;have he := ih k (ihk k (zq7 hki));refine aD ?_;refine a8 (aC ?_);refine ag [(5, .row i (aA k)), (7, .pc (.pa (aA (bO k))))] rfl ?_;refine ag [] rfl ?_;have hrows := gX (fun x => aA (bO x)) hki;exact ⟨i + 1, hlt, by dsimp only; omega, sl⟩
  ·have hge : i = ks.length := geD hb hkE hi;subst hge;have hKs : (ks.take ks.length).map (fun x => aA (bO x)) = aQ (bS ks) := by rw [take_length, bB, iA, map_map]; rfl
   rw [hKs];refine aK ?_;refine AWp.sub (Sub.freeze (id := 500) rfl) ?_;refine a8 (ag [(2, .pc (.one (.c (.sl 15 (aO (bZ bs))))))] rfl ?_);refine a8 (a8 (ag [] rfl ?_));refine AWp.sub (Sub.ownCell (x := 3) (k := 9) (id := 501) 78 14 rfl rfl rfl) ?_;have hkA : (bK al).length = al.length := by rw [bE, length_map]
   refine aC ?_;refine aJ (fun i : Nat => mk [(1, .one (.vp 1 0)), (2, .one (.vp 2 0)), (3, .one (.vp 3 0)), (5, I .i64 i)] [(1, .var 37 (bF (.mk f n s t ks bs al))), (2, .var 37 bH), (3, .var 37 [.c (.int .i64 f), .c (.int .i64 n), .c (.str s), .c (.int .i64 0), .c (.int .i64 0), .c (.str []), .c .nl, .hs 500 0 ks.length ks.length, .c (.sl 15 (aO (bZ bs))), .hs 501 0 i i]), (500, .arr 37 10 (aQ (bS ks)) 2), (501, .arr 78 14 ((al.take i).map fun x => cV (kR x)) 0)]) (fun i => i ≤ al.length) (fun i => al.length - i) 0 (zero_le _) sl ?_;intro j hj;refine a8 (a8 (ag [] rfl ?_));refine aB rfl (fun hb => ?_) (fun hb => ?_)
   ·have hlt : j < al.length := ltD hb hkA;obtain ⟨a, hai⟩ := aL hlt;have hai' := j7 hai;have he := ih a.body (iha a (zq7 hai));have hrows := gX (fun x => cV (kR x)) hai;obtain ⟨f', n', s', v', c'⟩ := a;refine aD ?_;refine a8 (aC ?_);refine a8 (ag [(3, .row j (cV (.mk f' n' s' v' c')))] rfl ?_);refine a8 (ag [(2, .pc (.pa (aA (bO c'))))] rfl ?_);refine ag [] rfl ?_;refine ag [] rfl ?_;exact ⟨j + 1, hlt, by dsimp only; omega, sl⟩
   ·have hge := geD hb hkA hj;subst hge;have hAs : (al.take al.length).map (fun x => cV (kR x)) = bK (cX al) := by rw [take_length, bE, iB, map_map]; rfl
    rw [hAs];refine aK ?_;refine a8 (ag [] rfl ?_);refine AWp.sub (Sub.freeze (id := 501) rfl) ?_;have h1 : ks.length = (aQ (bS ks)).length := by rw [bB, iA, map_map, length_map]
    have h2 : al.length = (bK (cX al)).length := by rw [bE, iB, map_map, length_map]
    exact aE (rtC trw)
theorem aLd : ∀ (n : Nat) (c : Core), aR c ≤ n → aR c ≤ 1000000 → nS c
 | 0, c, h, _ => by have := dW c; omega
 | n + 1, c, h, hm => zB c hm fun x hx => aLd n x (by omega) (by omega)
def tz (t : Ty) : Bool := decide (t.form = 0) && (decide (t.n = 0) && (t.name.isEmpty && t.args.isEmpty))
theorem aMs {t : Ty} (h : tz t = true) : t = zTy := by
 obtain ⟨f, n, s, a⟩ := t;simp only [tz, Bool.and_eq_true, decide_eq_true_eq, isEmpty_iff] at h;obtain ⟨h1, h2, h3, h4⟩ := h;simp only [Ty.form, Ty.n, Ty.name, Ty.args] at h1 h2 h3 h4;subst h1 h2 h3 h4;rfl
mutual
def i7 : Core → Nat
 | .mk f _ _ _ ks bs al => (if f = 5 then 1 else 0) + eW ks + dM bs + dA al
def eW : List Core → Nat
 | [] => 0
 | c :: l => i7 c + eW l
def dM : List Bind → Nat
 | [] => 0
 | .mk _ _ c :: l => i7 c + dM l
def dA : List Alt → Nat
 | [] => 0
 | .mk _ _ _ _ c :: l => i7 c + dA l
end
mutual
def z0R : Core → Bool
 | .mk _ _ _ t ks bs al => tz t && (aUk ks && (aUl bs && aUm al))
def aUk : List Core → Bool
 | [] => true
 | c :: l => z0R c && aUk l
def aUl : List Bind → Bool
 | [] => true
 | .mk _ t c :: l => (tz t && z0R c) && aUl l
def aUm : List Alt → Bool
 | [] => true
 | .mk _ _ _ _ c :: l => z0R c && aUm l
end
theorem aCb : ∀ {l : List Core}, aUk l = true → ∀ x ∈ l, z0R x = true
 | c :: l, h, x, hx => by
  rw [aUk, Bool.and_eq_true] at h;rcases mem_cons.1 hx with rfl | hx
  ·exact h.1
  ·exact aCb h.2 x hx
theorem u9 : ∀ {l : List Bind}, aUl l = true → ∀ x ∈ l, x.ty = zTy ∧ z0R x.body = true
 | .mk s t c :: l, h, x, hx => by
  simp only [aUl, Bool.and_eq_true] at h;rcases mem_cons.1 hx with rfl | hx
  ·exact ⟨aMs h.1.1, h.1.2⟩
  ·exact u9 h.2 x hx
theorem aCc : ∀ {l : List Alt}, aUm l = true → ∀ x ∈ l, z0R x.body = true
 | .mk f n s v c :: l, h, x, hx => by
  rw [aUm, Bool.and_eq_true] at h;rcases mem_cons.1 hx with rfl | hx
  ·exact h.1
  ·exact aCc h.2 x hx
def nmB (s : Str) : Bool := decide (s ∈ nmL)
mutual
def uV : Core → Bool
 | .mk f _ s _ ks bs al => (if f = 5 then nmB s && (!ks.isEmpty && bs.isEmpty) else if f = 6 ∨ f = 7 then !ks.isEmpty else if f = 1 then nmB s && (ks.isEmpty && (bs.isEmpty && al.isEmpty)) else true) && (lR ks && (gL bs && fO al))
def lR : List Core → Bool
 | [] => true
 | c :: l => uV c && lR l
def gL : List Bind → Bool
 | [] => true
 | .mk s _ c :: l => (nmB s && uV c) && gL l
def fO : List Alt → Bool
 | [] => true
 | .mk _ _ _ v c :: l => (v.all nmB && uV c) && fO l
end
mutual
def gR : Core → Bool
 | .mk f _ s t ks bs al => (decide (f ≠ 6) && (decide (f ≠ 7) && tz t)) && ((if f = 5 then nmB s && (!ks.isEmpty && bs.isEmpty) else if f = 1 then nmB s && (ks.isEmpty && (bs.isEmpty && al.isEmpty)) else true) && (gCs ks && (gBs bs && gAs al)))
def gCs : List Core → Bool
 | [] => true
 | c :: l => gR c && gCs l
def gBs : List Bind → Bool
 | [] => true
 | .mk s t c :: l => ((nmB s && tz t) && gR c) && gBs l
def gAs : List Alt → Bool
 | [] => true
 | .mk _ _ _ v c :: l => (v.all nmB && gR c) && gAs l
end
mutual
theorem aNa : ∀ c, uV c = true → gR (bO c) = true
 | .mk f n s t ks bs al, h => by
  rw [uV] at h;simp only [Bool.and_eq_true] at h;obtain ⟨h1, h2, h3, h4⟩ := h;have k2 := aP6 ks h2;rw [bO];by_cases h67 : f = 6 ∨ f = 7
  ·have h5 : ¬ f = 5 := by omega
   rw [if_neg h5, if_pos h67] at h1;cases ks with
   | nil => simp at h1
   | cons k ks =>
    rw [if_pos ⟨h67, by simp⟩];rw [bS, gCs, Bool.and_eq_true] at k2;rw [bS];exact k2.1
  ·rw [if_neg (fun h => h67 h.1), gR];rw [if_neg h67] at h1;have e1 : decide (f ≠ 6) = true := decide_eq_true fun e => h67 (.inl e)
   have e2 : decide (f ≠ 7) = true := decide_eq_true fun e => h67 (.inr e)
   have e3 : tz zTy = true := rfl;simp only [e1, e2, e3, Bool.and_eq_true, true_and];refine ⟨?_, k2, aP7 bs h3, aP8 al h4⟩;have n1 : (bS ks).isEmpty = ks.isEmpty := by cases ks <;> simp [bS]
   have n2 : (bZ bs).isEmpty = bs.isEmpty := by cases bs <;> simp [bZ]
   have n3 : (cX al).isEmpty = al.isEmpty := by cases al <;> simp [cX]
   rw [n1, n2, n3];exact h1
theorem aP6 : ∀ l, lR l = true → gCs (bS l) = true
 | [], _ => by rw [bS, gCs]
 | c :: l, h => by
  rw [lR, Bool.and_eq_true] at h;rw [bS, gCs, aNa c h.1, aP6 l h.2]; rfl
theorem aP7 : ∀ l, gL l = true → gBs (bZ l) = true
 | [], _ => by rw [bZ, gBs]
 | .mk s t c :: l, h => by
  simp only [gL, Bool.and_eq_true] at h;rw [bZ, eO, gBs, aNa c h.1.2, aP7 l h.2, h.1.1]; rfl
theorem aP8 : ∀ l, fO l = true → gAs (cX l) = true
 | [], _ => by rw [cX, gAs]
 | .mk f n s v c :: l, h => by
  simp only [fO, Bool.and_eq_true] at h;rw [cX, kR, gAs, aNa c h.1.2, aP8 l h.2, h.1.1]; rfl
end
theorem aJf : ∀ s ∈ nmL, s.length ≤ 3 := by decide
mutual
theorem nE : ∀ c, aR (bO c) ≤ aR c ∧ i7 (bO c) ≤ i7 c
 | .mk f n s t ks bs al => by
  obtain ⟨a1, a2⟩ := yO ks;obtain ⟨b1, b2⟩ := yP bs;obtain ⟨d1, d2⟩ := yQ al;rw [bO];split
  ·rename_i h;have h5 : ¬ f = 5 := by omega
   cases ks with
   | nil => simp at h
   | cons k ks =>
    rw [bS, bJ, bJ] at a1;rw [bS, eW, eW] at a2;rw [bS];obtain ⟨k1, k2⟩ := nE k;rw [aR, bJ, i7, eW];show aR (bO k) ≤ _ ∧ i7 (bO k) ≤ _;omega
  ·rw [aR, aR, i7, i7];omega
theorem yO : ∀ l, bJ (bS l) ≤ bJ l ∧ eW (bS l) ≤ eW l
 | [] => by rw [bS]; exact ⟨le_refl _, le_refl _⟩
 | c :: l => by
  obtain ⟨h1, h2⟩ := nE c;obtain ⟨h3, h4⟩ := yO l;rw [bS, bJ, bJ, eW, eW]; omega
theorem yP : ∀ l, bW (bZ l) ≤ bW l ∧ dM (bZ l) ≤ dM l
 | [] => by rw [bZ]; exact ⟨le_refl _, le_refl _⟩
 | .mk s t c :: l => by
  obtain ⟨h1, h2⟩ := nE c;obtain ⟨h3, h4⟩ := yP l;rw [bZ, eO, bW, bW, bsize, bsize, dM, dM]; omega
theorem yQ : ∀ l, bR (cX l) ≤ bR l ∧ dA (cX l) ≤ dA l
 | [] => by rw [cX]; exact ⟨le_refl _, le_refl _⟩
 | .mk f n s v c :: l => by
  obtain ⟨h1, h2⟩ := nE c;obtain ⟨h3, h4⟩ := yQ l;rw [cX, kR, bR, bR, jC, jC, dA, dA]; omega
end
theorem fA {l : List Str} {n : Int} (hl : 0 < l.length) : oneOf l n ∈ l := by
 obtain ⟨k, hk⟩ := Int.eq_ofNat_of_zero_le (dO n (k := l.length) (by omega)).1;have hlt := (dO n (k := l.length) (by omega)).2
 have h1 : k < l.length := by omega
 have : oneOf l n = l[k] := by
  unfold oneOf;rw [hk];simp [h1]
 rw [this];exact List.getElem_mem h1
theorem aSz (n : Int) : oneOf nmL n ∈ nmL := fA (by decide)
theorem aK0 (n : Int) : (oneOf aK1 n).length ≤ 4 := (by decide : ∀ s ∈ aK1, s.length ≤ 4) _ (fA (by decide))
theorem aNo (n : Int) : (oneOf xY n).length ≤ 4 := (by decide : ∀ s ∈ xY, s.length ≤ 4) _ (fA (by decide))
theorem aR4 (n : Int) : (oneOf l5 n).length ≤ 4 := (by decide : ∀ s ∈ l5, s.length ≤ 4) _ (fA (by decide))
theorem aWn (n : Int) : nmB (oneOf nmL n) = true := decide_eq_true (aSz n)
theorem l8 (n : Int) : ∀ i : Nat, ∀ s ∈ dH n i, s ∈ nmL
 | 0, s, h => by simp [dH] at h
 | i + 1, s, h => by
  rw [dH, aUg] at h;split at h
  ·exact l8 n i s h
  ·rcases mem_append.1 h with h | h
   ·exact l8 n i s h
   ·rw [mem_singleton.1 h]; exact aSz _
theorem aG5 : ∀ l : List Str, (∀ s ∈ l, s ∈ nmL) → (l.map fun v => 1 + v.length).sum ≤ 4 * l.length
 | [], _ => by simp
 | s :: l, h => by
  have h1 := aG5 l fun x hx => h x (zq3 _ hx)
  have h2 := aJf s (h s zq2);rw [map_cons, sum_cons, length_cons];omega
def lf (left : Int) : Nat := (left - 1).toNat
structure MkG (c : Core) (left left' : Int) : Prop where
 raw : uV c = true
 lams : i7 c + lf left' ≤ lf left
 size : aR c + 100 * lf left' ≤ 100 * lf left + 7
def aYm (g : List Int → Int → Mk) : Prop := ∀ l left, MkG (g l left).1 left (g l left).2.2
theorem xR : ∀ a b, gL (a ++ b) = (gL a && gL b)
 | [], b => by rw [nil_append, gL, Bool.true_and]
 | .mk s t c :: a, b => by rw [cons_append, gL, gL, xR a b]; simp only [Bool.and_assoc]
theorem xS : ∀ a b, fO (a ++ b) = (fO a && fO b)
 | [], b => by rw [nil_append, fO, Bool.true_and]
 | .mk f n s v c :: a, b => by rw [cons_append, fO, fO, xS a b]; simp only [Bool.and_assoc]
theorem tS : ∀ a b, bW (a ++ b) = bW a + bW b
 | [], b => by rw [nil_append, bW, zero_add]
 | x :: a, b => by rw [cons_append, bW, bW, tS a b, add_assoc]
theorem tY : ∀ a b, bR (a ++ b) = bR a + bR b
 | [], b => by rw [nil_append, bR, zero_add]
 | x :: a, b => by rw [cons_append, bR, bR, tY a b, add_assoc]
theorem sX : ∀ a b, dM (a ++ b) = dM a + dM b
 | [], b => by rw [nil_append, dM, zero_add]
 | .mk s t c :: a, b => by rw [cons_append, dM, dM, sX a b, add_assoc]
theorem sY : ∀ a b, dA (a ++ b) = dA a + dA b
 | [], b => by rw [nil_append, dA, zero_add]
 | .mk f n s v c :: a, b => by rw [cons_append, dA, dA, sY a b, add_assoc]
theorem zK {g : List Int → Int → Mk} (h : aYm g) (ns : List Str) (hns : ∀ s ∈ ns, s ∈ nmL) (l : List Int) (left : Int) : ∀ i : Nat, i ≤ ns.length → gL (bL g ns l left i).1 = true ∧ dM (bL g ns l left i).1 + lf (bL g ns l left i).2.2 ≤ lf left ∧ bW (bL g ns l left i).1 + 100 * lf (bL g ns l left i).2.2 ≤ 100 * lf left + 11 * i
 | 0, _ => by simp [bL, gL, dM, bW]
 | i + 1, hi => by
  obtain ⟨h1, h2, h3⟩ := zK h ns hns l left i (by omega);obtain ⟨k1, k2, k3⟩ := h (cC 2 (bL g ns l left i).2.1).2 (bL g ns l left i).2.2;have hs : (ns[i]?.getD []) ∈ nmL := by
   obtain ⟨s, hs⟩ := aL (l := ns) (by omega : i < ns.length);rw [hs]; exact hns s (zq7 hs)
  have hsl := aJf _ hs;have hsb : nmB (ns[i]?.getD []) = true := decide_eq_true hs;simp only [bL];rw [xR, sX, tS, gL, gL, dM, dM, bW, bW, bsize, h1, k1, hsb];refine ⟨rfl, by omega, by omega⟩
theorem aFe {g : List Int → Int → Mk} (h : aYm g) (n : Int) (l : List Int) (left : Int) : ∀ i : Nat, fO (cH g n l left i).1 = true ∧ dA (cH g n l left i).1 + lf (cH g n l left i).2.2 ≤ lf left ∧ bR (cH g n l left i).1 + 100 * lf (cH g n l left i).2.2 ≤ 100 * lf left + 24 * i
 | 0 => by simp [cH, fO, dA, bR]
 | i + 1 => by
  obtain ⟨h1, h2, h3⟩ := aFe h n l left i;obtain ⟨k1, k2, k3⟩ := h (b6 (cH g n l left i).2.1).2 (cH g n l left i).2.2;have hni : ∀ s ∈ (b6 (cH g n l left i).2.1).1, s ∈ nmL := l8 _ _;have hnl := gT (cH g n l left i).2.1;have hvs := aG5 _ hni;have hva : (b6 (cH g n l left i).2.1).1.all nmB = true := all_eq_true.2 fun s hs => decide_eq_true (hni s hs)
  have hcl := aK0 (n / 14 + i);simp only [cH];rw [xS, sY, tY, h1];split
  ·rw [fO, fO, dA, dA, bR, bR, jC, k1];refine ⟨rfl, by omega, ?_⟩;simp only [length_nil, map_nil, sum_nil];omega
  ·split
   ·rw [fO, fO, dA, dA, bR, bR, jC, k1];refine ⟨rfl, by omega, ?_⟩;simp only [length_nil, map_nil, sum_nil];omega
   ·rw [fO, fO, dA, dA, bR, bR, jC, k1, hva];exact ⟨rfl, by omega, by omega⟩
theorem aKy {g : List Int → Int → Mk} (h : aYm g) (n k : Int) (l : List Int) (left : Int) (hk : 4 ≤ k → 1 ≤ left) : MkG (dI g n k l left).1 (left + 1) (dI g n k l left).2.2 := by
 have hlf : lf left ≤ lf (left + 1) := by unfold lf; omega
 have hlk : 4 ≤ k → lf left + 1 = lf (left + 1) := fun h => by have := hk h; unfold lf; omega
 have n1 := aJf _ (aSz (n / 14));have n2 := aK0 (n / 14);have n3 := aNo (n / 14);have n4 := aR4 (n / 14);have nb := aWn (n / 14);obtain ⟨g1, g2, g3⟩ := h l left;obtain ⟨h1, h2, h3⟩ := h (g l left).2.1 (g l left).2.2;obtain ⟨u1, u2, u3⟩ := h (cC 2 l).2 left;unfold dI;split
 ·refine ⟨by simp [uV, lR, gL, fO, nb], ?_, ?_⟩ <;> simp only [i7, eW, dM, dA, aR, bJ, bW, bR] <;> simp <;> omega
 split
 ·refine ⟨by simp [uV, lR, gL, fO], ?_, ?_⟩ <;> simp only [i7, eW, dM, dA, aR, bJ, bW, bR] <;> simp <;> omega
 split
 ·refine ⟨by simp [uV, lR, gL, fO], ?_, ?_⟩ <;> simp only [i7, eW, dM, dA, aR, bJ, bW, bR] <;> simp <;> omega
 have hl := hlk (by omega);split
 ·refine ⟨by simp [uV, lR, gL, fO, g1, h1], ?_, ?_⟩ <;> simp only [i7, eW, dM, dA, aR, bJ, bW, bR] <;> simp <;> omega
 split
 ·refine ⟨by simp [uV, lR, gL, fO, u1, nb], ?_, ?_⟩ <;> simp only [i7, eW, dM, dA, aR, bJ, bW, bR] <;> simp <;> omega
 split
 ·refine ⟨by simp [uV, lR, gL, fO, u1], ?_, ?_⟩ <;> simp only [i7, eW, dM, dA, aR, bJ, bW, bR] <;> simp <;> omega
 split
 ·refine ⟨by simp [uV, lR, gL, fO, g1], ?_, ?_⟩ <;> simp only [i7, eW, dM, dA, aR, bJ, bW, bR] <;> simp <;> omega
 split
 ·have hnl := gT l;obtain ⟨b1, b2, b3⟩ := zK h (b6 l).1 (l8 _ _) (b6 l).2 left (b6 l).1.length (le_refl _);generalize bL g (b6 l).1 (b6 l).2 left (b6 l).1.length = r at b1 b2 b3 ⊢;obtain ⟨c1, c2, c3⟩ := h r.2.1 r.2.2;refine ⟨by simp [uV, lR, fO, c1, b1], ?_, ?_⟩ <;> simp only [i7, eW, dA, aR, bJ, bR] <;> simp <;> omega
 split
 ·obtain ⟨b1, b2, b3⟩ := aFe h n (g (cC 2 l).2 left).2.1 (g (cC 2 l).2 left).2.2 (n / 14 % 4).toNat;have hi : (n / 14 % 4).toNat ≤ 3 := by omega
  dsimp only;generalize cH g n (g (cC 2 l).2 left).2.1 (g (cC 2 l).2 left).2.2 (n / 14 % 4).toNat = r at b1 b2 b3 ⊢;refine ⟨by simp [uV, lR, gL, u1, b1], ?_, ?_⟩ <;> simp only [i7, eW, dM, aR, bJ, bW] <;> simp <;> omega
 split
 ·refine ⟨by simp [uV, lR, gL, fO, g1, h1], ?_, ?_⟩ <;> simp only [i7, eW, dM, dA, aR, bJ, bW, bR] <;> simp <;> omega
 ·refine ⟨by simp [uV, lR, gL, fO], ?_, ?_⟩ <;> simp only [i7, eW, dM, dA, aR, bJ, bW, bR] <;> simp <;> omega
theorem aBu : ∀ f : Nat, aYm (nJ f)
 | 0 => fun l left => by
  have h : aYm (fun l left => ((.mk 0 0 [] zTy [] [] [], l, left) : Mk)) := fun l left => ⟨by simp [uV, lR, gL, fO], by simp [i7, eW, dM, dA], by simp [aR, bJ, bW, bR]; omega⟩
  have := aKy h (aW l).1 ((aW l).1 % 4) (aW l).2 (left - 1) (fun h => by omega);rw [Int.sub_add_cancel] at this;exact this
 | f + 1 => fun l left => by
  have := aKy (aBu f) (aW l).1 (if left - 1 < 1 then (aW l).1 % 4 else (aW l).1 % 14) (aW l).2 (left - 1) (fun h => by
   split at h
   ·omega
   ·omega)
  rw [Int.sub_add_cancel] at this;exact this
theorem aN4 (l : List Int) : uV (fK l) = true ∧ aR (fK l) ≤ 3000 := by
 obtain ⟨h1, h2, h3⟩ := aBu 6 (l.take 60) 30;have : lf 30 = 29 := rfl;rw [this] at h2 h3;unfold fK;exact ⟨h1, by omega⟩
theorem aJq (l : List Int) : gR (bO (fK l)) = true ∧ aR (fK l) ≤ 3000 ∧ aR (bO (fK l)) ≤ 3000 ∧ i7 (bO (fK l)) ≤ 29 := by
 obtain ⟨h1, h2, h3⟩ := aBu 6 (l.take 60) 30;obtain ⟨e1, e2⟩ := nE (fK l);have : lf 30 = 29 := rfl;rw [this] at h2 h3;unfold fK at e1 e2 ⊢;exact ⟨aNa _ h1, by omega, by omega, by omega⟩
end Go.Proofs.YtmoekkcdkjopgaaGreatDoor
namespace Go.AM
open Go Go.Proofs Go.Shelf
theorem aFa {ro : Option Nat} {P : Program} {n : Nat} {kf : List Nat} {c : Code} {st : St} {Q : Exit → St → Prop} (t : Nat) {es : Nat} {l : List (List C)} (h : st.e t = some (.one (.c (.sl es l)))) (h1 : l = [] → AWp ro P n kf c ⟨upd st.e t (some (.one (.c .nl))), st.h, st.d⟩ Q)
  (h2 : AWp ro P n kf c ⟨upd st.e t (some (.one (.c (.sn es l)))), st.h, st.d⟩ Q) : AWp ro P n kf c st Q := by
 intro G S μ a w Q' hg hs hQ;have hv := hs.env t _ h
 have key : ∀ x : V, aV S μ st.h x (a.tmps.getD t undef) → Sim G n S μ ⟨upd st.e t (some x), st.h, st.d⟩ a w := fun x hx => ⟨hs.inv, hs.size, hs.defers, fun s u e => by
  by_cases hst : s = t
  ·subst hst;have : some x = some u := by rw [← e]; exact (aI _ _ _).symm
   cases this;exact hx
  ·exact hs.env s u (by rw [← e]; exact (aS _ _ _ hst).symm)⟩
 simp only [aV, b8, Rep] at hv;obtain ⟨ad, len, cap, e1, e2, e3, e4, e5, e6, b, o, e7, e8⟩ := hv;cases ad with
 | none =>
  obtain ⟨e9, e10⟩ := e5 rfl;have hl : l = [] := eq_nil_of_length_eq_zero (by omega);exact h1 hl G S μ a w Q' hg (key _ (by simp only [aV, b8, Rep]; rw [e1, e9, e10])) hQ
 | some ad =>
  obtain ⟨b', o', sp⟩ := ad;have h6 := e6 _ rfl;obtain ⟨h7, h8⟩ := e7 _ rfl;dsimp only at h6 h7 h8;subst h7 h8;exact h2 G S μ a w Q' hg (key _ (by simp only [aV, b8, Rep]; exact ⟨b', o', sp, len, cap, e1, e2, e3, e4, h6, e8⟩)) hQ
theorem aOc {P : Program} {ρ : Ren} {T : TT} {ei : TI} (L : Lays8.n4 P ρ) (hT : Tok P T) (hei : T[ρ.t 25]? = some (some ei)) (hes : Nat.ble 1 ei.size = true) (k : Nat) (hk : k * ei.bytes ≤ 140737488355328) (hk2 : k ≤ 140737488355328) :
  aY P (ρ.f 4) [.one (.c .nl), I .i64 (k : Int)] [] (.one (.hs 720 0 0 0)) [(720, .arr (ρ.t 25) ei.size [] 0)] := by
 intro S μ w vals hI hv;simp only [bT, aV, b8, Rep] at hv;obtain ⟨v1, vs1, rfl, rfl, v2, vs2, rfl, rfl, rfl⟩ := hv;obtain ⟨inf, dd, z, g1, g2, g3, g4, g5, g6, g7, g8⟩ := (hT.get hei).ex;have hzs : z.cells.size = ei.size := by
  have h1 := (fX (S := S) g7).length;rw [(hT.get hei).len] at h1;simpa using h1
 have hid : look ([] : List (Nat × AObj)) 720 = none := rfl;by_cases h0 : k = 0
 ·subst h0;refine Calls.mono (Any8.slices_Grow_room L none 0 0 0 w (by omega) (by omega) (by omega) (by omega)) ?_;rintro e w' ⟨rfl, rfl⟩;obtain ⟨hi, hE⟩ := hI.empty (ρ.t 25) ei.size hid;refine ⟨S, upd μ 720 none, _, rfl, ?_, ?_⟩
  ·rw [iM]; exact hi
  ·rw [iM];simp only [aV, b8];exact ⟨⟨_, _, _, rfl⟩, .inr ⟨_, _, [], 0, aI _ _ _, le_refl _, fun _ => ⟨le_refl _, .inl ⟨aI _ _ _, rfl, by first | rfl | trivial⟩⟩⟩⟩
 ·refine Calls.mono (Any8.slices_Grow_grow L inf z g1 g6 (by rw [g3]; exact zq5 hes) none 0 0 k [] w (by omega) (by omega) (by rw [g4, zero_add]; exact hk) (by omega) (by simp) (fun _ => rfl) (fun a h => by cases h)) ?_;rintro e w' ⟨rfl, rfl⟩;simp only [zero_add, sub_zero];have hG1 := grownCap_ge w k 0 (ρ.t 25);have hG2 := grownCap_le_maxLen w k 0 (ρ.t 25) (by unfold maxLen; omega);generalize grownCap w k 0 (ρ.t 25) = G at hG1 hG2 ⊢;have hO : l4 S (upd μ 720 (some (w.heap.size, 0, G))) (upd (look []) 720 (some (.arr (ρ.t 25) ei.size [] 0))) (w.drew.alloc (.cells ((([] : List Value).toArray) ++ Builtin.zeroCells z.cells k ++ Builtin.zeroCells z.cells (G - k)) (ρ.t 25))) 720 (.arr (ρ.t 25) ei.size [] 0) := by
   refine ⟨by simp, .inr ⟨w.heap.size, 0, G, (([] : List Value).toArray ++ Builtin.zeroCells z.cells k ++ Builtin.zeroCells z.cells (G - k)).toList, aI _ _ _, heap_alloc_new w.drew _, ?_, zero_le _, hG2, ?_, fun _ o _ => eI hI o, fun o _ => eI hI o, fun e => by cases e⟩⟩
   ·simp only [Array.toList_append, length_append, Array.length_toList, size_zeroCells, hzs, zero_add, length_nil];rw [← add_mul];exact mul_le_mul_right _ (by omega)
   ·simp [c9]
  have hE : Evolve S μ (look []) S (upd μ 720 (some (w.heap.size, 0, G))) (upd (look []) 720 (some (.arr (ρ.t 25) ei.size [] 0))) := fG hid _ _;have hi := hI.chg (id := 720) (cap := (0, G)) (WChg.alloc_drew w _) (.inl (le_refl _)) hE hO (fun o v e => by rw [eI hI] at e; cases e) (fun m e => le_refl _);refine ⟨S, upd μ 720 (some (w.heap.size, 0, G)), _, rfl, ?_, ?_⟩
  ·rw [iM]; exact hi
  ·rw [iM];simp only [aV, b8];exact ⟨⟨_, _, _, rfl⟩, .inr ⟨_, _, [], 0, aI _ _ _, le_refl _, fun _ => ⟨le_refl _, .inr ⟨w.heap.size, 0, G, aI _ _ _, by simp⟩⟩⟩⟩
end Go.AM
namespace Go.AM
open Go
def AObj.ren (σ : Nat → Nat) : AObj → AObj
 | .var t cells => .var t (R.renL σ cells)
 | .lp st j i e => .lp st j i (aGx σ e)
 | .rarr te es l => .rarr te es (lQ σ l)
 | .tok r k => .tok (r.ren σ) k
 | o => o
def renH (σ : Nat → Nat) (hl : List (Nat × AObj)) : List (Nat × AObj) := hl.map fun p => (σ p.1, p.2.ren σ)
section
mutual
theorem R.ren_ren {σ : Nat → Nat} (hσ : ∀ i, σ (σ i) = i) : ∀ r : R, (r.ren σ).ren σ = r
 | .c _ => rfl
 | .hs .. => by simp [R.ren, hσ]
 | .tl .. => by simp [R.ren, hσ]
 | .vp .. => by simp [R.ren, hσ]
 | .ep .. => by simp [R.ren, hσ]
 | .mr _ => by simp [R.ren, hσ]
 | .clo f caps => by simp [R.ren, R.renL_renL hσ caps]
 | .mth f r => by simp [R.ren, R.ren_ren hσ r]
 | .yl _ => by simp [R.ren, hσ]
 | .ra .. => by simp [R.ren, hσ]
 | .rp .. => by simp [R.ren, hσ]
 | .ras n es l => by simp [R.ren, R.renL_renL hσ l]
 | .pas l => by simp [R.ren, R.renL_renL hσ l]
theorem R.renL_renL {σ : Nat → Nat} (hσ : ∀ i, σ (σ i) = i) : ∀ l : List R, R.renL σ (R.renL σ l) = l
 | [] => rfl
 | r :: l => by simp [R.renL, R.ren_ren hσ r, R.renL_renL hσ l]
end
mutual
theorem V.ren_ren {σ : Nat → Nat} (hσ : ∀ i, σ (σ i) = i) : ∀ r : V, (r.ren σ).ren σ = r
 | .one r => by simp [V.ren, R.ren_ren hσ r]
 | .pa _ => rfl
 | .ma l => by simp [V.ren, R.renL_renL hσ l]
 | .tup l => by simp [V.ren, V.renL_renL hσ l]
theorem V.renL_renL {σ : Nat → Nat} (hσ : ∀ i, σ (σ i) = i) : ∀ l : List V, V.renL σ (V.renL σ l) = l
 | [] => rfl
 | r :: l => by simp [V.renL, V.ren_ren hσ r, V.renL_renL hσ l]
end
variable {σ : Nat → Nat} (hσ : ∀ i, σ (σ i) = i)
include hσ
theorem xL : ∀ l : List (Nat × V), aGx σ (aGx σ l) = l
 | [] => rfl
 | (t, v) :: l => by simp [aGx, V.ren_ren hσ v, xL l]
theorem xJ : ∀ l : List (List R), lQ σ (lQ σ l) = l
 | [] => rfl
 | r :: l => by simp [lQ, R.renL_renL hσ r, xJ l]
theorem Ole.to_ren (o : AObj) : Ole σ o (o.ren σ) := by
 cases o with
 | var t cells => exact .var (R.renL_renL hσ cells).symm
 | lp st j i e => exact .lp (xL hσ e).symm
 | rarr te es l => exact .rarr (xJ hσ l).symm
 | tok r k => exact .tok (R.ren_ren hσ r).symm
 | arr => exact .arr
 | map => exact .map
 | dead => exact .dead
 | dfr => exact .dfr
end
theorem Ole.of_ren {σ : Nat → Nat} (o : AObj) : Ole σ (o.ren σ) o := by
 cases o with
 | var t cells => exact .var rfl
 | lp st j i e => exact .lp rfl
 | rarr te es l => exact .rarr rfl
 | tok r k => exact .tok rfl
 | arr => exact .arr
 | map => exact .map
 | dead => exact .dead
 | dfr => exact .dfr
mutual
theorem R.refs_ren {σ : Nat → Nat} : ∀ r : R, (r.ren σ).refs = r.refs.map σ
 | .c _ => rfl
 | .hs .. => rfl
 | .tl .. => rfl
 | .vp .. => rfl
 | .ep .. => rfl
 | .mr _ => rfl
 | .clo f caps => by simp [R.ren, R.refs, R.refsL_ren caps]
 | .mth f r => by simp [R.ren, R.refs, R.refs_ren r]
 | .yl _ => rfl
 | .ra .. => rfl
 | .rp .. => rfl
 | .ras n es l => by simp [R.ren, R.refs, R.refsL_ren l]
 | .pas l => by simp [R.ren, R.refs, R.refsL_ren l]
theorem R.refsL_ren {σ : Nat → Nat} : ∀ l : List R, R.refsL (R.renL σ l) = (R.refsL l).map σ
 | [] => rfl
 | r :: l => by simp [R.renL, R.refsL, R.refs_ren r, R.refsL_ren l]
end
mutual
theorem V.refs_ren {σ : Nat → Nat} : ∀ r : V, (r.ren σ).refs = r.refs.map σ
 | .one r => by simp [V.ren, V.refs, R.refs_ren r]
 | .pa _ => rfl
 | .ma l => by simp [V.ren, V.refs, R.refsL_ren l]
 | .tup l => by simp [V.ren, V.refs, V.refsL_ren l]
theorem V.refsL_ren {σ : Nat → Nat} : ∀ l : List V, V.refsL (V.renL σ l) = (V.refsL l).map σ
 | [] => rfl
 | r :: l => by simp [V.renL, V.refsL, V.refs_ren r, V.refsL_ren l]
end
theorem xQ {σ : Nat → Nat} : ∀ l : List (Nat × V), mV (aGx σ l) = (mV l).map σ
 | [] => rfl
 | (t, v) :: l => by simp [aGx, mV, V.refs_ren v, xQ l]
theorem xN {σ : Nat → Nat} : ∀ l : List (List R), bX (lQ σ l) = (bX l).map σ
 | [] => rfl
 | r :: l => by simp [lQ, bX, R.refsL_ren r, xN l]
theorem AObj.refs_ren {σ : Nat → Nat} (o : AObj) : (o.ren σ).refs = o.refs.map σ := by
 cases o with
 | var t cells => exact R.refsL_ren cells
 | lp st j i e => exact xQ e
 | rarr te es l => exact xN l
 | tok r k => exact R.refs_ren r
 | _ => rfl
structure RenH (σ : Nat → Nat) (H H' : cF) : Prop where
 to : ∀ i o, H (σ i) = some o → ∃ o', H' i = some o' ∧ Ole σ o o'
 of : ∀ i o', H' i = some o' → ∃ o, H (σ i) = some o ∧ Ole σ o o'
 cl : ∀ i o', H' i = some o' → ∀ j ∈ o'.refs, ∃ x, H' j = some x
theorem RenH.good {σ : Nat → Nat} {H H' : cF} (h : RenH σ H H') {i : Nat} (hi : ∃ x, H' i = some x) : Good H H' σ i := by
 obtain ⟨x, hx⟩ := hi;obtain ⟨o, h1, h2⟩ := h.of i x hx;exact ⟨o, x, h1, hx, h2⟩
theorem aM2 {σ : Nat → Nat} {P : Prop} {a b c d : AObj} (h1 : Ole σ a b) (h2 : Ole σ c d) (h : a.succ P c) : b.succ P d := by
 cases h1 <;> cases h2 <;> simp only [AObj.succ] at h ⊢ <;> try exact h
 ·rename_i e1 _ _ _ _ e2;subst e1 e2;simpa [eE] using h
theorem Inv.renH {σ : Nat → Nat} (hσ : ∀ i, σ (σ i) = i) {G : Ctx} {h0' H H' : cF} {S : Sto} {μ : Mu} {w : World} (h : Inv G S μ H w) (h0 : RenH σ G.h0 h0') (hH : RenH σ H H') :
  Inv { G with μ0 := fun i => G.μ0 (σ i), h0 := h0' } S (fun i => μ (σ i)) H' w := by
 refine ⟨h.holds, fun id o ho => ?_, fun i j o o' b c c' hi hj hm hm' => ?_, fun i o b c hi hm => ?_, h.frame, h.sle, h.sto, ⟨h.evo.le, fun id o ho => ?_⟩⟩
 ·obtain ⟨x, h1, h2⟩ := hH.of id o ho;exact (h.obj _ _ h1).ren h2 fun j hj => hH.good (hH.cl id o ho j hj)
 ·obtain ⟨x, h1, _⟩ := hH.of i o hi;obtain ⟨y, h2, _⟩ := hH.of j o' hj;have := h.inj _ _ _ _ b c c' h1 h2 hm hm';rw [← hσ i, ← hσ j, this]
 ·obtain ⟨x, h1, _⟩ := hH.of i o hi;exact h.own _ _ b c h1 hm
 ·obtain ⟨x, h1, h2⟩ := h0.of id o ho;obtain ⟨y, h3, h4⟩ := h.evo.obj _ _ h1;obtain ⟨z, h5, h6⟩ := hH.to id y h3;exact ⟨z, h5, aM2 h2 h6 h4⟩
section
variable {σ : Nat → Nat} (hσ : ∀ i, σ (σ i) = i)
include hσ
theorem aT4 (i k : Nat) : Nat.beq (σ i) (σ k) = Nat.beq i k := by
 cases h : Nat.beq i k with
 | true => rw [zq4 h]; exact beq_refl _
 | false =>
  cases h' : Nat.beq (σ i) (σ k) with
  | false => rfl
  | true =>
   have := zq4 h';have e : i = k := by rw [← hσ i, ← hσ k, this]
   rw [e, beq_refl] at h;cases h
theorem kM (i : Nat) : ∀ hl : List (Nat × AObj), look (Go.AM.renH σ hl) (σ i) = (look hl i).map (AObj.ren σ)
 | [] => rfl
 | (k, o) :: hl => by
  have ih := kM i hl;simp only [Go.AM.renH, map_cons, look, aT4 hσ] at ih ⊢;split
  ·rfl
  ·exact ih
theorem RenH.a {hl : List (Nat × AObj)} (hc : subset (cQ hl) (keys hl) = true) : RenH σ (look (Go.AM.renH σ hl)) (look hl) := by
 refine ⟨fun i o h => ?_, fun i o h => ?_, fun i o h j hj => ?_⟩
 ·rw [kM hσ] at h;cases hx : look hl i with
  | none => rw [hx] at h; cases h
  | some x => rw [hx] at h; cases h; exact ⟨x, rfl, .of_ren x⟩
 ·exact ⟨o.ren σ, by rw [kM hσ, h]; rfl, .of_ren o⟩
 ·exact iN (bM hc j (iX (c6 h) j hj))
theorem RenH.b {hl : List (Nat × AObj)} (hc : subset (cQ hl) (keys hl) = true) : RenH σ (look hl) (look (Go.AM.renH σ hl)) := by
 have key : ∀ i, look (Go.AM.renH σ hl) i = (look hl (σ i)).map (AObj.ren σ) := fun i => by
  have := kM hσ (σ i) hl;rwa [hσ] at this
 refine ⟨fun i o h => ⟨o.ren σ, by rw [key, h]; rfl, .to_ren hσ o⟩, fun i o h => ?_, fun i o h j hj => ?_⟩
 ·rw [key] at h;cases hx : look hl (σ i) with
  | none => rw [hx] at h; cases h
  | some x => rw [hx] at h; cases h; exact ⟨x, rfl, .to_ren hσ x⟩
 ·rw [key] at h;cases hx : look hl (σ i) with
  | none => rw [hx] at h; cases h
  | some x =>
   rw [hx] at h; cases h;rw [AObj.refs_ren] at hj;obtain ⟨k, hk, rfl⟩ := mem_map.1 hj;obtain ⟨y, hy⟩ := iN (bM hc k (iX (c6 hx) k hk));exact ⟨y.ren σ, by rw [key, hσ, hy]; rfl⟩
theorem aY.ren {P : Program} {f : FuncId} {args : List V} {hin hout : List (Nat × AObj)} {res : V} (h : aY P f args hin res hout) (h1 : subset (cQ hin) (keys hin) = true) (h2 : subset (V.refsL args) (keys hin) = true) (h3 : subset (cQ hout) (keys hout) = true) (h4 : subset res.refs (keys hout) = true) :
  aY P f (V.renL σ args) (Go.AM.renH σ hin) (res.ren σ) (Go.AM.renH σ hout) := by
 intro S μ w vals hI hv;have ra := RenH.a hσ h1;have hI' := hI.renH hσ ra ra;have hF : wX μ (look (Go.AM.renH σ hin)) = wX (fun i => μ (σ i)) (look hin) := by
  funext b;refine propext ⟨?_, ?_⟩
  ·rintro ⟨j, o, c, g1, g2⟩;obtain ⟨o', g3, _⟩ := ra.to (σ j) o (by rw [hσ]; exact g1);exact ⟨σ j, o', c, g3, by show μ (σ (σ j)) = _; rw [hσ]; exact g2⟩
  ·rintro ⟨j, o, c, g1, g2⟩;obtain ⟨o', g3, _⟩ := ra.of j o g1;exact ⟨σ j, o', c, g3, g2⟩
 rw [hF] at hI';have hv' : bT S (fun i => μ (σ i)) (look hin) args vals := bT.ren args vals (fun i hi => ra.good (iN (bM h2 i hi))) hv;refine Calls.mono (h S (fun i => μ (σ i)) w vals hI' hv') ?_;rintro e w' ⟨S', μ', v, g1, g2, g3⟩;refine ⟨S', fun i => μ' (σ i), v, g1, ?_, ?_⟩
 ·have := g2.renH hσ (RenH.b hσ h1) (RenH.b hσ h3);dsimp only at this;rw [hF];simpa only [hσ] using this
 ·refine aV.ren (res.ren σ) v (fun i hi => (RenH.b hσ h3).good ?_) (by rw [V.ren_ren hσ]; exact g3);rw [V.refs_ren] at hi;obtain ⟨k, hk, rfl⟩ := mem_map.1 hi;obtain ⟨y, hy⟩ := iN (bM h4 k hk);exact ⟨y.ren σ, by rw [kM hσ, hy]; rfl⟩
end
def swp (a b i : Nat) : Nat := bif Nat.beq i a then b else bif Nat.beq i b then a else i
theorem aR7 (a b i : Nat) : swp a b (swp a b i) = i := by
 have hb : ∀ x y : Nat, (Nat.beq x y = true) ↔ x = y := fun x y => ⟨zq4, fun h => by subst h; exact beq_refl _⟩
 unfold swp;cases h1 : Nat.beq i a <;> cases h2 : Nat.beq i b <;> simp only [cond_true, cond_false]
 ·rw [h1, h2]; rfl
 ·cases h3 : Nat.beq a a with
  | true => simp only [cond_true]; exact ((hb _ _).1 h2).symm
  | false => rw [beq_refl] at h3; cases h3
 ·cases h3 : Nat.beq b a with
  | true => simp only [cond_true]; rw [(hb _ _).1 h3, (hb _ _).1 h1]
  | false => rw [beq_refl]; simp only [cond_true, cond_false]; exact ((hb _ _).1 h1).symm
 ·have e1 := (hb _ _).1 h1;have e2 := (hb _ _).1 h2;have e3 : b = a := by rw [← e2, e1]
  rw [e3, beq_refl]; simp only [cond_true]; exact e1.symm
theorem aY.swap (a b : Nat) {P : Program} {f : FuncId} {args : List V} {hin hout : List (Nat × AObj)} {res : V} (h : aY P f args hin res hout) (h1 : subset (cQ hin) (keys hin) = true := by rfl) (h2 : subset (V.refsL args) (keys hin) = true := by rfl) (h3 : subset (cQ hout) (keys hout) = true := by rfl) (h4 : subset res.refs (keys hout) = true := by rfl) :
  aY P f (V.renL (swp a b) args) (renH (swp a b) hin) (res.ren (swp a b)) (renH (swp a b) hout) := h.ren (aR7 a b) h1 h2 h3 h4
end Go.AM
namespace Go.AM
open Go Go.Proofs
section
variable {P : Program} {n : Nat} {ops : Array Oper} {draw : Bool} {k d : Nat} {st : St} {pre : REs} {Q : St → Prop} {o : Oper} {f : FuncId} {xs : Array Operand} {ts : Array TypeId} {ids : List Nat} {args : List V} {res : V} {hin hout : List (Nat × AObj)}
theorem kcG {j t : Nat} {want b : Bool} (hf : aY P f args hin res hout)
  (hk : jV P n ops draw (k + 1) ⟨upd st.e d (some res), updL st.h (outs hout), st.d⟩ ((⟨t :: cN xs.toList, ids ++ keys hin ++ keys hout⟩, ⟨some (d, some res), outs hout⟩) :: pre) Q)
  (hb : jB P f := by exact wY (by kernel_rfl)) (ho : ops[k]? = some o := by rfl) (hg : o.guard = some (j, want) := by rfl) (hj : (ops[j]?).bind (·.dst) = some t := by rfl) (hbv : st.e t = some (.one (.c (.bool b))) := by rfl) (hw : b = want := by first | rfl | assumption) (hop : o.op = .call { callee := .value (.func f), args := xs, argTypes := ts } := by rfl) (hd : o.dst = some d := by rfl) (hdn : Nat.blt d n = true := by rfl)
  (ha : ArgsV st ids xs.toList args := by repeat (first | exact .nil | (apply Go.AM.ArgsV.cons rfl; (first | exact .refl | exact .one (.c .nl .nil) | exact .one (.c .sn .nil) | exact .one (.hs rfl (by first | rfl | simp) (by first | rfl | (simp; done) | (simp [Go.AM.take_map]; done) | exact Go.AM.take_map.symm) .nil) | exact Go.AM.hs_all rfl rfl (by first | rfl | assumption | (simp; done) | (simp; omega)) (by first | rfl | assumption | (simp; done)) | ((first | apply Go.AM.Conv.pa | apply Go.AM.Conv.agg); repeat (first | exact .nil | apply Go.AM.PureL.c .refl | apply Go.AM.PureL.c .nl | apply Go.AM.PureL.c .sn | (apply Go.AM.PureL.hs; rfl; (first | rfl | simp); (first | rfl | (simp; done) | (simp [Go.AM.take_map]; done) | exact Go.AM.take_map.symm))))))))
  (hin' : dP (fun p => st.h p.1 = some p.2) hin := by repeat (first | exact trivial | refine ⟨rfl, ?_⟩)) (hout' : dP (fun p => p.1 ∈ keys hin ∨ st.h p.1 = none) hout := by repeat (first | exact trivial | refine ⟨.inr rfl, ?_⟩ | refine ⟨.inl (by decide), ?_⟩ | refine ⟨.inl (by repeat (first | exact List.Mem.head _ | apply List.Mem.tail)), ?_⟩)) (hok : iE args hin = true := by rfl) : jV P n ops draw k st pre Q :=
 k_ (GStep.yes ho hg hj hbv hw (aIs hin hout hb hop hd (eQ hdn) hf ha hin' hout' hok)) hk
end
end Go.AM
namespace Go.Proofs.YtmoekkcdkjopgaaGreatDoor
open Go Go.AM
set_option maxRecDepth 20000
def bN (l : List Str) : V := .one (.c (.sl 1 (l.map bG)))
theorem gG (l : List (List C)) (h : l.length ≤ 600000000000) : aY Tryz.prog 58 [.one (.c (.sl 1 l))] [] (.one (.hs 710 0 l.length l.length)) [(710, .arr 9 1 l 0)] := by
 refine c8 (n := 8) tok Tryz.func58 rfl rfl rfl ?_;refine a8 (ag [] rfl ?_);refine aFa 0 rfl (fun hl => ?_) ?_
 ·subst hl;refine a8 (a8 (ag [] rfl ?_));refine aB rfl (fun _ => ?_) (fun hb => by cases hb);refine a8 (ag [] rfl ?_);refine AWp.sub (Sub.own (t := 2) (id := 710) 9 1 rfl rfl) ?_;exact aE rtT
 ·refine a8 (a8 (ag [] rfl ?_));refine aB rfl (fun hb => by cases hb) (fun _ => ?_);refine aD ?_;refine a8 (ag [(0, .id 710)] rfl ?_);refine AWp.sub (st2 := mk [(2, .one (.hs 710 0 l.length l.length))] [(710, .arr 9 1 l 0)]) sl ?_;exact aE rtT
theorem nP (l : List (List C)) (h : l.length ≤ 600000000000) : aY Tryz.prog 121 [.one (.c (.sl 15 l))] [] (.one (.hs 701 0 l.length l.length)) [(701, .arr 73 15 l 0)] := by
 refine c8 (n := 8) tok Tryz.func121 rfl rfl rfl ?_;refine a8 (ag [] rfl ?_);refine aFa 0 rfl (fun hl => ?_) ?_
 ·subst hl;refine a8 (a8 (ag [] rfl ?_));refine aB rfl (fun _ => ?_) (fun hb => by cases hb);refine a8 (ag [] rfl ?_);refine AWp.sub (Sub.own (t := 2) (id := 701) 73 15 rfl rfl) ?_;exact aE rtT
 ·refine a8 (a8 (ag [] rfl ?_));refine aB rfl (fun hb => by cases hb) (fun _ => ?_);refine aD ?_;refine a8 (ag [(0, .id 701)] rfl ?_);refine AWp.sub (st2 := mk [(2, .one (.hs 701 0 l.length l.length))] [(701, .arr 73 15 l 0)]) sl ?_;exact aE rtT
theorem jS (l : List (List C)) (h : l.length ≤ 600000000000) : aY Tryz.prog 120 [.one (.c (.sl 10 l))] [] (.one (.hs 702 0 l.length l.length)) [(702, .arr 37 10 l 0)] := by
 refine c8 (n := 8) tok Tryz.func120 rfl rfl rfl ?_;refine a8 (ag [] rfl ?_);refine aFa 0 rfl (fun hl => ?_) ?_
 ·subst hl;refine a8 (a8 (ag [] rfl ?_));refine aB rfl (fun _ => ?_) (fun hb => by cases hb);refine a8 (ag [] rfl ?_);refine AWp.sub (Sub.own (t := 2) (id := 702) 37 10 rfl rfl) ?_;exact aE rtT
 ·refine a8 (a8 (ag [] rfl ?_));refine aB rfl (fun hb => by cases hb) (fun _ => ?_);refine aD ?_;refine a8 (ag [(0, .id 702)] rfl ?_);refine AWp.sub (st2 := mk [(2, .one (.hs 702 0 l.length l.length))] [(702, .arr 37 10 l 0)]) sl ?_;exact aE rtT
theorem oS (l : List (List C)) (h : l.length ≤ 600000000000) : aY Tryz.prog 122 [.one (.c (.sl 14 l))] [] (.one (.hs 703 0 l.length l.length)) [(703, .arr 78 14 l 0)] := by
 refine c8 (n := 8) tok Tryz.func122 rfl rfl rfl ?_;refine a8 (ag [] rfl ?_);refine aFa 0 rfl (fun hl => ?_) ?_
 ·subst hl;refine a8 (a8 (ag [] rfl ?_));refine aB rfl (fun _ => ?_) (fun hb => by cases hb);refine a8 (ag [] rfl ?_);refine AWp.sub (Sub.own (t := 2) (id := 703) 78 14 rfl rfl) ?_;exact aE rtT
 ·refine a8 (a8 (ag [] rfl ?_));refine aB rfl (fun hb => by cases hb) (fun _ => ?_);refine aD ?_;refine a8 (ag [(0, .id 703)] rfl ?_);refine AWp.sub (st2 := mk [(2, .one (.hs 703 0 l.length l.length))] [(703, .arr 78 14 l 0)]) sl ?_;exact aE rtT
def aGh (s : Str) : List Str → Int → Int
 | [], _ => -1
 | x :: l, k => if s = x then k else aGh s l (k + 1)
theorem aEq (s : Str) : ∀ (l : List Str) (k : Int), 0 ≤ k → (decide (0 ≤ aGh s l k) = decide (s ∈ l))
 | [], k, _ => by simp [aGh]
 | x :: l, k, hk => by
  rw [aGh];split
  ·rename_i h; subst h; simp [hk]
  ·rename_i h; rw [aEq s l (k + 1) (by omega)]; simp [h]
theorem aBy (l : List Str) (s : Str) (h : l.length ≤ 600000000000) : aY Tryz.prog 123 [bN l, Go.AM.T s] [] (I .i64 (aGh s l 0)) [] := by
 refine c8 (n := 19) tok Tryz.func123 rfl rfl rfl ?_;refine a8 (ag [] rfl ?_);refine a8 (a8 (ag [] rfl ?_));have hka : (l.map bG).length = l.length := length_map _;refine aC ?_;refine aJ (fun i : Nat => mk [(0, bN l), (1, Go.AM.T s), (7, I .i64 ((l.map bG).length : Int)), (8, I .i64 i)] []) (fun i => i ≤ l.length ∧ aGh s l 0 = aGh s (l.drop i) i) (fun i => l.length - i) 0 ⟨zero_le _, rfl⟩ sl ?_;intro i ⟨hi, he⟩;refine a8 (ag [] rfl ?_);refine a8 (aB rfl (fun hb => ?_) (fun hb => ?_))
 ·have hlt := ltD hb hka;obtain ⟨x, hx⟩ := aL hlt;have hx' := cE bG hx;have hd : l.drop i = x :: l.drop (i + 1) := by rw [drop_eq_getElem_cons hlt, (zq6.1 hx).2]
  rw [hd, aGh] at he;refine aD ?_;refine a8 (aC ?_);refine a8 (ag [] rfl ?_);refine a8 (ag [(3, .row i (bG x))] rfl ?_);refine aB rfl (fun hb => ?_) (fun hb => ?_)
  ·have hs : s = x := zq0 hb;rw [if_pos hs] at he;rw [he];refine a8 (ag [] rfl ?_);exact aE rtT
  ·have hs : ¬ s = x := zq1 hb;rw [if_neg hs] at he;refine aD ?_;refine ag [] rfl ?_;exact ⟨i + 1, ⟨hlt, he⟩, by dsimp only; omega, sl⟩
 ·have hge := geD hb hka hi;subst hge;rw [drop_length, aGh] at he;rw [he];refine aK ?_;refine a8 (ag [] rfl ?_);exact aE rtT
theorem bU (l : List Str) (s : Str) (h : l.length ≤ 600000000000) : aY Tryz.prog 60 [bN l, Go.AM.T s] [] (B (decide (s ∈ l))) [] := by
 have hi := aBy l s h;refine c8 (n := 9) tok Tryz.func60 rfl rfl rfl ?_;refine a8 (ag [] rfl ?_);refine a8 (ag [(2, .pc (I .i64 (aGh s l 0)))] rfl ?_);rw [← aEq s l 0 (by omega)];exact aE rtT
def aQr {α : Type} (p : α → Bool) : List α → Nat → Int
 | [], _ => -1
 | x :: l, i => if p x then (i : Int) else aQr p l (i + 1)
theorem aJ1 {α : Type} (p : α → Bool) : ∀ (l : List α) (i : Nat), decide (aQr p l i ≥ 0) = l.any p
 | [], _ => rfl
 | x :: l, i => by
  rw [aQr, List.any_cons];cases h : p x
  ·rw [if_neg (by simp), aJ1 p l]; rfl
  ·rw [if_pos rfl, Bool.true_or]; simp
mutual
def tkR : Core → Bool
 | .mk f _ _ _ ks bs al => (if f = 6 ∨ f = 7 then !ks.isEmpty else true) && (aYq ks && (aYr bs && aYs al))
def aYq : List Core → Bool
 | [] => true
 | c :: l => tkR c && aYq l
def aYr : List Bind → Bool
 | [] => true
 | .mk _ _ c :: l => tkR c && aYr l
def aYs : List Alt → Bool
 | [] => true
 | .mk _ _ _ _ c :: l => tkR c && aYs l
end
theorem uG : ∀ {l : List Core}, aYq l = true → ∀ x ∈ l, tkR x = true
 | c :: l, h, x, hx => by
  rw [aYq, Bool.and_eq_true] at h;rcases mem_cons.1 hx with rfl | hx
  ·exact h.1
  ·exact uG h.2 x hx
theorem aDa : ∀ {l : List Bind}, aYr l = true → ∀ x ∈ l, tkR x.body = true
 | .mk s t c :: l, h, x, hx => by
  rw [aYr, Bool.and_eq_true] at h;rcases mem_cons.1 hx with rfl | hx
  ·exact h.1
  ·exact aDa h.2 x hx
theorem aDb : ∀ {l : List Alt}, aYs l = true → ∀ x ∈ l, tkR x.body = true
 | .mk f n s v c :: l, h, x, hx => by
  rw [aYs, Bool.and_eq_true] at h;rcases mem_cons.1 hx with rfl | hx
  ·exact h.1
  ·exact aDb h.2 x hx
def u7 (c : Core) : Prop := aY Tryz.prog 22 [.pa (aA c)] [] (.pa (aA (bO c))) []
theorem aK9 (l : List Bind) (hl : l.length ≤ 570000000000) (ih : ∀ b ∈ l, u7 b.body) : aY Tryz.prog 57 [.one (.c (.sl 15 (aO l)))] [] (.one (.c (.sl 15 (aO (bZ l))))) [] := by
 refine c8 (n := 23) tok Tryz.func57 rfl rfl rfl ?_;refine a8 (ag [] rfl ?_);refine a8 (ag [] rfl ?_);refine AWp.sub (Sub.own (t := 3) (id := 500) 73 15 rfl rfl) ?_;refine a8 (a8 (ag [] rfl ?_));have hle : (aO l).length = l.length := by rw [bD, length_map]
 refine aC ?_;refine aJ (fun i : Nat => mk [(6, .one (.c (.sl 15 (aO l)))), (7, I .i64 ((aO l).length : Int)), (3, .one (.hs 500 0 i i)), (8, I .i64 i)] [(500, .arr 73 15 ((l.take i).map fun b => bA (eO b)) 0)]) (fun i => i ≤ l.length) (fun i => l.length - i) 0 (zero_le _) sl ?_;intro i hi;refine a8 (ag [] rfl ?_);refine a8 (aB rfl (fun hb => ?_) (fun hb => ?_))
 ·have hlt := ltD hb hle;obtain ⟨b, hbi⟩ := aL hlt;have hbi' := cB hbi;have hrows := gX (fun b => bA (eO b)) hbi;have hk := ih b (zq7 hbi);obtain ⟨s, t, c⟩ := b;have hk : u7 c := hk;refine aD ?_;refine a8 (aC ?_);refine a8 (ag [(0, .row i (bA (.mk s t c)))] rfl ?_);refine ag [(5, .pc (.pa (aA (bO c)))), (7, .all)] rfl ?_;refine ag [] rfl ?_;exact ⟨i + 1, hlt, by dsimp only; omega, sl⟩
 ·have hge := geD hb hle hi;subst hge;have hr : (l.take l.length).map (fun b => bA (eO b)) = aO (bZ l) := by rw [take_length, bD, jQ, map_map]; rfl
  rw [hr];have h2 : l.length = (aO (bZ l)).length := by rw [bD, jQ, length_map, length_map]
  refine aK ?_;refine a8 (ag [] rfl ?_);refine AWp.sub (Sub.freeze (id := 500) rfl) ?_;exact aE (rtT (hc := hs_all rfl rfl h2 rfl))
theorem lZ (a : Alt) : a.vars.length ≤ jC a := by
 obtain ⟨f, n, s, v, c⟩ := a;rw [jC];have : ∀ l : List Str, l.length ≤ (l.map fun v => 1 + v.length).sum := by
  intro l
  induction l with
  | nil => simp
  | cons x l ih => rw [map_cons, sum_cons, length_cons]; omega
 have := this v;show v.length ≤ _;omega
theorem wH (c : Core) (hc : aR c ≤ 570000000000) (htk : tkR c = true) (ih : ∀ x, aR x < aR c → tkR x = true → u7 x) : u7 c := by
 refine c8 (n := 68) tok Tryz.func22 rfl rfl rfl ?_;refine a8 (ag [] rfl ?_);refine a8 (aC ?_);refine aJ (fun x : Core => mk [(1, .one (.vp 1 0)), (2, .one (.vp 2 0))] [(1, .var 37 (bF x)), (2, .var 37 bH)]) (fun x => bO x = bO c ∧ aR x ≤ aR c ∧ tkR x = true) aR c ⟨rfl, le_refl _, htk⟩ sl ?_;rintro ⟨f, n, s, t, ks, bs, al⟩ ⟨he, hsz, htx⟩;simp only [tkR, Bool.and_eq_true] at htx;obtain ⟨t1, t2, t3, t4⟩ := htx;obtain ⟨ihk, ihb, iha, hkl, hbl, hal⟩ := @gY f n s t ks bs al;refine a8 (a8 (agF 4 [] rfl rfl rfl ?_));refine aB rfl (fun hb => ?_) (fun hb => ?_)
 ·have h67 : f = 6 ∨ f = 7 := by
   by_cases h6 : f = 6 ∨ f = 7
   ·exact h6
   ·exfalso;have : ¬ f = 6 ∧ ¬ f = 7 := by omega
    simp [Core.form, this.1, this.2] at hb
  rw [if_pos h67] at t1;cases ks with
  | nil => simp at t1
  | cons k0 ks =>
   have hr : bO (.mk f n s t (k0 :: ks) bs al) = bO k0 := by
    rw [bO, if_pos ⟨h67, by simp⟩, bS];rfl
   rw [hr] at he;have hk := ihk k0 (by simp);refine aD ?_;refine aC (ag [(2, .row 0 (aA k0))] rfl ?_);exact ⟨k0, ⟨he, by omega, uG t2 k0 (by simp)⟩, hk, sl⟩
 ·have hcond : ¬ (f = 6 ∨ f = 7) := by
   rintro (rfl | rfl) <;> simp [Core.form] at hb
  have hB := aK9 bs (by omega) fun b hb => ih _ (by have := ihb b hb; omega) (aDa t3 b hb)
  rw [bO, if_neg (fun h => hcond h.1)] at he;refine aK ?_;rw [← he];refine a8 (ag [(8, .pc (.one (.c (.sl 15 (aO (bZ bs))))))] rfl ?_);refine a8 (a8 (ag [] rfl ?_));refine AWp.sub (Sub.ownCell (x := 3) (k := 7) (id := 500) 37 10 rfl rfl rfl) ?_;have hkE : (aQ ks).length = ks.length := by rw [bB, length_map]
  refine aC ?_;refine aJ (fun i : Nat => mk [(1, .one (.vp 1 0)), (2, .one (.vp 2 0)), (3, .one (.vp 3 0)), (31, .one (.c (.sl 10 (aQ ks)))), (32, I .i64 ((aQ ks).length : Int)), (33, I .i64 i)] [(1, .var 37 (bF (.mk f n s t ks bs al))), (2, .var 37 bH), (3, .var 37 [.c (.int .i64 f), .c (.int .i64 n), .c (.str s), .c (.int .i64 0), .c (.int .i64 0), .c (.str []), .c .nl, .hs 500 0 i i, .c (.sl 15 (aO (bZ bs))), .c .nl]), (500, .arr 37 10 ((ks.take i).map fun x => aA (bO x)) 0)]) (fun i => i ≤ ks.length) (fun i => ks.length - i) 0 (zero_le _) sl ?_;intro i hi;refine a8 (ag [] rfl ?_);refine a8 (aB rfl (fun hb => ?_) (fun hb => ?_))
  ·have hlt : i < ks.length := ltD hb hkE;obtain ⟨k, hki⟩ := aL hlt;have hki' := dS hki;have hm := zq7 hki;have he := ih k (by have := ihk k hm; omega) (uG t2 k hm);have hrows := gX (fun x => aA (bO x)) hki;refine aD ?_;refine a8 (aC ?_);refine a8 (ag [(0, .row i (aA k))] rfl ?_);refine ag [(3, .pc (.pa (aA (bO k))))] rfl ?_;refine ag [] rfl ?_;exact ⟨i + 1, hlt, by dsimp only; omega, sl⟩
  ·have hge : i = ks.length := geD hb hkE hi;subst hge;have hKs : (ks.take ks.length).map (fun x => aA (bO x)) = aQ (bS ks) := by rw [take_length, bB, iA, map_map]; rfl
   rw [hKs];refine aK ?_;refine AWp.sub (Sub.freeze (id := 500) rfl) ?_;refine a8 (a8 (ag [] rfl ?_));refine AWp.sub (Sub.ownCell (x := 3) (k := 9) (id := 501) 78 14 rfl rfl rfl) ?_;have hkA : (bK al).length = al.length := by rw [bE, length_map]
   refine aC ?_;refine aJ (fun i : Nat => mk [(2, .one (.vp 2 0)), (3, .one (.vp 3 0)), (46, .one (.c (.sl 14 (bK al)))), (47, I .i64 ((bK al).length : Int)), (48, I .i64 i)] [(2, .var 37 bH), (3, .var 37 [.c (.int .i64 f), .c (.int .i64 n), .c (.str s), .c (.int .i64 0), .c (.int .i64 0), .c (.str []), .c .nl, .hs 500 0 ks.length ks.length, .c (.sl 15 (aO (bZ bs))), .hs 501 0 i i]), (500, .arr 37 10 (aQ (bS ks)) 2), (501, .arr 78 14 ((al.take i).map fun x => cV (kR x)) 0)]) (fun i => i ≤ al.length) (fun i => al.length - i) 0 (zero_le _) sl ?_;intro j hj;refine a8 (ag [] rfl ?_);refine a8 (aB rfl (fun hb => ?_) (fun hb => ?_))
   ·have hlt : j < al.length := ltD hb hkA;obtain ⟨a, hai⟩ := aL hlt;have hai' := j7 hai;have hm := zq7 hai;have he := ih a.body (by have := iha a hm; omega) (aDb t4 a hm);have hrows := gX (fun x => cV (kR x)) hai;have hav := eM hm;have hvl := lZ a;obtain ⟨f', n', s', v', c'⟩ := a;have he : u7 c' := he;have hcl : aY Tryz.prog 58 [.one (.c (.sl 1 (v'.map bG)))] [] (.one (.c (.sl 1 (v'.map bG)))) [] := aY.plain (gG (v'.map bG) (by rw [length_map]; rw [aR] at hsz; have : v'.length ≤ jC (.mk f' n' s' v' c') := hvl; omega)) rfl;refine aD ?_;refine a8 (aC ?_);refine a8 (ag [(0, .row j (cV (.mk f' n' s' v' c')))] rfl ?_);refine a8 (ag [(2, .pc (.one (.c (.sl 1 (v'.map bG))))), (5, .pc (.pa (aA (bO c'))))] rfl ?_);refine ag [] rfl ?_;refine ag [] rfl ?_;exact ⟨j + 1, hlt, by dsimp only; omega, sl⟩
   ·have hge := geD hb hkA hj;subst hge;have hAs : (al.take al.length).map (fun x => cV (kR x)) = bK (cX al) := by rw [take_length, bE, iB, map_map]; rfl
    rw [hAs];refine aK ?_;refine a8 (ag [] rfl ?_);refine AWp.sub (Sub.freeze (id := 501) rfl) ?_;have h1 : ks.length = (aQ (bS ks)).length := by rw [bB, iA, map_map, length_map]
    have h2 : al.length = (bK (cX al)).length := by rw [bE, iB, map_map, length_map]
    exact aE (rtC trw)
theorem aE0 : ∀ (n : Nat) (c : Core), aR c ≤ n → aR c ≤ 570000000000 → tkR c = true → u7 c
 | 0, c, h, _, _ => by have := dW c; omega
 | n + 1, c, h, hm, ht => wH c hm ht fun x hx htx => aE0 n x (by omega) (by omega) htx
end Go.Proofs.YtmoekkcdkjopgaaGreatDoor
namespace Go.AM
open Go
inductive CsLe : List C → List C → Prop
 | nil : CsLe [] []
 | cons {c c' : C} {l l' : List C} (h0 : Cle c c') (h : CsLe l l') : CsLe (c :: l) (c' :: l')
inductive RowsLe : List (List C) → List (List C) → Prop
 | nil : RowsLe [] []
 | cons {r r' : List C} {l l' : List (List C)} (h : CsLe r r') (k : RowsLe l l') : RowsLe (r :: l) (r' :: l')
theorem CsLe.refl : ∀ l : List C, CsLe l l
 | [] => .nil
 | _ :: l => .cons .refl (CsLe.refl l)
theorem CsLe.length {l l' : List C} (h : CsLe l l') : l'.length = l.length := by
 induction h with
 | nil => rfl
 | cons h0 h ih => simp [ih]
theorem CsLe.rep {S : Sto} {l l' : List C} (h : CsLe l l') : ∀ {vs : List Value}, c9 S l vs → c9 S l' vs := by
 induction h with
 | nil => exact fun k => k
 | cons h0 h ih =>
  intro vs k;simp only [c9] at k ⊢;obtain ⟨v, vs', rfl, h1, h2⟩ := k;exact ⟨v, vs', rfl, h0.rep h1, ih h2⟩
theorem CsLe.app {a a' b b' : List C} (h : CsLe a a') (k : CsLe b b') : CsLe (a ++ b) (a' ++ b') := by
 induction h with
 | nil => exact k
 | cons h0 h ih => exact .cons h0 ih
theorem RowsLe.flat {l l' : List (List C)} (h : RowsLe l l') : CsLe l.flatten l'.flatten := by
 induction h with
 | nil => exact .nil
 | cons h k ih => simp only [flatten_cons]; exact h.app ih
theorem RowsLe.length {l l' : List (List C)} (h : RowsLe l l') : l'.length = l.length := by
 induction h with
 | nil => rfl
 | cons h k ih => simp [ih]
theorem RowsLe.rows {l l' : List (List C)} (h : RowsLe l l') {n : Nat} : (∀ r ∈ l, r.length = n) → ∀ r ∈ l', r.length = n := by
 induction h with
 | nil => exact fun h => h
 | cons h k ih =>
  intro hl r hr;rcases mem_cons.1 hr with rfl | hr
  ·rw [h.length]; exact hl _ zq2
  ·exact ih (fun x hx => hl x (zq3 _ hx)) r hr
theorem Sub.arrWeak {kf : List Nat} {st : St} {x te es fz : Nat} {rows rows' : List (List C)} (h : st.h x = some (.arr te es rows fz)) (hp : RowsLe rows rows') : Sub kf ⟨st.e, upd st.h x (some (.arr te es rows' fz)), st.d⟩ st := by
 intro G n S μ a w _ hs;have hi := hs.inv;have ho := hi.obj x _ h
 have hE2 : Evolve S μ st.h S μ (upd st.h x (some (.arr te es rows' fz))) := ⟨S.le_refl, fun j y hj => by
  by_cases hjx : j = x
  ·subst hjx;rw [h] at hj; cases hj;exact ⟨_, aI _ _ _, by simp [AObj.succ, hp.length]⟩
  ·exact ⟨y, by rw [aS _ _ _ hjx]; exact hj, y.succ_refl rfl⟩⟩
 have hold : ∀ j y, upd st.h x (some (.arr te es rows' fz)) j = some y → ∃ y', st.h j = some y' := fun j y hj => by
  by_cases hjx : j = x
  ·subst hjx; exact ⟨_, h⟩
  ·rw [aS _ _ _ hjx] at hj; exact ⟨_, hj⟩
 refine ⟨S, μ, ⟨⟨hi.holds, fun j y hj => ?_, fun i j y y' b c c' hi' hj hm hm' => ?_, fun i y b c hi' hm => ?_, hi.frame, hi.sle, hi.sto, hi.evo.trans hE2⟩, hs.size, hs.defers.evolve hE2, fun s v e => aV.evolve hE2 v _ (hs.env s v e)⟩⟩
 ·by_cases hjx : j = x
  ·subst hjx;have hj' : some (AObj.arr te es rows' fz) = some y := by rw [← hj]; exact (aI _ _ _).symm
   cases hj';obtain ⟨g0, g⟩ := ho;refine ⟨hp.rows g0, ?_⟩;rcases g with ⟨g1, g2⟩ | ⟨b, base, cap, vs, g1, g2, g3, g4, g5, g6, g7, g8, g9⟩
   ·subst g2;cases hp;exact .inl ⟨g1, rfl⟩
   ·refine .inr ⟨b, base, cap, vs, g1, g2, g3, by rw [hp.length]; exact g4, g5, ?_, g7, ?_, ?_⟩
    ·rw [hp.length]; exact hp.flat.rep g6
    ·rw [hp.length]; exact g8
    ·rw [hp.length]; exact g9
  ·have hj' : st.h j = some y := by rw [← hj]; exact (aS _ _ _ hjx).symm
   exact (hi.obj j y hj').evolve hE2 rfl fun _ _ _ => ⟨rfl, fun _ => rfl, rfl⟩
 ·obtain ⟨_, h1⟩ := hold _ _ hi';obtain ⟨_, h2⟩ := hold _ _ hj;exact hi.inj i j _ _ b c c' h1 h2 hm hm'
 ·obtain ⟨_, h1⟩ := hold _ _ hi';exact hi.own i _ b c h1 hm
end Go.AM
namespace Go.Proofs.YtmoekkcdkjopgaaGreatDoor
open Go Go.AM
set_option maxRecDepth 20000
mutual
def tn : Ty → Nat
 | .mk _ _ s a => 1 + s.length + tns a
def tns : List Ty → Nat
 | [] => 0
 | t :: l => tn t + tns l
end
theorem lU (t : Ty) : 1 ≤ tn t := by cases t; rw [tn]; omega
theorem aHl : ∀ l : List Ty, l.length ≤ tns l
 | [] => zero_le _
 | t :: l => by rw [tns, length_cons]; have := aHl l; have := lU t; omega
theorem mC : ∀ {l : List Ty} {t : Ty}, t ∈ l → tn t ≤ tns l
 | u :: l, t, h => by
  rw [tns];rcases mem_cons.1 h with rfl | h
  ·omega
  ·have := mC h; omega
theorem yX (t : Ty) (ht : t.args.length ≤ 1000000) (ih : ∀ u ∈ t.args, aY Tryz.prog 126 [tyV u] [] (tyV u) []) : aY Tryz.prog 126 [tyV t] [] (tyV t) [] := by
 obtain ⟨f, n, s, a⟩ := t;have ih : ∀ u ∈ a, aY Tryz.prog 126 [tyV u] [] (tyV u) [] := ih;have hal : a.length ≤ 1000000 := ht;have hka : (eL a).length = a.length := by rw [j6, length_map]
 refine c8 (n := 22) tok Tryz.func126 rfl rfl rfl ?_;refine a8 (ag [] rfl ?_);refine a8 (ag [] rfl ?_);refine AWp.sub (Sub.own (t := 3) (id := 600) 33 4 rfl rfl) ?_;refine a8 (a8 (ag [] rfl ?_));refine aC ?_;refine aJ (fun i : Nat => mk [(1, .one (.vp 1 0)), (2, .one (.vp 2 0)), (3, .one (.hs 600 0 ((eL a).take i).length ((eL a).take i).length)), (7, .one (.c (.sl 4 (eL a)))), (8, I .i64 ((eL a).length : Int)), (9, I .i64 i)] [(600, .arr 33 4 ((eL a).take i) 0), (1, .var 33 ((cG (.mk f n s a)).map R.c)), (2, .var 33 [.c (.int .i64 0), .c (.int .i64 0), .c (.str []), .c .nl])]) (fun i => i ≤ a.length) (fun i => a.length - i) 0 (zero_le _) sl ?_;intro i hi;have hti : ((eL a).take i).length = i := by rw [length_take]; omega
 refine a8 (ag [] rfl ?_);refine a8 (aB rfl (fun hb => ?_) (fun hb => ?_))
 ·have hlt := ltD hb hka;obtain ⟨u, hu⟩ := aL hlt;have hu' : (eL a)[i]? = some (cG u) := by rw [j6]; exact cE cG hu
  have hc := ih u (zq7 hu);have hst : (eL a).take (i + 1) = (eL a).take i ++ [cG u] := by rw [take_add_one, hu']; rfl
  refine aD ?_;refine a8 (aC ?_);refine a8 (ag [(0, .row i (cG u))] rfl ?_);refine aF mixed ?_;refine ak 2 [] rfl ?_;refine kc hc ?_;refine ak 3 [(3, .all)] rfl ?_;refine az ?_;refine ag [] rfl ?_;refine ⟨i + 1, hlt, by dsimp only; omega, ?_⟩;dsimp only;rw [hst];exact sl
 have hge := geD hb hka hi;subst hge;rw [show (eL a).take a.length = eL a by rw [← hka, take_length]];refine aK ?_;refine AWp.sub (Sub.freeze (id := 600) rfl) ?_;refine a8 (ag [] rfl ?_);refine AWp.sub (vp 1 (cG (.mk f n s a))) ?_;refine a8 (ag [] rfl ?_);exact aE (rtC trw)
mutual
def wfS : Ty → Bool
 | .mk f n s a => (if f = 4 then decide (n = 0 ∧ s = [] ∧ a.length = 2) else if f = 5 then decide (n = 0 ∧ a.length = 1) else a.isEmpty) && aAg a
def aAg : List Ty → Bool
 | [] => true
 | t :: l => wfS t && aAg l
end
theorem aCd : ∀ {l : List Ty} {t : Ty}, aAg l = true → t ∈ l → wfS t = true
 | u :: l, t, h, ht => by
  rw [aAg, Bool.and_eq_true] at h;rcases mem_cons.1 ht with rfl | ht
  ·exact h.1
  ·exact aCd h.2 ht
theorem qA {f n : Int} {s : Str} {a : List Ty} (h : wfS (.mk f n s a) = true) : a.length ≤ 2 ∧ (∀ u ∈ a, wfS u = true) ∧ (f = 4 → n = 0 ∧ s = [] ∧ ∃ u v, a = [u, v]) ∧ (f = 5 → n = 0 ∧ ∃ u, a = [u]) ∧ (¬ f = 4 → ¬ f = 5 → a = []) := by
 rw [wfS, Bool.and_eq_true] at h;obtain ⟨h1, h2⟩ := h;refine ⟨?_, fun u hu => aCd h2 hu, fun h4 => ?_, fun h5 => ?_, fun h4 h5 => ?_⟩
 ·split at h1
  ·exact le_of_eq (zq0 h1).2.2
  ·split at h1
   ·rw [(zq0 h1).2]; omega
   ·rw [isEmpty_iff.1 h1]; simp
 ·rw [if_pos h4] at h1;obtain ⟨a1, a2, a3⟩ := zq0 h1
  match a, a3 with
  | [u, v], _ => exact ⟨a1, a2, u, v, rfl⟩
 ·rw [if_neg (by omega), if_pos h5] at h1;obtain ⟨a1, a2⟩ := zq0 h1;exact ⟨a1, length_eq_one_iff.1 a2⟩
 ·rw [if_neg h4, if_neg h5] at h1;exact isEmpty_iff.1 h1
theorem wG : ∀ (k : Nat) (t : Ty), tn t ≤ k → wfS t = true → aY Tryz.prog 126 [tyV t] [] (tyV t) []
 | 0, t, h, _ => by have := lU t; omega
 | k + 1, t, h, hw => by
  obtain ⟨f, n, s, a⟩ := t;obtain ⟨h1, h2, _⟩ := qA hw;exact yX (.mk f n s a) (show a.length ≤ _ by omega) fun u hu => wG k u (by have hu : u ∈ a := hu; have := mC hu; rw [tn] at h; omega) (h2 u hu)
theorem aOt (a b : Ty) : aY Tryz.prog 127 [tyV a, tyV b] [] (tyV (aHw a b)) [] := by
 refine c8 (n := 9) tok Tryz.func127 rfl rfl rfl ?_;refine a8 (ag [] rfl ?_);refine a8 (ag [(2, .all)] rfl ?_);exact aE (rtC trw)
theorem aRa (s : Str) : aY Tryz.prog 73 [Go.AM.T s] [] (tyV (.mk 2 0 s [])) [] := by
 refine c8 (n := 5) tok Tryz.func73 rfl rfl rfl ?_;refine a8 (ag [] rfl ?_);refine a8 (ag [] rfl ?_);exact aE (rtC trw)
end Go.Proofs.YtmoekkcdkjopgaaGreatDoor
