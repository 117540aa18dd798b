/-
  Texts La5 to Ls5 in one.
-/
import Derived.Test.YtmoekkcdkjopgaaGreatDoorM5
import Derived.Shelf.Spec.SlicesGrow
import Derived.Laws.Runes
open List (all_eq_true cons_append drop_eq_getElem_cons drop_length drop_zero eq_nil_of_length_eq_zero flatten_cons foldl_append length_append length_cons length_eq_one_iff length_map length_nil length_take map_append map_cons map_nil mem_append mem_cons mem_cons_of_mem mem_cons_self mem_map mem_of_mem_take mem_range mem_singleton nil_append nodup_cons suffix_refl sum_cons sum_nil take_add_one take_length take_of_length_le take_succ_cons take_zero)
open Nat (add_assoc beq_refl eq_of_beq_eq_true le_max_left le_max_right le_of_eq le_refl le_trans min_eq_left mul_le_mul_right zero_add zero_le)
namespace Go.Proofs.YtmoekkcdkjopgaaGreatDoor
open Go Go.AM
set_option maxRecDepth 20000
def zTy : Ty := .mk 0 0 [] []
abbrev Mk := Core × List Int × Int
def bL (g : List Int → Int → Mk) (ns : List Str) (l : List Int) (left : Int) : Nat → List Bind × List Int × Int
 | 0 => ([], l, left)
 | i + 1 => let r := bL g ns l left i
  let c := g (cD 2 r.2.1).2 r.2.2
  (r.1 ++ [.mk (ns[i]?.getD []) (cD 2 r.2.1).1 c.1], c.2)
def cE (g : List Int → Int → Mk) (n : Int) (l : List Int) (left : Int) : Nat → List Alt × List Int × Int
 | 0 => ([], l, left)
 | i + 1 => let r := cE g n l left i
  let c := g (aY r.2.1).2 r.2.2
  (r.1 ++ [if i = 1 then .mk 2 (n / 14) [] [] c.1 else if i = 2 then .mk 3 0 [] [] c.1 else .mk 1 0 (oneOf aK8 (n / 14 + i)) (aY r.2.1).1 c.1], c.2)
def dY (g : List Int → Int → Mk) (n k : Int) (l : List Int) (left : Int) : Mk :=
 if k < 2 then (.mk 1 0 (oneOf nmL (n / 14)) zTy [] [] [], l, left)
 else if k = 2 then (.mk 2 0 (oneOf aK8 (n / 14)) zTy [] [] [], l, left)
 else if k = 3 then (.mk 3 (n / 14 - 3) [] zTy [] [] [], l, left)
 else if k < 6 then (.mk 4 0 [] zTy [(g l left).1, (g (g l left).2.1 (g l left).2.2).1] [] [], (g (g l left).2.1 (g l left).2.2).2)
 else if k < 8 then (.mk 5 0 (oneOf nmL (n / 14)) (cD 2 l).1 [(g (cD 2 l).2 left).1] [] [], (g (cD 2 l).2 left).2)
 else if k = 8 then (.mk 6 0 [] (cD 2 l).1 [(g (cD 2 l).2 left).1] [] [], (g (cD 2 l).2 left).2)
 else if k = 9 then (.mk 7 0 (oneOf l9 (n / 14)) zTy [(g l left).1] [] [], (g l left).2)
 else if k = 10 then
  let r := bL g (aY l).1 (aY l).2 left (aY l).1.length
  (.mk 8 0 [] zTy [(g r.2.1 r.2.2).1] r.1 [], (g r.2.1 r.2.2).2)
 else if k = 11 then
  let c := g (cD 2 l).2 left
  let r := cE g n c.2.1 c.2.2 (n / 14 % 4).toNat
  (.mk 9 0 [] (cD 2 l).1 [c.1] [] r.1, r.2)
 else if k = 12 then (.mk 10 0 (oneOf r6 (n / 14)) zTy [(g l left).1, (g (g l left).2.1 (g l left).2.2).1] [] [], (g (g l left).2.1 (g l left).2.2).2)
 else (.mk 11 0 [] (cD 2 l).1 [] [] [], (cD 2 l).2, left)
def nV : Nat → List Int → Int → Mk
 | 0, l, left => dY (fun l left => (.mk 0 0 [] zTy [] [] [], l, left)) (aT l).1 ((aT l).1 % 4) (aT l).2 (left - 1)
 | f + 1, l, left => dY (nV f) (aT l).1 (if left - 1 < 1 then (aT l).1 % 4 else (aT l).1 % 14) (aT l).2 (left - 1)
structure MkOk (g : List Int → Int → Mk) (N : Nat) : Prop where
 suf : ∀ l left, (g l left).2.1 <:+ l
 le : ∀ l left, (g l left).2.2 ≤ left
 ge : ∀ l left, left ≤ (g l left).2.2 + N
theorem jB (l : List Int) : (aY l).2 <:+ l := eX l
theorem iC (l : List Int) : (aY l).1.length ≤ 3 := by
 have h1 := mP (aT l).1 ((aT l).1 % 4).toNat;have h2 : ((aT l).1 % 4).toNat ≤ 3 := by omega
 exact le_trans h1 h2
theorem oS {g : List Int → Int → Mk} {N : Nat} (h : MkOk g N) (ns : List Str) (l : List Int) (left : Int) : ∀ i : Nat, (bL g ns l left i).2.1 <:+ l ∧ (bL g ns l left i).2.2 ≤ left ∧ left ≤ (bL g ns l left i).2.2 + (i : Int) * N ∧ (bL g ns l left i).1.length = i
 | 0 => by simp [bL]
 | i + 1 => by
  obtain ⟨h1, h2, h3, h4⟩ := oS h ns l left i;simp only [bL];refine ⟨((h.suf _ _).trans (fW 2 _)).trans h1, Int.le_trans (h.le _ _) h2, ?_, by simp [h4]⟩;have := h.ge (cD 2 (bL g ns l left i).2.1).2 (bL g ns l left i).2.2;rw [show ((i + 1 : Nat) : Int) * (N : Int) = (i : Int) * N + N by rw [Int.natCast_add, Int.add_mul]; simp];omega
theorem rZ {g : List Int → Int → Mk} {N : Nat} (h : MkOk g N) (n : Int) (l : List Int) (left : Int) : ∀ i : Nat, (cE g n l left i).2.1 <:+ l ∧ (cE g n l left i).2.2 ≤ left ∧ left ≤ (cE g n l left i).2.2 + (i : Int) * N ∧ (cE g n l left i).1.length = i
 | 0 => by simp [cE]
 | i + 1 => by
  obtain ⟨h1, h2, h3, h4⟩ := rZ h n l left i;simp only [cE];refine ⟨((h.suf _ _).trans (jB _)).trans h1, Int.le_trans (h.le _ _) h2, ?_, by simp [h4]⟩;have := h.ge (aY (cE g n l left i).2.1).2 (cE g n l left i).2.2;rw [show ((i + 1 : Nat) : Int) * (N : Int) = (i : Int) * N + N by rw [Int.natCast_add, Int.add_mul]; simp];omega
theorem aE4 {g : List Int → Int → Mk} {N : Nat} (h : MkOk g N) (n k : Int) (l : List Int) (left : Int) : (dY g n k l left).2.1 <:+ l ∧ (dY g n k l left).2.2 ≤ left ∧ left ≤ (dY g n k l left).2.2 + 4 * N := by
 have ht := fW 2 l;have hg1 := h.suf l left;have hg2 := h.le l left;have hg3 := h.ge l left;have hh1 := h.suf (g l left).2.1 (g l left).2.2;have hh2 := h.le (g l left).2.1 (g l left).2.2;have hh3 := h.ge (g l left).2.1 (g l left).2.2;have hu1 := h.suf (cD 2 l).2 left;have hu2 := h.le (cD 2 l).2 left;have hu3 := h.ge (cD 2 l).2 left;unfold dY;split
 ·exact ⟨suffix_refl _, Int.le_refl _, by dsimp only; omega⟩
 split
 ·exact ⟨suffix_refl _, Int.le_refl _, by dsimp only; omega⟩
 split
 ·exact ⟨suffix_refl _, Int.le_refl _, by dsimp only; omega⟩
 split
 ·exact ⟨hh1.trans hg1, by dsimp only; omega, by dsimp only; omega⟩
 split
 ·exact ⟨hu1.trans ht, by dsimp only; omega, by dsimp only; omega⟩
 split
 ·exact ⟨hu1.trans ht, by dsimp only; omega, by dsimp only; omega⟩
 split
 ·exact ⟨hg1, by dsimp only; omega, by dsimp only; omega⟩
 split
 ·have hl := iC l;obtain ⟨b1, b2, b3, _⟩ := oS h (aY l).1 (aY l).2 left (aY l).1.length;have c1 := h.suf (bL g (aY l).1 (aY l).2 left (aY l).1.length).2.1 (bL g (aY l).1 (aY l).2 left (aY l).1.length).2.2;have c2 := h.le (bL g (aY l).1 (aY l).2 left (aY l).1.length).2.1 (bL g (aY l).1 (aY l).2 left (aY l).1.length).2.2;have c3 := h.ge (bL g (aY l).1 (aY l).2 left (aY l).1.length).2.1 (bL g (aY l).1 (aY l).2 left (aY l).1.length).2.2;have hm : (((aY l).1.length : Nat) : Int) * (N : Int) ≤ 3 * (N : Int) := Int.mul_le_mul_of_nonneg_right (by omega) (by omega);exact ⟨(c1.trans b1).trans (jB l), by dsimp only; omega, by dsimp only; omega⟩
 split
 ·obtain ⟨b1, b2, b3, _⟩ := rZ h n (g (cD 2 l).2 left).2.1 (g (cD 2 l).2 left).2.2 (n / 14 % 4).toNat;have hm : (((n / 14 % 4).toNat : Nat) : Int) * (N : Int) ≤ 3 * (N : Int) := Int.mul_le_mul_of_nonneg_right (by omega) (by omega);exact ⟨(b1.trans hu1).trans ht, by dsimp only; omega, by dsimp only; omega⟩
 split
 ·exact ⟨hh1.trans hg1, by dsimp only; omega, by dsimp only; omega⟩
 ·exact ⟨ht, Int.le_refl _, by dsimp only; omega⟩
def use : Nat → Nat
 | 0 => 1
 | f + 1 => 1 + 4 * use f
theorem aE3 : ∀ f : Nat, MkOk (nV f) (use f)
 | 0 => by
  have h : MkOk (fun l left => ((.mk 0 0 [] zTy [] [] [], l, left) : Mk)) 0 := ⟨fun _ _ => suffix_refl _, fun _ _ => Int.le_refl _, fun _ _ => by simp⟩
  refine ⟨fun l left => ?_, fun l left => ?_, fun l left => ?_⟩ <;> obtain ⟨h1, h2, h3⟩ := aE4 h (aT l).1 ((aT l).1 % 4) (aT l).2 (left - 1) <;> simp only [nV, use]
  ·exact h1.trans (eX l)
  ·omega
  ·simp only [Int.natCast_zero, Int.mul_zero, Int.add_zero] at h3; omega
 | f + 1 => by
  have h := aE3 f;refine ⟨fun l left => ?_, fun l left => ?_, fun l left => ?_⟩ <;> obtain ⟨h1, h2, h3⟩ := aE4 h (aT l).1 (if left - 1 < 1 then (aT l).1 % 4 else (aT l).1 % 14) (aT l).2 (left - 1) <;> simp only [nV, use]
  ·exact h1.trans (eX l)
  ·omega
  ·simp only [Int.natCast_add, Int.natCast_mul]; omega
def gOf : Nat → List Int → Int → Mk
 | 0 => fun l left => (.mk 0 0 [] zTy [] [] [], l, left)
 | f + 1 => nV f
theorem aOh (f : Nat) (l : List Int) (left : Int) : nV f l left = dY (gOf f) (aT l).1 (if f = 0 ∨ left - 1 < 1 then (aT l).1 % 4 else (aT l).1 % 14) (aT l).2 (left - 1) := by
 cases f with
 | zero => simp [nV, gOf]
 | succ f => simp [nV, gOf]
def aMl (g : List Int → Int → Mk) (dp : Int) (N : Nat) : Prop := ∀ l left, aAj l → Fits l → -9223372036854775808 + (N : Int) ≤ left → left ≤ 1000000 →
 aU Tryz.prog 35 [.one (.vp 700 0), I .i64 dp] (mkO l left) (.pa (aC (g l left).1)) (mkO (g l left).2.1 (g l left).2.2)
theorem rW (f : Nat) (dp : Int) (hd : dp + f = 6) (h0 : 0 ≤ dp) (ih : 1 ≤ f → aMl (gOf f) (dp + 1) (use (f - 1))) (hg : 1 ≤ f → MkOk (gOf f) (use (f - 1))) : aMl (nV f) dp (use f) := by
 intro l left hl hf hlo hhi;have hn := pX l;have hl1 := hl.suf (eX l);have hf1 := hf.suf (eX l);have huse : 1 ≤ use f := by cases f <;> simp [use]
 refine bT (n := 211) tok Tryz.func35 rfl rfl rfl ?_;refine a8 (ag [] rfl ?_);refine a8 (aE mixed ?_);refine ak 1 [] rfl ?_;refine kc (aE9 l left hl hf) ?_;refine ak 1 [] rfl ?_;refine az ?_;refine a8 (ag [] rfl ?_);refine a8 (ag [] rfl ?_);refine a8 (AWp.cut (mk [(0, .one (.vp 700 0)), (1, I .i64 dp), (4, .one (.vp 4 0)), (5, I .i64 (aT l).1), (6, I .i64 (if f = 0 ∨ left - 1 < 1 then (aT l).1 % 4 else (aT l).1 % 14))] ((4, .var 37 [.c (.int .i64 0), .c (.int .i64 0), .c (.str []), .c (.int .i64 0), .c (.int .i64 0), .c (.str []), .c .nl, .c .nl, .c .nl, .c .nl]) :: mkO (aT l).2 (left - 1))) ?_ ?_)
 ·refine a8 (agF 3 [] rfl rfl rfl ?_);refine aA rfl (fun hb => ?_) (fun hb => ?_)
  ·have hb' : f = 0 ∨ left - 1 < 1 := by
    simp at hb;omega
   refine ag [] rfl ?_;rw [if_pos hb'];exact .list (fun i => i) ⟨rfl, rfl, rfl, rfl, rfl, trivial⟩ ⟨⟨_, rfl, .var rfl⟩, ⟨_, rfl, .var rfl⟩, trivial⟩ rfl
  ·have hb' : ¬ (f = 0 ∨ left - 1 < 1) := by
    simp at hb;omega
   refine aD ?_;rw [if_neg hb'];exact .list (fun i => i) ⟨rfl, rfl, rfl, rfl, rfl, trivial⟩ ⟨⟨_, rfl, .var rfl⟩, ⟨_, rfl, .var rfl⟩, trivial⟩ rfl
 have hr0 := aOh f l left;have hk0 : 0 ≤ (if f = 0 ∨ left - 1 < 1 then (aT l).1 % 4 else (aT l).1 % 14) := by split <;> omega
 have hkf : 4 ≤ (if f = 0 ∨ left - 1 < 1 then (aT l).1 % 4 else (aT l).1 % 14) → 1 ≤ f ∧ 1 ≤ left - 1 := by split <;> omega
 rw [hr0];clear hr0;generalize (if f = 0 ∨ left - 1 < 1 then (aT l).1 % 4 else (aT l).1 % 14) = k at hk0 hkf ⊢;generalize (aT l).2 = l1 at hl1 hf1 ⊢;generalize (aT l).1 = n at hn ⊢;have hlu : -9223372036854775808 + (use f : Int) ≤ left := hlo;refine a8 (a8 (ag [] rfl ?_))

 refine aB (a8 (a8 (ag [] rfl ?_)));refine aA rfl (fun hb => ?_) (fun hb => ?_)
 ·have h0 : k = 0 := by simpa using hb
  refine aD (aA rfl (fun _ => ?_) (fun hb' => by rw [hb] at hb'; cases hb'));have hr : dY (gOf f) n k l1 (left - 1) = (.mk 1 0 (oneOf nmL (n / 14)) zTy [] [] [], l1, left - 1) := by
   unfold dY;rw [if_pos (by omega)]
  rw [hr];refine a8 (aE mixed ?_);refine ak 2 [] rfl ?_;refine kc (zD (n / 14) (by unfold i64; omega)) ?_;refine ak 2 [] rfl ?_;refine az ?_;exact aI (rtC trw)
 ·have h0 : ¬ k = 0 := by simpa using hb
  refine ag [] rfl ?_;refine aA rfl (fun hb1 => ?_) (fun hb1 => ?_)
  ·have h1 : k = 1 := by simpa using hb1
   have hr : dY (gOf f) n k l1 (left - 1) = (.mk 1 0 (oneOf nmL (n / 14)) zTy [] [] [], l1, left - 1) := by
    unfold dY;rw [if_pos (by omega)]
   rw [hr];refine a8 (aE mixed ?_);refine ak 2 [] rfl ?_;refine kc (zD (n / 14) (by unfold i64; omega)) ?_;refine ak 2 [] rfl ?_;refine az ?_;exact aI (rtC trw)
  ·have h1 : ¬ k = 1 := by simpa using hb1
   have c1 : ¬ k < 2 := by omega
   refine a8 (ag [] rfl ?_);refine aA rfl (fun hb2 => ?_) (fun hb2 => ?_)
   ·have h2 : k = 2 := by simpa using hb2
    have hr : dY (gOf f) n k l1 (left - 1) = (.mk 2 0 (oneOf aK8 (n / 14)) zTy [] [] [], l1, left - 1) := by
     unfold dY;rw [if_neg c1, if_pos h2]
    rw [hr];refine a8 (aE mixed ?_);refine ak 2 [] rfl ?_;refine kc (aOu (n / 14) (by unfold i64; omega)) ?_;refine ak 2 [] rfl ?_;refine az ?_;exact aI (rtC trw)
   ·have h2 : ¬ k = 2 := by simpa using hb2
    refine a8 (ag [] rfl ?_);refine aA rfl (fun hb3 => ?_) (fun hb3 => ?_)
    ·have h3 : k = 3 := by simpa using hb3
     have hr : dY (gOf f) n k l1 (left - 1) = (.mk 3 (n / 14 - 3) [] zTy [] [] [], l1, left - 1) := by
      unfold dY;rw [if_neg c1, if_neg h2, if_pos h3]
     rw [hr];refine a8 (ag [] rfl ?_);exact aI (rtC trw)
    ·have h3 : ¬ k = 3 := by simpa using hb3
     refine a8 (a8 (ag [] rfl ?_));refine aA rfl (fun hb4 => ?_) (fun hb4 => ?_)
     ·have h4 : k = 4 := by simpa using hb4
      refine aD (aA rfl (fun _ => ?_) (fun hb' => by rw [hb4] at hb'; cases hb'));obtain ⟨hf0, hl0⟩ := hkf (by omega);have ho := hg hf0;have hu : use f = 1 + 4 * use (f - 1) := by cases f with | zero => omega | succ f => rfl
      have g1 := ho.suf l1 (left - 1);have g2 := ho.le l1 (left - 1);have g3 := ho.ge l1 (left - 1);have ih1 := ih hf0 l1 (left - 1) hl1 hf1 (by omega) (by omega);have ih2 := ih hf0 (gOf f l1 (left - 1)).2.1 (gOf f l1 (left - 1)).2.2 (hl1.suf g1) (hf1.suf g1) (by omega) (by omega);have hr : dY (gOf f) n k l1 (left - 1) = (.mk 4 0 [] zTy [(gOf f l1 (left - 1)).1, (gOf f (gOf f l1 (left - 1)).2.1 (gOf f l1 (left - 1)).2.2).1] [] [], (gOf f (gOf f l1 (left - 1)).2.1 (gOf f l1 (left - 1)).2.2).2) := by
       unfold dY;rw [if_neg c1, if_neg h2, if_neg h3, if_pos (by omega)]
      rw [hr];refine a8 (aE mixed ?_);refine ak 3 [] rfl ?_;refine kc ih1 ?_;refine ak 2 [] rfl ?_;refine az ?_;refine a8 (aE mixed ?_);refine ak 4 [] rfl ?_;refine kc ih2 ?_;refine ak 3 [] rfl ?_;refine az ?_;refine AWp.sub (Sub.freeze (id := 72) rfl) (aI (rtC trw))
     ·have h4 : ¬ k = 4 := by simpa using hb4
      refine ag [] rfl ?_;refine aA rfl (fun hb5 => ?_) (fun hb5 => ?_)
      ·have h5 : k = 5 := by simpa using hb5
       obtain ⟨hf0, hl0⟩ := hkf (by omega);have ho := hg hf0;have hu : use f = 1 + 4 * use (f - 1) := by cases f with | zero => omega | succ f => rfl
       have g1 := ho.suf l1 (left - 1);have g2 := ho.le l1 (left - 1);have g3 := ho.ge l1 (left - 1);have ih1 := ih hf0 l1 (left - 1) hl1 hf1 (by omega) (by omega);have ih2 := ih hf0 (gOf f l1 (left - 1)).2.1 (gOf f l1 (left - 1)).2.2 (hl1.suf g1) (hf1.suf g1) (by omega) (by omega);have hr : dY (gOf f) n k l1 (left - 1) = (.mk 4 0 [] zTy [(gOf f l1 (left - 1)).1, (gOf f (gOf f l1 (left - 1)).2.1 (gOf f l1 (left - 1)).2.2).1] [] [], (gOf f (gOf f l1 (left - 1)).2.1 (gOf f l1 (left - 1)).2.2).2) := by
        unfold dY;rw [if_neg c1, if_neg h2, if_neg h3, if_pos (by omega)]
       rw [hr];refine a8 (aE mixed ?_);refine ak 3 [] rfl ?_;refine kc ih1 ?_;refine ak 2 [] rfl ?_;refine az ?_;refine a8 (aE mixed ?_);refine ak 4 [] rfl ?_;refine kc ih2 ?_;refine ak 3 [] rfl ?_;refine az ?_;refine AWp.sub (Sub.freeze (id := 72) rfl) (aI (rtC trw))
      ·have h5 : ¬ k = 5 := by simpa using hb5
       have c2 : ¬ k < 6 := by omega
       refine a8 (a8 (ag [] rfl ?_));refine aA rfl (fun hb6 => ?_) (fun hb6 => ?_)
       ·have h6 : k = 6 := by simpa using hb6
        refine aD (aA rfl (fun _ => ?_) (fun hb' => by rw [hb6] at hb'; cases hb'));obtain ⟨hf0, hl0⟩ := hkf (by omega);have ho := hg hf0;have hu : use f = 1 + 4 * use (f - 1) := by cases f with | zero => omega | succ f => rfl
        have ht := fW 2 l1;have iht := ih hf0 (cD 2 l1).2 (left - 1) (hl1.suf ht) (hf1.suf ht) (by omega) (by omega);have hty := aGu (left - 1) 2 l1 1 hl1 hf1 (by omega) (by omega);have hr : dY (gOf f) n k l1 (left - 1) = (.mk 5 0 (oneOf nmL (n / 14)) (cD 2 l1).1 [(gOf f (cD 2 l1).2 (left - 1)).1] [] [], (gOf f (cD 2 l1).2 (left - 1)).2) := by
         unfold dY;rw [if_neg c1, if_neg h2, if_neg h3, if_neg c2, if_pos (by omega)]
        rw [hr];refine a8 (aE mixed ?_);refine ak 1 [] rfl ?_;refine kc hty ?_;refine ak 2 [] rfl ?_;refine az ?_;refine a8 (aE mixed ?_);refine ak 2 [] rfl ?_;refine kc (zD (n / 14) (by unfold i64; omega)) ?_;refine ak 4 [] rfl ?_;refine kc iht ?_;refine ak 3 [] rfl ?_;refine az ?_;refine AWp.sub (Sub.freeze (id := 87) rfl) (aI (rtC trw))
       ·have h6 : ¬ k = 6 := by simpa using hb6
        refine ag [] rfl ?_;refine aA rfl (fun hb7 => ?_) (fun hb7 => ?_)
        ·have h7 : k = 7 := by simpa using hb7
         obtain ⟨hf0, hl0⟩ := hkf (by omega);have ho := hg hf0;have hu : use f = 1 + 4 * use (f - 1) := by cases f with | zero => omega | succ f => rfl
         have ht := fW 2 l1;have iht := ih hf0 (cD 2 l1).2 (left - 1) (hl1.suf ht) (hf1.suf ht) (by omega) (by omega);have hty := aGu (left - 1) 2 l1 1 hl1 hf1 (by omega) (by omega);have hr : dY (gOf f) n k l1 (left - 1) = (.mk 5 0 (oneOf nmL (n / 14)) (cD 2 l1).1 [(gOf f (cD 2 l1).2 (left - 1)).1] [] [], (gOf f (cD 2 l1).2 (left - 1)).2) := by
          unfold dY;rw [if_neg c1, if_neg h2, if_neg h3, if_neg c2, if_pos (by omega)]
         rw [hr];refine a8 (aE mixed ?_);refine ak 1 [] rfl ?_;refine kc hty ?_;refine ak 2 [] rfl ?_;refine az ?_;refine a8 (aE mixed ?_);refine ak 2 [] rfl ?_;refine kc (zD (n / 14) (by unfold i64; omega)) ?_;refine ak 4 [] rfl ?_;refine kc iht ?_;refine ak 3 [] rfl ?_;refine az ?_;refine AWp.sub (Sub.freeze (id := 87) rfl) (aI (rtC trw))
        ·have h7 : ¬ k = 7 := by simpa using hb7
         have c3 : ¬ k < 8 := by omega
         refine a8 (ag [] rfl ?_);refine aA rfl (fun hb8 => ?_) (fun hb8 => ?_)
         ·have h8 : k = 8 := by simpa using hb8
          obtain ⟨hf0, hl0⟩ := hkf (by omega);have ho := hg hf0;have hu : use f = 1 + 4 * use (f - 1) := by cases f with | zero => omega | succ f => rfl
          have ht := fW 2 l1;have iht := ih hf0 (cD 2 l1).2 (left - 1) (hl1.suf ht) (hf1.suf ht) (by omega) (by omega);have hty := aGu (left - 1) 2 l1 1 hl1 hf1 (by omega) (by omega);have hr : dY (gOf f) n k l1 (left - 1) = (.mk 6 0 [] (cD 2 l1).1 [(gOf f (cD 2 l1).2 (left - 1)).1] [] [], (gOf f (cD 2 l1).2 (left - 1)).2) := by
           unfold dY;rw [if_neg c1, if_neg h2, if_neg h3, if_neg c2, if_neg c3, if_pos h8]
          rw [hr];refine a8 (aE mixed ?_);refine ak 1 [] rfl ?_;refine kc hty ?_;refine ak 2 [] rfl ?_;refine az ?_;refine a8 (aE mixed ?_);refine ak 4 [] rfl ?_;refine kc iht ?_;refine ak 3 [] rfl ?_;refine az ?_;refine AWp.sub (Sub.freeze (id := 98) rfl) (aI (rtC trw))
         ·have h8 : ¬ k = 8 := by simpa using hb8
          refine a8 (ag [] rfl ?_);refine aA rfl (fun hb9 => ?_) (fun hb9 => ?_)
          ·have h9 : k = 9 := by simpa using hb9
           obtain ⟨hf0, hl0⟩ := hkf (by omega);have ho := hg hf0;have hu : use f = 1 + 4 * use (f - 1) := by cases f with | zero => omega | succ f => rfl
           have g1 := ho.suf l1 (left - 1);have g2 := ho.le l1 (left - 1);have g3 := ho.ge l1 (left - 1);have ih1 := ih hf0 l1 (left - 1) hl1 hf1 (by omega) (by omega);have ih2 := ih hf0 (gOf f l1 (left - 1)).2.1 (gOf f l1 (left - 1)).2.2 (hl1.suf g1) (hf1.suf g1) (by omega) (by omega);have hr : dY (gOf f) n k l1 (left - 1) = (.mk 7 0 (oneOf l9 (n / 14)) zTy [(gOf f l1 (left - 1)).1] [] [], (gOf f l1 (left - 1)).2) := by
            unfold dY;rw [if_neg c1, if_neg h2, if_neg h3, if_neg c2, if_neg c3, if_neg h8, if_pos h9]
           rw [hr];refine a8 (aE mixed ?_);refine ak 2 [] rfl ?_;refine kc (oO (n / 14) (by unfold i64; omega)) ?_;refine ak 3 [] rfl ?_;refine kc ih1 ?_;refine ak 3 [] rfl ?_;refine az ?_;refine AWp.sub (Sub.freeze (id := 109) rfl) (aI (rtC trw))
          ·have h9 : ¬ k = 9 := by simpa using hb9
           refine a8 (ag [] rfl ?_);refine aA rfl (fun hb10 => ?_) (fun hb10 => ?_)
           ·have h10 : k = 10 := by simpa using hb10
            obtain ⟨hf0, hl0⟩ := hkf (by omega);have ho := hg hf0;have hu : use f = 1 + 4 * use (f - 1) := by cases f with | zero => omega | succ f => rfl
            have hnm := iC l1;have hr : dY (gOf f) n k l1 (left - 1) = (.mk 8 0 [] zTy [(gOf f (bL (gOf f) (aY l1).1 (aY l1).2 (left - 1) (aY l1).1.length).2.1 (bL (gOf f) (aY l1).1 (aY l1).2 (left - 1) (aY l1).1.length).2.2).1] (bL (gOf f) (aY l1).1 (aY l1).2 (left - 1) (aY l1).1.length).1 [], (gOf f (bL (gOf f) (aY l1).1 (aY l1).2 (left - 1) (aY l1).1.length).2.1 (bL (gOf f) (aY l1).1 (aY l1).2 (left - 1) (aY l1).1.length).2.2).2) := by
             unfold dY;rw [if_neg c1, if_neg h2, if_neg h3, if_neg c2, if_neg c3, if_neg h8, if_neg h9, if_pos h10]
            rw [hr];refine a8 (aE mixed ?_);refine ak 1 [] rfl ?_;refine kc (aLg (left - 1) l1 hl1 hf1) ?_;refine ak 1 [] rfl ?_;refine az ?_;have hl2 := hl1.suf (jB l1);have hf2 := hf1.suf (jB l1);generalize (aY l1).1 = ns at hnm ⊢;generalize (aY l1).2 = l2 at hl2 hf2 ⊢;refine a8 (ag [] rfl ?_);refine a8 (a8 (ag [] rfl ?_));refine AWp.sub (Sub.ownCell (x := 11) (k := 8) (id := 800) 73 15 rfl rfl rfl) ?_;have hB := oS ho ns l2 (left - 1);generalize hBd : bL (gOf f) ns l2 (left - 1) = B at hB ⊢;refine aB (aL (fun i : Nat => mk [(0, .one (.vp 700 0)), (1, I .i64 dp), (4, .one (.vp 4 0)), (10, .one (.c (.sl 1 (ns.map bN)))), (11, .one (.vp 11 0)), (12, I .i64 i)] ((4, .var 37 [.c (.int .i64 0), .c (.int .i64 0), .c (.str []), .c (.int .i64 0), .c (.int .i64 0), .c (.str []), .c .nl, .c .nl, .c .nl, .c .nl]) :: (11, .var 37 [.c (.int .i64 8), .c (.int .i64 0), .c (.str []), .c (.int .i64 0), .c (.int .i64 0), .c (.str []), .c .nl, .c .nl, .hs 800 0 (B i).1.length (B i).1.length, .c .nl]) :: (800, .arr 73 15 (aR (B i).1) 0) :: mkO (B i).2.1 (B i).2.2)) (fun i => i ≤ ns.length) (fun i => ns.length - i) 0 (zero_le _) (by rw [← hBd]; exact .list (fun i => i) ⟨rfl, rfl, rfl, rfl, rfl, rfl, trivial⟩ ⟨⟨_, rfl, .var rfl⟩, ⟨_, rfl, .var rfl⟩, ⟨_, rfl, .arr⟩, ⟨_, rfl, .var rfl⟩, trivial⟩ rfl) ?_);intro i hi;obtain ⟨b1, b2, b3, b4⟩ := hB i;have hsz : (B i).1.length = (aR (B i).1).length := by rw [bO, length_map]
            have hbl : (aR (B i).1).length ≤ 3 := by omega
            have hm : (i : Int) * (use (f - 1) : Int) ≤ 3 * (use (f - 1) : Int) := Int.mul_le_mul_of_nonneg_right (by omega) (by omega);have hlB := hl2.suf b1;have hfB := hf2.suf b1;refine a8 (a8 (ag [] rfl ?_));refine aA rfl (fun hb => ?_) (fun hb => ?_)
            ·refine aD ?_;have hlt : i < ns.length := by simpa using hb
             obtain ⟨s, hs⟩ := aK hlt;have hs' := bQ bN hs;have hty := aGu (B i).2.2 2 (B i).2.1 1 hlB hfB (by omega) (by omega);have htS := fW 2 (B i).2.1;have ihB := ih hf0 (cD 2 (B i).2.1).2 (B i).2.2 (hlB.suf htS) (hfB.suf htS) (by omega) (by omega);have he : B (i + 1) = ((B i).1 ++ [.mk s (cD 2 (B i).2.1).1 (gOf f (cD 2 (B i).2.1).2 (B i).2.2).1], (gOf f (cD 2 (B i).2.1).2 (B i).2.2).2) := by
              rw [← hBd, bL, hs];rfl
             refine a8 (aB (a8 (aE mixed ?_)));refine ak 1 [] rfl ?_;refine kc hty ?_;refine ak 2 [] rfl ?_;refine az ?_;refine aE mixed ?_;refine ak 10 [(4, .row i (bN s))] rfl ?_;refine kc ihB ?_;refine ak 5 [] rfl ?_;refine az ?_;refine ag [] rfl ?_;refine ⟨i + 1, hlt, by dsimp only; omega, ?_⟩;dsimp only;rw [he];exact .list (fun i => i) ⟨rfl, rfl, rfl, rfl, rfl, rfl, trivial⟩ ⟨⟨_, rfl, .var rfl⟩, ⟨_, rfl, .var (by simp [R.renL, R.ren, bO])⟩, ⟨_, rfl, by rw [bO ((B i).1 ++ _), map_append, ← bO]; exact .arr⟩, ⟨_, rfl, .var rfl⟩, trivial⟩ rfl
            ·have hie : i = ns.length := by
              have : ¬ i < ns.length := by simpa using hb
              omega
             rw [← hie];have ihB := ih hf0 (B i).2.1 (B i).2.2 hlB hfB (by omega) (by omega);have hE : aR (B i).1 = ((aR (B i).1).drop 0).take (B i).1.length := by rw [drop_zero, hsz, take_length]
             refine aM (a8 (aE mixed ?_));refine ak 3 [] rfl ?_;refine kc ihB ?_;refine ak 3 [] rfl ?_;refine az ?_;refine a8 (ag [] rfl ?_);refine AWp.sub (Sub.freeze (id := 800) rfl) (AWp.sub (Sub.freeze (id := 143) rfl) (aI ?_));exact ⟨.inr rfl, ⟨_, _, .cell rfl (tg rfl) rfl rfl rfl .nil, .cons (by (first | apply Go.AM.Conv.pa | apply Go.AM.Conv.agg); repeat (first | exact .nil | apply Go.AM.PureL.c .refl | apply Go.AM.PureL.c .nl | (apply Go.AM.PureL.hs; rfl; (first | rfl | assumption | simp); (first | exact hE | rfl)))) .nil, rfl⟩, ⟨⟨_, rfl, .var rfl⟩, trivial⟩, rfl⟩
           ·have h10 : ¬ k = 10 := by simpa using hb10
            refine a8 (ag [] rfl ?_);refine aA rfl (fun hb11 => ?_) (fun hb11 => ?_)
            ·have h11 : k = 11 := by simpa using hb11
             obtain ⟨hf0, hl0⟩ := hkf (by omega);have ho := hg hf0;have hu : use f = 1 + 4 * use (f - 1) := by cases f with | zero => omega | succ f => rfl
             have ht := fW 2 l1;have iht := ih hf0 (cD 2 l1).2 (left - 1) (hl1.suf ht) (hf1.suf ht) (by omega) (by omega);have hty := aGu (left - 1) 2 l1 1 hl1 hf1 (by omega) (by omega);have hr : dY (gOf f) n k l1 (left - 1) = (.mk 9 0 [] (cD 2 l1).1 [(gOf f (cD 2 l1).2 (left - 1)).1] [] (cE (gOf f) n (gOf f (cD 2 l1).2 (left - 1)).2.1 (gOf f (cD 2 l1).2 (left - 1)).2.2 (n / 14 % 4).toNat).1, (cE (gOf f) n (gOf f (cD 2 l1).2 (left - 1)).2.1 (gOf f (cD 2 l1).2 (left - 1)).2.2 (n / 14 % 4).toNat).2) := by
              unfold dY;rw [if_neg c1, if_neg h2, if_neg h3, if_neg c2, if_neg c3, if_neg h8, if_neg h9, if_neg h10, if_pos h11]
             rw [hr];refine a8 (aE mixed ?_);refine ak 1 [] rfl ?_;refine kc hty ?_;refine ak 3 [] rfl ?_;refine az ?_;refine a8 (aE mixed ?_);refine ak 3 [] rfl ?_;refine kc iht ?_;refine ak 3 [] rfl ?_;refine az ?_;have g1 := (ho.suf (cD 2 l1).2 (left - 1)).trans ht;have g2 := ho.le (cD 2 l1).2 (left - 1);have g3 := ho.ge (cD 2 l1).2 (left - 1);have hl2 := hl1.suf g1;have hf2 := hf1.suf g1;generalize gOf f (cD 2 l1).2 (left - 1) = c at g2 g3 hl2 hf2 ⊢;generalize (cD 2 l1).1 = t;refine a8 (a8 (ag [] rfl ?_));refine AWp.sub (Sub.freeze (id := 155) rfl) (AWp.sub (Sub.ownCell (x := 14) (k := 9) (id := 900) 78 14 rfl rfl rfl) ?_);have hA := rZ ho n c.2.1 c.2.2;generalize hAd : cE (gOf f) n c.2.1 c.2.2 = A at hA ⊢;refine aB (aL (fun i : Nat => mk [(0, .one (.vp 700 0)), (1, I .i64 dp), (4, .one (.vp 4 0)), (5, I .i64 n), (14, .one (.vp 14 0)), (15, I .i64 i)] ((4, .var 37 [.c (.int .i64 0), .c (.int .i64 0), .c (.str []), .c (.int .i64 0), .c (.int .i64 0), .c (.str []), .c .nl, .c .nl, .c .nl, .c .nl]) :: (14, .var 37 [.c (.int .i64 9), .c (.int .i64 0), .c (.str []), .c (.int .i64 t.form), .c (.int .i64 t.n), .c (.str t.name), .c (.sl 4 (gG t)), .hs 155 0 1 1, .c .nl, .hs 900 0 (A i).1.length (A i).1.length]) :: (155, .arr 37 10 [aC c.1] 2) :: (900, .arr 78 14 (c9 (A i).1) 0) :: mkO (A i).2.1 (A i).2.2)) (fun i => (i : Int) ≤ n / 14 % 4) (fun i => 4 - i) 0 (by simp; omega) (by rw [← hAd]; exact .list (fun i => i) ⟨rfl, rfl, rfl, rfl, rfl, rfl, trivial⟩ ⟨⟨_, rfl, .var rfl⟩, ⟨_, rfl, .var rfl⟩, ⟨_, rfl, .arr⟩, ⟨_, rfl, .arr⟩, ⟨_, rfl, .var rfl⟩, trivial⟩ rfl) ?_);intro i hi;obtain ⟨b1, b2, b3, b4⟩ := hA i;have hsz : (A i).1.length = (c9 (A i).1).length := by rw [bH, length_map]
             have hbl : (c9 (A i).1).length ≤ 3 := by omega
             have hm : (i : Int) * (use (f - 1) : Int) ≤ 3 * (use (f - 1) : Int) := Int.mul_le_mul_of_nonneg_right (by omega) (by omega);have hlA := hl2.suf b1;have hfA := hf2.suf b1;refine a8 (a8 (ag [] rfl ?_));refine aA rfl (fun hb => ?_) (fun hb => ?_)
             ·refine aD ?_;have hlt : (i : Int) < n / 14 % 4 := by simpa using hb
              have hm2 : (i : Int) * (use (f - 1) : Int) ≤ 2 * (use (f - 1) : Int) := Int.mul_le_mul_of_nonneg_right (by omega) (by omega);have hnames := aLg (A i).2.2 (A i).2.1 hlA hfA;have hnS := jB (A i).2.1;have ihA := ih hf0 (aY (A i).2.1).2 (A i).2.2 (hlA.suf hnS) (hfA.suf hnS) (by omega) (by omega);have hi3 : i = 0 ∨ i = 1 ∨ i = 2 := by omega
              rcases hi3 with rfl | rfl | rfl
              ·-- 0
               have he : A (0 + 1) = ((A 0).1 ++ [.mk 1 0 (oneOf aK8 (n / 14 + ((0 : Nat) : Int))) (aY (A 0).2.1).1 (gOf f (aY (A 0).2.1).2 (A 0).2.2).1], (gOf f (aY (A 0).2.1).2 (A 0).2.2).2) := by
                rw [← hAd, cE];rfl
               refine a8 (aB (a8 (aE mixed ?_)));refine ak 4 [] rfl ?_;refine kc (aOu (n / 14 + ((0 : Nat) : Int)) (by unfold i64; omega)) ?_;refine ak 1 [] rfl ?_;refine kc hnames ?_;refine ak 3 [] rfl ?_;refine az ?_;refine a8 (a8 (ag [] rfl ?_));refine aA rfl (fun hb => by simp at hb) (fun _ => ?_);refine aD ?_;refine a8 (a8 (ag [] rfl ?_));refine aA rfl (fun hb => by simp at hb) (fun _ => ?_);refine aD ?_;refine a8 (aE mixed ?_);refine ak 3 [] rfl ?_;refine kc ihA ?_;refine ak 2 [] rfl ?_;refine az ?_;refine ag [] rfl ?_;refine ag [] rfl ?_;refine ⟨0 + 1, by omega, by dsimp only; omega, ?_⟩;dsimp only;rw [he];exact .list (fun i => i) ⟨rfl, rfl, rfl, rfl, rfl, rfl, trivial⟩ ⟨⟨_, rfl, .var rfl⟩, ⟨_, rfl, .var (by simp [R.renL, R.ren, bH])⟩, ⟨_, rfl, .arr⟩, ⟨_, rfl, by rw [bH ((A 0).1 ++ _), map_append, ← bH]; exact .arr⟩, ⟨_, rfl, .var rfl⟩, trivial⟩ rfl
              ·-- 1
               have he : A (1 + 1) = ((A 1).1 ++ [.mk 2 (n / 14) [] [] (gOf f (aY (A 1).2.1).2 (A 1).2.2).1], (gOf f (aY (A 1).2.1).2 (A 1).2.2).2) := by
                rw [← hAd, cE];rfl
               refine a8 (aB (a8 (aE mixed ?_)));refine ak 4 [] rfl ?_;refine kc (aOu (n / 14 + ((1 : Nat) : Int)) (by unfold i64; omega)) ?_;refine ak 1 [] rfl ?_;refine kc hnames ?_;refine ak 3 [] rfl ?_;refine az ?_;refine a8 (a8 (ag [] rfl ?_));refine aA rfl (fun _ => ?_) (fun hb => by simp at hb);refine ag [] rfl ?_;refine a8 (a8 (ag [] rfl ?_));refine aA rfl (fun hb => by simp at hb) (fun _ => ?_);refine aD ?_;refine a8 (aE mixed ?_);refine ak 3 [] rfl ?_;refine kc ihA ?_;refine ak 2 [] rfl ?_;refine az ?_;refine ag [] rfl ?_;refine ag [] rfl ?_;refine ⟨1 + 1, by omega, by dsimp only; omega, ?_⟩;dsimp only;rw [he];exact .list (fun i => i) ⟨rfl, rfl, rfl, rfl, rfl, rfl, trivial⟩ ⟨⟨_, rfl, .var rfl⟩, ⟨_, rfl, .var (by simp [R.renL, R.ren, bH])⟩, ⟨_, rfl, .arr⟩, ⟨_, rfl, by rw [bH ((A 1).1 ++ _), map_append, ← bH]; exact .arr⟩, ⟨_, rfl, .var rfl⟩, trivial⟩ rfl
              ·-- 2
               have he : A (2 + 1) = ((A 2).1 ++ [.mk 3 0 [] [] (gOf f (aY (A 2).2.1).2 (A 2).2.2).1], (gOf f (aY (A 2).2.1).2 (A 2).2.2).2) := by
                rw [← hAd, cE];rfl
               refine a8 (aB (a8 (aE mixed ?_)));refine ak 4 [] rfl ?_;refine kc (aOu (n / 14 + ((2 : Nat) : Int)) (by unfold i64; omega)) ?_;refine ak 1 [] rfl ?_;refine kc hnames ?_;refine ak 3 [] rfl ?_;refine az ?_;refine a8 (a8 (ag [] rfl ?_));refine aA rfl (fun hb => by simp at hb) (fun _ => ?_);refine aD ?_;refine a8 (a8 (ag [] rfl ?_));refine aA rfl (fun _ => ?_) (fun hb => by simp at hb);refine ag [] rfl ?_;refine a8 (aE mixed ?_);refine ak 3 [] rfl ?_;refine kc ihA ?_;refine ak 2 [] rfl ?_;refine az ?_;refine ag [] rfl ?_;refine ag [] rfl ?_;refine ⟨2 + 1, by omega, by dsimp only; omega, ?_⟩;dsimp only;rw [he];exact .list (fun i => i) ⟨rfl, rfl, rfl, rfl, rfl, rfl, trivial⟩ ⟨⟨_, rfl, .var rfl⟩, ⟨_, rfl, .var (by simp [R.renL, R.ren, bH])⟩, ⟨_, rfl, .arr⟩, ⟨_, rfl, by rw [bH ((A 2).1 ++ _), map_append, ← bH]; exact .arr⟩, ⟨_, rfl, .var rfl⟩, trivial⟩ rfl
             ·have hie : (n / 14 % 4).toNat = i := by
               have : ¬ (i : Int) < n / 14 % 4 := by simpa using hb
               omega
              rw [hie];have hE : c9 (A i).1 = ((c9 (A i).1).drop 0).take (A i).1.length := by rw [drop_zero, hsz, take_length]
              refine aM (a8 (ag [] rfl ?_));refine AWp.sub (Sub.freeze (id := 900) rfl) (aI ?_);exact ⟨.inr rfl, ⟨_, _, .cell rfl (tg rfl) rfl rfl rfl .nil, .cons (by (first | apply Go.AM.Conv.pa | apply Go.AM.Conv.agg); repeat (first | exact .nil | apply Go.AM.PureL.c .refl | apply Go.AM.PureL.c .nl | (apply Go.AM.PureL.hs; rfl; (first | rfl | assumption | simp); (first | exact hE | rfl)))) .nil, rfl⟩, ⟨⟨_, rfl, .var rfl⟩, trivial⟩, rfl⟩
            ·have h11 : ¬ k = 11 := by simpa using hb11
             refine a8 (ag [] rfl ?_);refine aA rfl (fun hb12 => ?_) (fun hb12 => ?_)
             ·have h12 : k = 12 := by simpa using hb12
              obtain ⟨hf0, hl0⟩ := hkf (by omega);have ho := hg hf0;have hu : use f = 1 + 4 * use (f - 1) := by cases f with | zero => omega | succ f => rfl
              have g1 := ho.suf l1 (left - 1);have g2 := ho.le l1 (left - 1);have g3 := ho.ge l1 (left - 1);have ih1 := ih hf0 l1 (left - 1) hl1 hf1 (by omega) (by omega);have ih2 := ih hf0 (gOf f l1 (left - 1)).2.1 (gOf f l1 (left - 1)).2.2 (hl1.suf g1) (hf1.suf g1) (by omega) (by omega);have hr : dY (gOf f) n k l1 (left - 1) = (.mk 10 0 (oneOf r6 (n / 14)) zTy [(gOf f l1 (left - 1)).1, (gOf f (gOf f l1 (left - 1)).2.1 (gOf f l1 (left - 1)).2.2).1] [] [], (gOf f (gOf f l1 (left - 1)).2.1 (gOf f l1 (left - 1)).2.2).2) := by
               unfold dY;rw [if_neg c1, if_neg h2, if_neg h3, if_neg c2, if_neg c3, if_neg h8, if_neg h9, if_neg h10, if_neg h11, if_pos h12]
              rw [hr];refine a8 (aE mixed ?_);refine ak 3 [] rfl ?_;refine kc ih1 ?_;refine ak 2 [] rfl ?_;refine az ?_;refine a8 (aE mixed ?_);refine ak 2 [] rfl ?_;refine kc (aWq (n / 14) (by unfold i64; omega)) ?_;refine ak 4 [] rfl ?_;refine kc ih2 ?_;refine ak 3 [] rfl ?_;refine az ?_;refine AWp.sub (Sub.freeze (id := 206) rfl) (aI (rtC trw))
             ·have h12 : ¬ k = 12 := by simpa using hb12
              have hty := aGu (left - 1) 2 l1 1 hl1 hf1 (by omega) (by omega);have hr : dY (gOf f) n k l1 (left - 1) = (.mk 11 0 [] (cD 2 l1).1 [] [] [], (cD 2 l1).2, left - 1) := by
               unfold dY;rw [if_neg c1, if_neg h2, if_neg h3, if_neg c2, if_neg c3, if_neg h8, if_neg h9, if_neg h10, if_neg h11, if_neg h12]
              rw [hr];refine aD (a8 (aE mixed ?_));refine ak 1 [] rfl ?_;refine kc hty ?_;refine ak 2 [] rfl ?_;refine az ?_;exact aI (rtC trw)
theorem aQw : ∀ f : Nat, f ≤ 6 → aMl (nV f) (6 - (f : Int)) (use f)
 | 0, _ => rW 0 _ (by omega) (by omega) (fun h => by omega) (fun h => by omega)
 | f + 1, hf => by
  refine rW (f + 1) _ (by omega) (by omega) (fun _ => ?_) (fun _ => aE3 f);have := aQw f (by omega);rwa [show (6 : Int) - ((f + 1 : Nat) : Int) + 1 = 6 - (f : Int) by omega]
theorem aQv (l : List Int) (k : Nat) (hf : Fits l) (hk : k ≤ 1000) : aU Tryz.prog 20 [.one (.c (.sl 1 (l.map aGr))), I .i64 k] [] (.one (.c (.sl 1 ((l.take k).map aGr)))) [] := by
 unfold Fits at hf;refine bT (n := 14) tok Tryz.func20 rfl rfl rfl ?_;refine a8 (ag [] rfl ?_);refine a8 (ag [] rfl ?_);refine a8 (aE mixed ?_);refine ak 6 [] rfl ?_;have hm : (if (k : Int) < (((l.map aGr).length : Nat) : Int) then (k : Int) else (((l.map aGr).length : Nat) : Int)) = ((min l.length k : Nat) : Int) := by
  rw [length_map];split <;> omega
 rw [hm];have ht : (l.map aGr).take (min l.length k) = (l.take k).map aGr := by
  rw [← List.map_take];congr 1;by_cases h : k ≤ l.length
  ·rw [Nat.min_eq_right h]
  ·rw [min_eq_left (by omega), take_of_length_le (le_refl _), take_of_length_le (by omega)]
 have hl : ((l.map aGr).take (min l.length k)).length ≤ 1000 := by rw [length_take]; omega
 refine akN 3 [] rfl ?_ (hc := ⟨by omega, by rw [length_map]; omega, by omega, trivial⟩);refine az ?_;refine AWp.sub (Sub.freeze (id := 13) rfl) (aI ?_);rw [← ht];exact ⟨.inr rfl, ⟨_, _, .tmp rfl .nil, .cons (.one (.hs rfl rfl (by rw [drop_zero, take_length]) .nil)) .nil, rfl⟩, trivial, rfl⟩
def lW (l : List Int) : Core := (nV 6 (l.take 60) 30).1
theorem aQu (l : List Int) (hl : aAj l) (hf : Fits l) : aU Tryz.prog 9 [.one (.c (.sl 1 (l.map aGr)))] [] (.pa (aC (lW l))) [] := by
 have hl' : aAj (l.take 60) := fun x hx => hl x (mem_of_mem_take hx)
 have hf' : Fits (l.take 60) := by
  unfold Fits at *;rw [length_take];omega
 have hc := aQw 6 (by omega) (l.take 60) 30 hl' hf' (by decide) (by decide);refine bT (n := 10) tok Tryz.func9 rfl rfl rfl ?_;refine a8 (ag [] rfl ?_);refine a8 (aE mixed ?_);refine ak 1 [] rfl ?_;refine kc (aQv l 60 hf (by omega)) ?_;refine ak 3 [(3, .id 700)] rfl ?_;refine az ?_;refine a8 (aE mixed ?_);refine ak 1 [] rfl ?_;refine kc hc ?_;refine ak 1 [] rfl ?_;refine az ?_;refine aI ?_;exact ⟨.inr rfl, ⟨_, _, .cell rfl (tg rfl) rfl rfl rfl .nil, .cons .refl .nil, rfl⟩, trivial, rfl⟩
def aT3 : Core := .mk 0 0 [] zTy [] [] []
mutual
def b6 : Core → Nat
 | .mk _ _ s _ ks bs al => 1 + s.length + bJ ks + cB bs + bZ al
def bJ : List Core → Nat
 | [] => 0
 | c :: l => b6 c + bJ l
def bsize : Bind → Nat
 | .mk s _ c => 1 + s.length + b6 c
def cB : List Bind → Nat
 | [] => 0
 | b :: l => bsize b + cB l
def lZ : Alt → Nat
 | .mk _ _ s vs c => 1 + s.length + (vs.map (fun v => 1 + v.length)).sum + b6 c
def bZ : List Alt → Nat
 | [] => 0
 | a :: l => lZ a + bZ l
end
theorem eZ (c : Core) : 1 ≤ b6 c := by cases c; rw [b6]; omega
theorem lO : ∀ l : List Core, l.length ≤ bJ l
 | [] => zero_le _
 | c :: l => by rw [bJ, length_cons]; have := lO l; have := eZ c; omega
theorem lM : ∀ {l : List Core} {c : Core}, c ∈ l → b6 c ≤ bJ l
 | d :: l, c, h => by
  rw [bJ];rcases mem_cons.1 h with rfl | h
  ·omega
  ·have := lM h; omega
theorem lR : ∀ l : List Bind, l.length ≤ cB l
 | [] => zero_le _
 | .mk s t c :: l => by rw [cB, bsize, length_cons]; have := lR l; omega
theorem uG : ∀ {l : List Bind} {c : Bind}, c ∈ l → bsize c ≤ cB l
 | d :: l, c, h => by
  rw [cB];rcases mem_cons.1 h with rfl | h
  ·omega
  ·have := uG h; omega
theorem lS : ∀ l : List Alt, l.length ≤ bZ l
 | [] => zero_le _
 | .mk f n s vs c :: l => by rw [bZ, lZ, length_cons]; have := lS l; omega
theorem fR : ∀ {l : List Alt} {c : Alt}, c ∈ l → lZ c ≤ bZ l
 | d :: l, c, h => by
  rw [bZ];rcases mem_cons.1 h with rfl | h
  ·omega
  ·have := fR h; omega
theorem dC {l : List Bind} {k : Nat} {x : Bind} (h : l[k]? = some x) : (aR l)[k]? = some (bA x) := by rw [bO]; exact bQ bA h
theorem iP {l : List Core} {k : Nat} {x : Core} (h : l[k]? = some x) : (aQ l)[k]? = some (aC x) := by rw [bC]; exact bQ aC h
theorem oM {l : List Alt} {k : Nat} {x : Alt} (h : l[k]? = some x) : (c9 l)[k]? = some (dQ x) := by rw [bH]; exact bQ dQ h
theorem fG {α : Type} {l : List α} {k : Nat} {x : α} (h : l[k]? = some x) : l.take (k + 1) = l.take k ++ [x] := by rw [take_add_one, h]; rfl
def bS : List R := [.c (.int .i64 0), .c (.int .i64 0), .c (.str []), .c (.int .i64 0), .c (.int .i64 0), .c (.str []), .c .nl, .c .nl, .c .nl, .c .nl]
def bB (c : Core) : List R := (aC c).map R.c
theorem kA {f n : Int} {s : Str} {t : Ty} {ks : List Core} {bs : List Bind} {al : List Alt} : (∀ x ∈ ks, b6 x < b6 (.mk f n s t ks bs al)) ∧ (∀ x ∈ bs, b6 x.body < b6 (.mk f n s t ks bs al)) ∧ (∀ x ∈ al, b6 x.body < b6 (.mk f n s t ks bs al)) ∧
  ks.length < b6 (.mk f n s t ks bs al) ∧ bs.length < b6 (.mk f n s t ks bs al) ∧ al.length < b6 (.mk f n s t ks bs al) := by
 rw [b6];have hkl := lO ks;have hbl := lR bs;have hal := lS al;refine ⟨fun x hx => ?_, fun x hx => ?_, fun x hx => ?_, by omega, by omega, by omega⟩
 ·have := lM hx; omega
 ·have := uG hx;obtain ⟨s', t', c'⟩ := x;rw [bsize] at this;show b6 c' < _;omega
 ·have := fR hx;obtain ⟨f', n', s', v', c'⟩ := x;rw [lZ] at this;show b6 c' < _;omega
theorem qQ {α β : Type} (f : α → β) {l : List α} {i : Nat} {x : α} (h : l[i]? = some x) : (l.take i).map f ++ [f x] = (l.take (i + 1)).map f := by rw [fG h, map_append]; rfl
mutual
def lY : Core → Nat
 | .mk f _ _ _ ks bs al => (if f = 5 then 1 else 0) + iY ks + eY bs + eG al
def iY : List Core → Nat
 | [] => 0
 | c :: l => lY c + iY l
def eY : List Bind → Nat
 | [] => 0
 | .mk _ _ c :: l => lY c + eY l
def eG : List Alt → Nat
 | [] => 0
 | .mk _ _ _ _ c :: l => lY c + eG l
end
def nmB (s : Str) : Bool := decide (s ∈ nmL)
mutual
def y4 : Core → Bool
 | .mk f _ s _ ks bs al => (if f = 5 then nmB s && (!ks.isEmpty && bs.isEmpty) else if f = 6 ∨ f = 7 then !ks.isEmpty else if f = 1 then nmB s && (ks.isEmpty && (bs.isEmpty && al.isEmpty)) else true) && (n9 ks && (iG bs && gD al))
def n9 : List Core → Bool
 | [] => true
 | c :: l => y4 c && n9 l
def iG : List Bind → Bool
 | [] => true
 | .mk s _ c :: l => (nmB s && y4 c) && iG l
def gD : List Alt → Bool
 | [] => true
 | .mk _ _ _ v c :: l => (v.all nmB && y4 c) && gD l
end
theorem aJi : ∀ s ∈ nmL, s.length ≤ 3 := by decide
theorem fL {l : List Str} {n : Int} (hl : 0 < l.length) : oneOf l n ∈ l := by
 obtain ⟨k, hk⟩ := Int.eq_ofNat_of_zero_le (dU n (k := l.length) (by omega)).1;have hlt := (dU n (k := l.length) (by omega)).2
 have h1 : k < l.length := by omega
 have : oneOf l n = l[k] := by
  unfold oneOf;rw [hk];simp [h1]
 rw [this];exact List.getElem_mem h1
theorem aR5 (n : Int) : oneOf nmL n ∈ nmL := fL (by decide)
theorem aK7 (n : Int) : (oneOf aK8 n).length ≤ 4 := (by decide : ∀ s ∈ aK8, s.length ≤ 4) _ (fL (by decide))
theorem aNm (n : Int) : (oneOf r6 n).length ≤ 4 := (by decide : ∀ s ∈ r6, s.length ≤ 4) _ (fL (by decide))
theorem aRg (n : Int) : (oneOf l9 n).length ≤ 4 := (by decide : ∀ s ∈ l9, s.length ≤ 4) _ (fL (by decide))
theorem aVi (n : Int) : nmB (oneOf nmL n) = true := decide_eq_true (aR5 n)
theorem lE (n : Int) : ∀ i : Nat, ∀ s ∈ dX n i, s ∈ nmL
 | 0, s, h => by simp [dX] at h
 | i + 1, s, h => by
  rw [dX, aTl] at h;split at h
  ·exact lE n i s h
  ·rcases mem_append.1 h with h | h
   ·exact lE n i s h
   ·rw [mem_singleton.1 h]; exact aR5 _
theorem aHe : ∀ l : List Str, (∀ s ∈ l, s ∈ nmL) → (l.map fun v => 1 + v.length).sum ≤ 4 * l.length
 | [], _ => by simp
 | s :: l, h => by
  have h1 := aHe l fun x hx => h x (mem_cons_of_mem _ hx)
  have h2 := aJi s (h s mem_cons_self);rw [map_cons, sum_cons, length_cons];omega
def lf (left : Int) : Nat := (left - 1).toNat
structure MkG (c : Core) (left left' : Int) : Prop where
 raw : y4 c = true
 lams : lY c + lf left' ≤ lf left
 size : b6 c + 100 * lf left' ≤ 100 * lf left + 7
def aXb (g : List Int → Int → Mk) : Prop := ∀ l left, MkG (g l left).1 left (g l left).2.2
theorem y5 : ∀ a b, iG (a ++ b) = (iG a && iG b)
 | [], b => by rw [nil_append, iG, Bool.true_and]
 | .mk s t c :: a, b => by rw [cons_append, iG, iG, y5 a b]; simp only [Bool.and_assoc]
theorem y6 : ∀ a b, gD (a ++ b) = (gD a && gD b)
 | [], b => by rw [nil_append, gD, Bool.true_and]
 | .mk f n s v c :: a, b => by rw [cons_append, gD, gD, y6 a b]; simp only [Bool.and_assoc]
theorem uI : ∀ a b, cB (a ++ b) = cB a + cB b
 | [], b => by rw [nil_append, cB, zero_add]
 | x :: a, b => by rw [cons_append, cB, cB, uI a b, add_assoc]
theorem uN : ∀ a b, bZ (a ++ b) = bZ a + bZ b
 | [], b => by rw [nil_append, bZ, zero_add]
 | x :: a, b => by rw [cons_append, bZ, bZ, uN a b, add_assoc]
theorem u4 : ∀ a b, eY (a ++ b) = eY a + eY b
 | [], b => by rw [nil_append, eY, zero_add]
 | .mk s t c :: a, b => by rw [cons_append, eY, eY, u4 a b, add_assoc]
theorem u5 : ∀ a b, eG (a ++ b) = eG a + eG b
 | [], b => by rw [nil_append, eG, zero_add]
 | .mk f n s v c :: a, b => by rw [cons_append, eG, eG, u5 a b, add_assoc]
theorem zO {g : List Int → Int → Mk} (h : aXb g) (ns : List Str) (hns : ∀ s ∈ ns, s ∈ nmL) (l : List Int) (left : Int) : ∀ i : Nat, i ≤ ns.length → iG (bL g ns l left i).1 = true ∧ eY (bL g ns l left i).1 + lf (bL g ns l left i).2.2 ≤ lf left ∧ cB (bL g ns l left i).1 + 100 * lf (bL g ns l left i).2.2 ≤ 100 * lf left + 11 * i
 | 0, _ => by simp [bL, iG, eY, cB]
 | i + 1, hi => by
  obtain ⟨h1, h2, h3⟩ := zO h ns hns l left i (by omega);obtain ⟨k1, k2, k3⟩ := h (cD 2 (bL g ns l left i).2.1).2 (bL g ns l left i).2.2;have hs : (ns[i]?.getD []) ∈ nmL := by
   obtain ⟨s, hs⟩ := aK (l := ns) (by omega : i < ns.length);rw [hs]; exact hns s (List.mem_of_getElem? hs)
  have hsl := aJi _ hs;have hsb : nmB (ns[i]?.getD []) = true := decide_eq_true hs;simp only [bL];rw [y5, u4, uI, iG, iG, eY, eY, cB, cB, bsize, h1, k1, hsb];refine ⟨rfl, by omega, by omega⟩
theorem aFm {g : List Int → Int → Mk} (h : aXb g) (n : Int) (l : List Int) (left : Int) : ∀ i : Nat, gD (cE g n l left i).1 = true ∧ eG (cE g n l left i).1 + lf (cE g n l left i).2.2 ≤ lf left ∧ bZ (cE g n l left i).1 + 100 * lf (cE g n l left i).2.2 ≤ 100 * lf left + 24 * i
 | 0 => by simp [cE, gD, eG, bZ]
 | i + 1 => by
  obtain ⟨h1, h2, h3⟩ := aFm h n l left i;obtain ⟨k1, k2, k3⟩ := h (aY (cE g n l left i).2.1).2 (cE g n l left i).2.2;have hni : ∀ s ∈ (aY (cE g n l left i).2.1).1, s ∈ nmL := lE _ _;have hnl := iC (cE g n l left i).2.1;have hvs := aHe _ hni;have hva : (aY (cE g n l left i).2.1).1.all nmB = true := all_eq_true.2 fun s hs => decide_eq_true (hni s hs)
  have hcl := aK7 (n / 14 + i);simp only [cE];rw [y6, u5, uN, h1];split
  ·rw [gD, gD, eG, eG, bZ, bZ, lZ, k1];refine ⟨rfl, by omega, ?_⟩;simp only [length_nil, map_nil, sum_nil];omega
  ·split
   ·rw [gD, gD, eG, eG, bZ, bZ, lZ, k1];refine ⟨rfl, by omega, ?_⟩;simp only [length_nil, map_nil, sum_nil];omega
   ·rw [gD, gD, eG, eG, bZ, bZ, lZ, k1, hva];exact ⟨rfl, by omega, by omega⟩
theorem aK5 {g : List Int → Int → Mk} (h : aXb g) (n k : Int) (l : List Int) (left : Int) (hk : 4 ≤ k → 1 ≤ left) : MkG (dY g n k l left).1 (left + 1) (dY g n k l left).2.2 := by
 have hlf : lf left ≤ lf (left + 1) := by unfold lf; omega
 have hlk : 4 ≤ k → lf left + 1 = lf (left + 1) := fun h => by have := hk h; unfold lf; omega
 have n1 := aJi _ (aR5 (n / 14));have n2 := aK7 (n / 14);have n3 := aNm (n / 14);have n4 := aRg (n / 14);have nb := aVi (n / 14);obtain ⟨g1, g2, g3⟩ := h l left;obtain ⟨h1, h2, h3⟩ := h (g l left).2.1 (g l left).2.2;obtain ⟨u1, u2, u3⟩ := h (cD 2 l).2 left;unfold dY;split
 ·refine ⟨by simp [y4, n9, iG, gD, nb], ?_, ?_⟩ <;> simp only [lY, iY, eY, eG, b6, bJ, cB, bZ] <;> simp <;> omega
 split
 ·refine ⟨by simp [y4, n9, iG, gD], ?_, ?_⟩ <;> simp only [lY, iY, eY, eG, b6, bJ, cB, bZ] <;> simp <;> omega
 split
 ·refine ⟨by simp [y4, n9, iG, gD], ?_, ?_⟩ <;> simp only [lY, iY, eY, eG, b6, bJ, cB, bZ] <;> simp <;> omega
 have hl := hlk (by omega);split
 ·refine ⟨by simp [y4, n9, iG, gD, g1, h1], ?_, ?_⟩ <;> simp only [lY, iY, eY, eG, b6, bJ, cB, bZ] <;> simp <;> omega
 split
 ·refine ⟨by simp [y4, n9, iG, gD, u1, nb], ?_, ?_⟩ <;> simp only [lY, iY, eY, eG, b6, bJ, cB, bZ] <;> simp <;> omega
 split
 ·refine ⟨by simp [y4, n9, iG, gD, u1], ?_, ?_⟩ <;> simp only [lY, iY, eY, eG, b6, bJ, cB, bZ] <;> simp <;> omega
 split
 ·refine ⟨by simp [y4, n9, iG, gD, g1], ?_, ?_⟩ <;> simp only [lY, iY, eY, eG, b6, bJ, cB, bZ] <;> simp <;> omega
 split
 ·have hnl := iC l;obtain ⟨b1, b2, b3⟩ := zO h (aY l).1 (lE _ _) (aY l).2 left (aY l).1.length (le_refl _);generalize bL g (aY l).1 (aY l).2 left (aY l).1.length = r at b1 b2 b3 ⊢;obtain ⟨c1, c2, c3⟩ := h r.2.1 r.2.2;refine ⟨by simp [y4, n9, gD, c1, b1], ?_, ?_⟩ <;> simp only [lY, iY, eG, b6, bJ, bZ] <;> simp <;> omega
 split
 ·obtain ⟨b1, b2, b3⟩ := aFm h n (g (cD 2 l).2 left).2.1 (g (cD 2 l).2 left).2.2 (n / 14 % 4).toNat;have hi : (n / 14 % 4).toNat ≤ 3 := by omega
  dsimp only;generalize cE g n (g (cD 2 l).2 left).2.1 (g (cD 2 l).2 left).2.2 (n / 14 % 4).toNat = r at b1 b2 b3 ⊢;refine ⟨by simp [y4, n9, iG, u1, b1], ?_, ?_⟩ <;> simp only [lY, iY, eY, b6, bJ, cB] <;> simp <;> omega
 split
 ·refine ⟨by simp [y4, n9, iG, gD, g1, h1], ?_, ?_⟩ <;> simp only [lY, iY, eY, eG, b6, bJ, cB, bZ] <;> simp <;> omega
 ·refine ⟨by simp [y4, n9, iG, gD], ?_, ?_⟩ <;> simp only [lY, iY, eY, eG, b6, bJ, cB, bZ] <;> simp <;> omega
theorem aK2 : ∀ f : Nat, aXb (nV f)
 | 0 => fun l left => by
  have h : aXb (fun l left => ((.mk 0 0 [] zTy [] [] [], l, left) : Mk)) := fun l left => ⟨by simp [y4, n9, iG, gD], by simp [lY, iY, eY, eG], by simp [b6, bJ, cB, bZ]; omega⟩
  have := aK5 h (aT l).1 ((aT l).1 % 4) (aT l).2 (left - 1) (fun h => by omega);rw [Int.sub_add_cancel] at this;exact this
 | f + 1 => fun l left => by
  have := aK5 (aK2 f) (aT l).1 (if left - 1 < 1 then (aT l).1 % 4 else (aT l).1 % 14) (aT l).2 (left - 1) (fun h => by
   split at h
   ·omega
   ·omega)
  rw [Int.sub_add_cancel] at this;exact this
theorem aEe (l : List Int) : y4 (lW l) = true ∧ b6 (lW l) ≤ 3000 := by
 obtain ⟨h1, h2, h3⟩ := aK2 6 (l.take 60) 30;have : lf 30 = 29 := rfl;rw [this] at h2 h3;unfold lW;exact ⟨h1, by omega⟩
end Go.Proofs.YtmoekkcdkjopgaaGreatDoor
namespace Go.AM
open Go Go.Proofs Go.Shelf
theorem aFi {ro : Option Nat} {P : Program} {n : Nat} {kf : List Nat} {c : Code} {st : St} {Q : Exit → St → Prop} (t : Nat) {es : Nat} {l : List (List C)} (h : st.e t = some (.one (.c (.sl es l)))) (h1 : l = [] → AWp ro P n kf c ⟨upd st.e t (some (.one (.c .nl))), st.h, st.d⟩ Q)
  (h2 : AWp ro P n kf c ⟨upd st.e t (some (.one (.c (.sn es l)))), st.h, st.d⟩ Q) : AWp ro P n kf c st Q := by
 intro G S μ a w Q' hg hs hQ;have hv := hs.env t _ h
 have key : ∀ x : V, aW S μ st.h x (a.tmps.getD t undef) → Sim G n S μ ⟨upd st.e t (some x), st.h, st.d⟩ a w := fun x hx => ⟨hs.inv, hs.size, hs.defers, fun s u e => by
  by_cases hst : s = t
  ·subst hst;have : some x = some u := by rw [← e]; exact (aJ _ _ _).symm
   cases this;exact hx
  ·exact hs.env s u (by rw [← e]; exact (b7 _ _ _ hst).symm)⟩
 simp only [aW, b9, Rep] at hv;obtain ⟨ad, len, cap, e1, e2, e3, e4, e5, e6, b, o, e7, e8⟩ := hv;cases ad with
 | none =>
  obtain ⟨e9, e10⟩ := e5 rfl;have hl : l = [] := eq_nil_of_length_eq_zero (by omega);exact h1 hl G S μ a w Q' hg (key _ (by simp only [aW, b9, Rep]; rw [e1, e9, e10])) hQ
 | some ad =>
  obtain ⟨b', o', sp⟩ := ad;have h6 := e6 _ rfl;obtain ⟨h7, h8⟩ := e7 _ rfl;dsimp only at h6 h7 h8;subst h7 h8;exact h2 G S μ a w Q' hg (key _ (by simp only [aW, b9, Rep]; exact ⟨b', o', sp, len, cap, e1, e2, e3, e4, h6, e8⟩)) hQ
end Go.AM
namespace Go.AM
open Go
def AObj.ren (σ : Nat → Nat) : AObj → AObj
 | .var t cells => .var t (R.renL σ cells)
 | .lp st j i e => .lp st j i (aG6 σ e)
 | .rarr te es l => .rarr te es (lV σ l)
 | o => o
def renH (σ : Nat → Nat) (hl : List (Nat × AObj)) : List (Nat × AObj) := hl.map fun p => (σ p.1, p.2.ren σ)
section
mutual
theorem R.ren_ren {σ : Nat → Nat} (hσ : ∀ i, σ (σ i) = i) : ∀ r : R, (r.ren σ).ren σ = r
 | .c _ => rfl
 | .hs .. => by simp [R.ren, hσ]
 | .tl .. => by simp [R.ren, hσ]
 | .vp .. => by simp [R.ren, hσ]
 | .ep .. => by simp [R.ren, hσ]
 | .mr _ => by simp [R.ren, hσ]
 | .clo f caps => by simp [R.ren, R.renL_renL hσ caps]
 | .mth f r => by simp [R.ren, R.ren_ren hσ r]
 | .yl _ => by simp [R.ren, hσ]
 | .ra .. => by simp [R.ren, hσ]
 | .rp .. => by simp [R.ren, hσ]
 | .ras n es l => by simp [R.ren, R.renL_renL hσ l]
 | .pas l => by simp [R.ren, R.renL_renL hσ l]
theorem R.renL_renL {σ : Nat → Nat} (hσ : ∀ i, σ (σ i) = i) : ∀ l : List R, R.renL σ (R.renL σ l) = l
 | [] => rfl
 | r :: l => by simp [R.renL, R.ren_ren hσ r, R.renL_renL hσ l]
end
mutual
theorem V.ren_ren {σ : Nat → Nat} (hσ : ∀ i, σ (σ i) = i) : ∀ r : V, (r.ren σ).ren σ = r
 | .one r => by simp [V.ren, R.ren_ren hσ r]
 | .pa _ => rfl
 | .ma l => by simp [V.ren, R.renL_renL hσ l]
 | .tup l => by simp [V.ren, V.renL_renL hσ l]
theorem V.renL_renL {σ : Nat → Nat} (hσ : ∀ i, σ (σ i) = i) : ∀ l : List V, V.renL σ (V.renL σ l) = l
 | [] => rfl
 | r :: l => by simp [V.renL, V.ren_ren hσ r, V.renL_renL hσ l]
end
variable {σ : Nat → Nat} (hσ : ∀ i, σ (σ i) = i)
include hσ
theorem xY : ∀ l : List (Nat × V), aG6 σ (aG6 σ l) = l
 | [] => rfl
 | (t, v) :: l => by simp [aG6, V.ren_ren hσ v, xY l]
theorem xW : ∀ l : List (List R), lV σ (lV σ l) = l
 | [] => rfl
 | r :: l => by simp [lV, R.renL_renL hσ r, xW l]
theorem Ole.to_ren (o : AObj) : Ole σ o (o.ren σ) := by
 cases o with
 | var t cells => exact .var (R.renL_renL hσ cells).symm
 | lp st j i e => exact .lp (xY hσ e).symm
 | rarr te es l => exact .rarr (xW hσ l).symm
 | arr => exact .arr
 | map => exact .map
 | dead => exact .dead
 | dfr => exact .dfr
end
theorem Ole.of_ren {σ : Nat → Nat} (o : AObj) : Ole σ (o.ren σ) o := by
 cases o with
 | var t cells => exact .var rfl
 | lp st j i e => exact .lp rfl
 | rarr te es l => exact .rarr rfl
 | arr => exact .arr
 | map => exact .map
 | dead => exact .dead
 | dfr => exact .dfr
mutual
theorem R.refs_ren {σ : Nat → Nat} : ∀ r : R, (r.ren σ).refs = r.refs.map σ
 | .c _ => rfl
 | .hs .. => rfl
 | .tl .. => rfl
 | .vp .. => rfl
 | .ep .. => rfl
 | .mr _ => rfl
 | .clo f caps => by simp [R.ren, R.refs, R.refsL_ren caps]
 | .mth f r => by simp [R.ren, R.refs, R.refs_ren r]
 | .yl _ => rfl
 | .ra .. => rfl
 | .rp .. => rfl
 | .ras n es l => by simp [R.ren, R.refs, R.refsL_ren l]
 | .pas l => by simp [R.ren, R.refs, R.refsL_ren l]
theorem R.refsL_ren {σ : Nat → Nat} : ∀ l : List R, R.refsL (R.renL σ l) = (R.refsL l).map σ
 | [] => rfl
 | r :: l => by simp [R.renL, R.refsL, R.refs_ren r, R.refsL_ren l]
end
mutual
theorem V.refs_ren {σ : Nat → Nat} : ∀ r : V, (r.ren σ).refs = r.refs.map σ
 | .one r => by simp [V.ren, V.refs, R.refs_ren r]
 | .pa _ => rfl
 | .ma l => by simp [V.ren, V.refs, R.refsL_ren l]
 | .tup l => by simp [V.ren, V.refs, V.refsL_ren l]
theorem V.refsL_ren {σ : Nat → Nat} : ∀ l : List V, V.refsL (V.renL σ l) = (V.refsL l).map σ
 | [] => rfl
 | r :: l => by simp [V.renL, V.refsL, V.refs_ren r, V.refsL_ren l]
end
theorem y3 {σ : Nat → Nat} : ∀ l : List (Nat × V), n8 (aG6 σ l) = (n8 l).map σ
 | [] => rfl
 | (t, v) :: l => by simp [aG6, n8, V.refs_ren v, y3 l]
theorem y1 {σ : Nat → Nat} : ∀ l : List (List R), c8 (lV σ l) = (c8 l).map σ
 | [] => rfl
 | r :: l => by simp [lV, c8, R.refsL_ren r, y1 l]
theorem AObj.refs_ren {σ : Nat → Nat} (o : AObj) : (o.ren σ).refs = o.refs.map σ := by
 cases o with
 | var t cells => exact R.refsL_ren cells
 | lp st j i e => exact y3 e
 | rarr te es l => exact y1 l
 | _ => rfl
structure RenH (σ : Nat → Nat) (H H' : cK) : Prop where
 to : ∀ i o, H (σ i) = some o → ∃ o', H' i = some o' ∧ Ole σ o o'
 of : ∀ i o', H' i = some o' → ∃ o, H (σ i) = some o ∧ Ole σ o o'
 cl : ∀ i o', H' i = some o' → ∀ j ∈ o'.refs, ∃ x, H' j = some x
theorem RenH.good {σ : Nat → Nat} {H H' : cK} (h : RenH σ H H') {i : Nat} (hi : ∃ x, H' i = some x) : Good H H' σ i := by
 obtain ⟨x, hx⟩ := hi;obtain ⟨o, h1, h2⟩ := h.of i x hx;exact ⟨o, x, h1, hx, h2⟩
theorem aM1 {σ : Nat → Nat} {P : Prop} {a b c d : AObj} (h1 : Ole σ a b) (h2 : Ole σ c d) (h : a.succ P c) : b.succ P d := by
 cases h1 <;> cases h2 <;> simp only [AObj.succ] at h ⊢ <;> try exact h
 ·rename_i e1 _ _ _ _ e2;subst e1 e2;simpa [eV] using h
theorem Inv.renH {σ : Nat → Nat} (hσ : ∀ i, σ (σ i) = i) {G : Ctx} {h0' H H' : cK} {S : Sto} {μ : Mu} {w : World} (h : Inv G S μ H w) (h0 : RenH σ G.h0 h0') (hH : RenH σ H H') :
  Inv { G with μ0 := fun i => G.μ0 (σ i), h0 := h0' } S (fun i => μ (σ i)) H' w := by
 refine ⟨h.holds, fun id o ho => ?_, fun i j o o' b c c' hi hj hm hm' => ?_, fun i o b c hi hm => ?_, h.frame, h.sle, h.sto, ⟨h.evo.le, fun id o ho => ?_⟩⟩
 ·obtain ⟨x, h1, h2⟩ := hH.of id o ho;exact (h.obj _ _ h1).ren h2 fun j hj => hH.good (hH.cl id o ho j hj)
 ·obtain ⟨x, h1, _⟩ := hH.of i o hi;obtain ⟨y, h2, _⟩ := hH.of j o' hj;have := h.inj _ _ _ _ b c c' h1 h2 hm hm';rw [← hσ i, ← hσ j, this]
 ·obtain ⟨x, h1, _⟩ := hH.of i o hi;exact h.own _ _ b c h1 hm
 ·obtain ⟨x, h1, h2⟩ := h0.of id o ho;obtain ⟨y, h3, h4⟩ := h.evo.obj _ _ h1;obtain ⟨z, h5, h6⟩ := hH.to id y h3;exact ⟨z, h5, aM1 h2 h6 h4⟩
section
variable {σ : Nat → Nat} (hσ : ∀ i, σ (σ i) = i)
include hσ
theorem aTb (i k : Nat) : Nat.beq (σ i) (σ k) = Nat.beq i k := by
 cases h : Nat.beq i k with
 | true => rw [eq_of_beq_eq_true h]; exact beq_refl _
 | false =>
  cases h' : Nat.beq (σ i) (σ k) with
  | false => rfl
  | true =>
   have := eq_of_beq_eq_true h';have e : i = k := by rw [← hσ i, ← hσ k, this]
   rw [e, beq_refl] at h;cases h
theorem kN (i : Nat) : ∀ hl : List (Nat × AObj), look (Go.AM.renH σ hl) (σ i) = (look hl i).map (AObj.ren σ)
 | [] => rfl
 | (k, o) :: hl => by
  have ih := kN i hl;simp only [Go.AM.renH, map_cons, look, aTb hσ] at ih ⊢;split
  ·rfl
  ·exact ih
theorem RenH.a {hl : List (Nat × AObj)} (hc : subset (dG hl) (keys hl) = true) : RenH σ (look (Go.AM.renH σ hl)) (look hl) := by
 refine ⟨fun i o h => ?_, fun i o h => ?_, fun i o h j hj => ?_⟩
 ·rw [kN hσ] at h;cases hx : look hl i with
  | none => rw [hx] at h; cases h
  | some x => rw [hx] at h; cases h; exact ⟨x, rfl, .of_ren x⟩
 ·exact ⟨o.ren σ, by rw [kN hσ, h]; rfl, .of_ren o⟩
 ·exact iX (bP hc j (jA (c7 h) j hj))
theorem RenH.b {hl : List (Nat × AObj)} (hc : subset (dG hl) (keys hl) = true) : RenH σ (look hl) (look (Go.AM.renH σ hl)) := by
 have key : ∀ i, look (Go.AM.renH σ hl) i = (look hl (σ i)).map (AObj.ren σ) := fun i => by
  have := kN hσ (σ i) hl;rwa [hσ] at this
 refine ⟨fun i o h => ⟨o.ren σ, by rw [key, h]; rfl, .to_ren hσ o⟩, fun i o h => ?_, fun i o h j hj => ?_⟩
 ·rw [key] at h;cases hx : look hl (σ i) with
  | none => rw [hx] at h; cases h
  | some x => rw [hx] at h; cases h; exact ⟨x, rfl, .to_ren hσ x⟩
 ·rw [key] at h;cases hx : look hl (σ i) with
  | none => rw [hx] at h; cases h
  | some x =>
   rw [hx] at h; cases h;rw [AObj.refs_ren] at hj;obtain ⟨k, hk, rfl⟩ := mem_map.1 hj;obtain ⟨y, hy⟩ := iX (bP hc k (jA (c7 hx) k hk));exact ⟨y.ren σ, by rw [key, hσ, hy]; rfl⟩
theorem aU.ren {P : Program} {f : FuncId} {args : List V} {hin hout : List (Nat × AObj)} {res : V} (h : aU P f args hin res hout) (h1 : subset (dG hin) (keys hin) = true) (h2 : subset (V.refsL args) (keys hin) = true) (h3 : subset (dG hout) (keys hout) = true) (h4 : subset res.refs (keys hout) = true) :
  aU P f (V.renL σ args) (Go.AM.renH σ hin) (res.ren σ) (Go.AM.renH σ hout) := by
 intro S μ w vals hI hv;have ra := RenH.a hσ h1;have hI' := hI.renH hσ ra ra;have hF : xF μ (look (Go.AM.renH σ hin)) = xF (fun i => μ (σ i)) (look hin) := by
  funext b;refine propext ⟨?_, ?_⟩
  ·rintro ⟨j, o, c, g1, g2⟩;obtain ⟨o', g3, _⟩ := ra.to (σ j) o (by rw [hσ]; exact g1);exact ⟨σ j, o', c, g3, by show μ (σ (σ j)) = _; rw [hσ]; exact g2⟩
  ·rintro ⟨j, o, c, g1, g2⟩;obtain ⟨o', g3, _⟩ := ra.of j o g1;exact ⟨σ j, o', c, g3, g2⟩
 rw [hF] at hI';have hv' : bV S (fun i => μ (σ i)) (look hin) args vals := bV.ren args vals (fun i hi => ra.good (iX (bP h2 i hi))) hv;refine Calls.mono (h S (fun i => μ (σ i)) w vals hI' hv') ?_;rintro e w' ⟨S', μ', v, g1, g2, g3⟩;refine ⟨S', fun i => μ' (σ i), v, g1, ?_, ?_⟩
 ·have := g2.renH hσ (RenH.b hσ h1) (RenH.b hσ h3);dsimp only at this;rw [hF];simpa only [hσ] using this
 ·refine aW.ren (res.ren σ) v (fun i hi => (RenH.b hσ h3).good ?_) (by rw [V.ren_ren hσ]; exact g3);rw [V.refs_ren] at hi;obtain ⟨k, hk, rfl⟩ := mem_map.1 hi;obtain ⟨y, hy⟩ := iX (bP h4 k hk);exact ⟨y.ren σ, by rw [kN hσ, hy]; rfl⟩
end
def swp (a b i : Nat) : Nat := bif Nat.beq i a then b else bif Nat.beq i b then a else i
theorem aRl (a b i : Nat) : swp a b (swp a b i) = i := by
 have hb : ∀ x y : Nat, (Nat.beq x y = true) ↔ x = y := fun x y => ⟨eq_of_beq_eq_true, fun h => by subst h; exact beq_refl _⟩
 unfold swp;cases h1 : Nat.beq i a <;> cases h2 : Nat.beq i b <;> simp only [cond_true, cond_false]
 ·rw [h1, h2]; rfl
 ·cases h3 : Nat.beq a a with
  | true => simp only [cond_true]; exact ((hb _ _).1 h2).symm
  | false => rw [beq_refl] at h3; cases h3
 ·cases h3 : Nat.beq b a with
  | true => simp only [cond_true]; rw [(hb _ _).1 h3, (hb _ _).1 h1]
  | false => rw [beq_refl]; simp only [cond_true, cond_false]; exact ((hb _ _).1 h1).symm
 ·have e1 := (hb _ _).1 h1;have e2 := (hb _ _).1 h2;have e3 : b = a := by rw [← e2, e1]
  rw [e3, beq_refl]; simp only [cond_true]; exact e1.symm
theorem aU.swap (a b : Nat) {P : Program} {f : FuncId} {args : List V} {hin hout : List (Nat × AObj)} {res : V} (h : aU P f args hin res hout) (h1 : subset (dG hin) (keys hin) = true := by rfl) (h2 : subset (V.refsL args) (keys hin) = true := by rfl) (h3 : subset (dG hout) (keys hout) = true := by rfl) (h4 : subset res.refs (keys hout) = true := by rfl) :
  aU P f (V.renL (swp a b) args) (renH (swp a b) hin) (res.ren (swp a b)) (renH (swp a b) hout) := h.ren (aRl a b) h1 h2 h3 h4
end Go.AM
namespace Go.AM
open Go Go.Proofs
section
variable {P : Program} {n : Nat} {ops : Array Oper} {draw : Bool} {k d : Nat} {st : St} {pre : REs} {Q : St → Prop} {o : Oper} {f : FuncId} {xs : Array Operand} {ts : Array TypeId} {ids : List Nat} {args : List V} {res : V} {hin hout : List (Nat × AObj)}
theorem kcG {j t : Nat} {want b : Bool} (hf : aU P f args hin res hout)
  (hk : mA P n ops draw (k + 1) ⟨upd st.e d (some res), updL st.h (outs hout), st.d⟩ ((⟨t :: dO xs.toList, ids ++ keys hin ++ keys hout⟩, ⟨some (d, some res), outs hout⟩) :: pre) Q)
  (hb : pE P f := by exact aMs (by kernel_rfl)) (ho : ops[k]? = some o := by rfl) (hg : o.guard = some (j, want) := by rfl) (hj : (ops[j]?).bind (·.dst) = some t := by rfl) (hbv : st.e t = some (.one (.c (.bool b))) := by rfl) (hw : b = want := by first | rfl | assumption) (hop : o.op = .call { callee := .value (.func f), args := xs, argTypes := ts } := by rfl) (hd : o.dst = some d := by rfl) (hdn : Nat.blt d n = true := by rfl)
  (ha : ArgsV st ids xs.toList args := by repeat (first | exact .nil | (apply Go.AM.ArgsV.cons rfl; (first | exact .refl | exact .one (.c .nl .nil) | exact .one (.c .sn .nil) | exact .one (.hs rfl (by first | rfl | simp) (by first | rfl | (simp; done) | (simp [Go.AM.take_map]; done) | exact Go.AM.take_map.symm) .nil) | exact Go.AM.hs_all rfl rfl (by first | rfl | assumption | (simp; done) | (simp; omega)) (by first | rfl | assumption | (simp; done)) | ((first | apply Go.AM.Conv.pa | apply Go.AM.Conv.agg); repeat (first | exact .nil | apply Go.AM.PureL.c .refl | apply Go.AM.PureL.c .nl | apply Go.AM.PureL.c .sn | (apply Go.AM.PureL.hs; rfl; (first | rfl | simp); (first | rfl | (simp; done) | (simp [Go.AM.take_map]; done) | exact Go.AM.take_map.symm))))))))
  (hin' : eQ (fun p => st.h p.1 = some p.2) hin := by repeat (first | exact trivial | refine ⟨rfl, ?_⟩)) (hout' : eQ (fun p => p.1 ∈ keys hin ∨ st.h p.1 = none) hout := by repeat (first | exact trivial | refine ⟨.inr rfl, ?_⟩ | refine ⟨.inl (by decide), ?_⟩ | refine ⟨.inl (by repeat (first | exact List.Mem.head _ | apply List.Mem.tail)), ?_⟩)) (hok : jW args hin = true := by rfl) : mA P n ops draw k st pre Q :=
 k_ (GStep.yes ho hg hj hbv hw (aI0 hin hout hb hop hd (kX hdn) hf ha hin' hout' hok)) hk
end
end Go.AM
namespace Go.Proofs.YtmoekkcdkjopgaaGreatDoor
open Go Go.AM
set_option maxRecDepth 20000
def bU (l : List Str) : V := .one (.c (.sl 1 (l.map bN)))
theorem mJ (l : List (List C)) (h : l.length ≤ 600000000000) : aU Tryz.prog 58 [.one (.c (.sl 1 l))] [] (.one (.hs 710 0 l.length l.length)) [(710, .arr 9 1 l 0)] := by
 refine bT (n := 8) tok Tryz.func58 rfl rfl rfl ?_;refine a8 (ag [] rfl ?_);refine aFi 0 rfl (fun hl => ?_) ?_
 ·subst hl;refine a8 (a8 (ag [] rfl ?_));refine aA rfl (fun _ => ?_) (fun hb => by cases hb);refine a8 (ag [] rfl ?_);refine AWp.sub (Sub.own (t := 2) (id := 710) 9 1 rfl rfl) ?_;exact aI rtT
 ·refine a8 (a8 (ag [] rfl ?_));refine aA rfl (fun hb => by cases hb) (fun _ => ?_);refine aD ?_;refine a8 (ag [(0, .id 710)] rfl ?_);refine AWp.sub (st2 := mk [(2, .one (.hs 710 0 l.length l.length))] [(710, .arr 9 1 l 0)]) sl ?_;exact aI rtT
theorem wY (l : List (List C)) (h : l.length ≤ 600000000000) : aU Tryz.prog 121 [.one (.c (.sl 15 l))] [] (.one (.hs 701 0 l.length l.length)) [(701, .arr 73 15 l 0)] := by
 refine bT (n := 8) tok Tryz.func121 rfl rfl rfl ?_;refine a8 (ag [] rfl ?_);refine aFi 0 rfl (fun hl => ?_) ?_
 ·subst hl;refine a8 (a8 (ag [] rfl ?_));refine aA rfl (fun _ => ?_) (fun hb => by cases hb);refine a8 (ag [] rfl ?_);refine AWp.sub (Sub.own (t := 2) (id := 701) 73 15 rfl rfl) ?_;exact aI rtT
 ·refine a8 (a8 (ag [] rfl ?_));refine aA rfl (fun hb => by cases hb) (fun _ => ?_);refine aD ?_;refine a8 (ag [(0, .id 701)] rfl ?_);refine AWp.sub (st2 := mk [(2, .one (.hs 701 0 l.length l.length))] [(701, .arr 73 15 l 0)]) sl ?_;exact aI rtT
theorem o6 (l : List (List C)) (h : l.length ≤ 600000000000) : aU Tryz.prog 120 [.one (.c (.sl 10 l))] [] (.one (.hs 702 0 l.length l.length)) [(702, .arr 37 10 l 0)] := by
 refine bT (n := 8) tok Tryz.func120 rfl rfl rfl ?_;refine a8 (ag [] rfl ?_);refine aFi 0 rfl (fun hl => ?_) ?_
 ·subst hl;refine a8 (a8 (ag [] rfl ?_));refine aA rfl (fun _ => ?_) (fun hb => by cases hb);refine a8 (ag [] rfl ?_);refine AWp.sub (Sub.own (t := 2) (id := 702) 37 10 rfl rfl) ?_;exact aI rtT
 ·refine a8 (a8 (ag [] rfl ?_));refine aA rfl (fun hb => by cases hb) (fun _ => ?_);refine aD ?_;refine a8 (ag [(0, .id 702)] rfl ?_);refine AWp.sub (st2 := mk [(2, .one (.hs 702 0 l.length l.length))] [(702, .arr 37 10 l 0)]) sl ?_;exact aI rtT
theorem zI (l : List (List C)) (h : l.length ≤ 600000000000) : aU Tryz.prog 122 [.one (.c (.sl 14 l))] [] (.one (.hs 703 0 l.length l.length)) [(703, .arr 78 14 l 0)] := by
 refine bT (n := 8) tok Tryz.func122 rfl rfl rfl ?_;refine a8 (ag [] rfl ?_);refine aFi 0 rfl (fun hl => ?_) ?_
 ·subst hl;refine a8 (a8 (ag [] rfl ?_));refine aA rfl (fun _ => ?_) (fun hb => by cases hb);refine a8 (ag [] rfl ?_);refine AWp.sub (Sub.own (t := 2) (id := 703) 78 14 rfl rfl) ?_;exact aI rtT
 ·refine a8 (a8 (ag [] rfl ?_));refine aA rfl (fun hb => by cases hb) (fun _ => ?_);refine aD ?_;refine a8 (ag [(0, .id 703)] rfl ?_);refine AWp.sub (st2 := mk [(2, .one (.hs 703 0 l.length l.length))] [(703, .arr 78 14 l 0)]) sl ?_;exact aI rtT
def aGq (s : Str) : List Str → Int → Int
 | [], _ => -1
 | x :: l, k => if s = x then k else aGq s l (k + 1)
theorem aEw (s : Str) : ∀ (l : List Str) (k : Int), 0 ≤ k → (decide (0 ≤ aGq s l k) = decide (s ∈ l))
 | [], k, _ => by simp [aGq]
 | x :: l, k, hk => by
  rw [aGq];split
  ·rename_i h; subst h; simp [hk]
  ·rename_i h; rw [aEw s l (k + 1) (by omega)]; simp [h]
theorem aLk (l : List Str) (s : Str) (h : l.length ≤ 600000000000) : aU Tryz.prog 123 [bU l, Go.AM.T s] [] (I .i64 (aGq s l 0)) [] := by
 refine bT (n := 19) tok Tryz.func123 rfl rfl rfl ?_;refine a8 (ag [] rfl ?_);refine a8 (a8 (ag [] rfl ?_));have hka : (l.map bN).length = l.length := length_map _;refine aB ?_;refine aL (fun i : Nat => mk [(0, bU l), (1, Go.AM.T s), (7, I .i64 ((l.map bN).length : Int)), (8, I .i64 i)] []) (fun i => i ≤ l.length ∧ aGq s l 0 = aGq s (l.drop i) i) (fun i => l.length - i) 0 ⟨zero_le _, rfl⟩ sl ?_;intro i ⟨hi, he⟩;refine a8 (ag [] rfl ?_);refine a8 (aA rfl (fun hb => ?_) (fun hb => ?_))
 ·have hlt := ltD hb hka;obtain ⟨x, hx⟩ := aK hlt;have hx' := bQ bN hx;have hd : l.drop i = x :: l.drop (i + 1) := by rw [drop_eq_getElem_cons hlt, (List.getElem?_eq_some_iff.1 hx).2]
  rw [hd, aGq] at he;refine aD ?_;refine a8 (aB ?_);refine a8 (ag [] rfl ?_);refine a8 (ag [(3, .row i (bN x))] rfl ?_);refine aA rfl (fun hb => ?_) (fun hb => ?_)
  ·have hs : s = x := of_decide_eq_true hb;rw [if_pos hs] at he;rw [he];refine a8 (ag [] rfl ?_);exact aI rtT
  ·have hs : ¬ s = x := of_decide_eq_false hb;rw [if_neg hs] at he;refine aD ?_;refine ag [] rfl ?_;exact ⟨i + 1, ⟨hlt, he⟩, by dsimp only; omega, sl⟩
 ·have hge := geD hb hka hi;subst hge;rw [drop_length, aGq] at he;rw [he];refine aM ?_;refine a8 (ag [] rfl ?_);exact aI rtT
theorem bW (l : List Str) (s : Str) (h : l.length ≤ 600000000000) : aU Tryz.prog 60 [bU l, Go.AM.T s] [] (B (decide (s ∈ l))) [] := by
 have hi := aLk l s h;refine bT (n := 9) tok Tryz.func60 rfl rfl rfl ?_;refine a8 (ag [] rfl ?_);refine a8 (ag [(2, .pc (I .i64 (aGq s l 0)))] rfl ?_);rw [← aEw s l 0 (by omega)];exact aI rtT
def aP7 {α : Type} (p : α → Bool) : List α → Nat → Int
 | [], _ => -1
 | x :: l, i => if p x then (i : Int) else aP7 p l (i + 1)
theorem aJ7 {α : Type} (p : α → Bool) : ∀ (l : List α) (i : Nat), decide (aP7 p l i ≥ 0) = l.any p
 | [], _ => rfl
 | x :: l, i => by
  rw [aP7, List.any_cons];cases h : p x
  ·rw [if_neg (by simp), aJ7 p l]; rfl
  ·rw [if_pos rfl, Bool.true_or]; simp
theorem oA (a : Alt) : a.vars.length ≤ lZ a := by
 obtain ⟨f, n, s, v, c⟩ := a;rw [lZ];have : ∀ l : List Str, l.length ≤ (l.map fun v => 1 + v.length).sum := by
  intro l
  induction l with
  | nil => simp
  | cons x l ih => rw [map_cons, sum_cons, length_cons]; omega
 have := this v;show v.length ≤ _;omega
def aVw (l : List Int) : V := .one (.c (.sl 1 (l.map aGr)))
end Go.Proofs.YtmoekkcdkjopgaaGreatDoor
namespace Go.AM
open Go
inductive CsLe : List C → List C → Prop
 | nil : CsLe [] []
 | cons {c c' : C} {l l' : List C} (h0 : Cle c c') (h : CsLe l l') : CsLe (c :: l) (c' :: l')
inductive RowsLe : List (List C) → List (List C) → Prop
 | nil : RowsLe [] []
 | cons {r r' : List C} {l l' : List (List C)} (h : CsLe r r') (k : RowsLe l l') : RowsLe (r :: l) (r' :: l')
theorem CsLe.refl : ∀ l : List C, CsLe l l
 | [] => .nil
 | _ :: l => .cons .refl (CsLe.refl l)
theorem CsLe.length {l l' : List C} (h : CsLe l l') : l'.length = l.length := by
 induction h with
 | nil => rfl
 | cons h0 h ih => simp [ih]
theorem CsLe.rep {S : Sto} {l l' : List C} (h : CsLe l l') : ∀ {vs : List Value}, dI S l vs → dI S l' vs := by
 induction h with
 | nil => exact fun k => k
 | cons h0 h ih =>
  intro vs k;simp only [dI] at k ⊢;obtain ⟨v, vs', rfl, h1, h2⟩ := k;exact ⟨v, vs', rfl, h0.rep h1, ih h2⟩
theorem CsLe.app {a a' b b' : List C} (h : CsLe a a') (k : CsLe b b') : CsLe (a ++ b) (a' ++ b') := by
 induction h with
 | nil => exact k
 | cons h0 h ih => exact .cons h0 ih
theorem RowsLe.flat {l l' : List (List C)} (h : RowsLe l l') : CsLe l.flatten l'.flatten := by
 induction h with
 | nil => exact .nil
 | cons h k ih => simp only [flatten_cons]; exact h.app ih
theorem RowsLe.length {l l' : List (List C)} (h : RowsLe l l') : l'.length = l.length := by
 induction h with
 | nil => rfl
 | cons h k ih => simp [ih]
theorem RowsLe.rows {l l' : List (List C)} (h : RowsLe l l') {n : Nat} : (∀ r ∈ l, r.length = n) → ∀ r ∈ l', r.length = n := by
 induction h with
 | nil => exact fun h => h
 | cons h k ih =>
  intro hl r hr;rcases mem_cons.1 hr with rfl | hr
  ·rw [h.length]; exact hl _ mem_cons_self
  ·exact ih (fun x hx => hl x (mem_cons_of_mem _ hx)) r hr
theorem Sub.arrWeak {kf : List Nat} {st : St} {x te es fz : Nat} {rows rows' : List (List C)} (h : st.h x = some (.arr te es rows fz)) (hp : RowsLe rows rows') : Sub kf ⟨st.e, upd st.h x (some (.arr te es rows' fz)), st.d⟩ st := by
 intro G n S μ a w _ hs;have hi := hs.inv;have ho := hi.obj x _ h
 have hE2 : Evolve S μ st.h S μ (upd st.h x (some (.arr te es rows' fz))) := ⟨S.le_refl, fun j y hj => by
  by_cases hjx : j = x
  ·subst hjx;rw [h] at hj; cases hj;exact ⟨_, aJ _ _ _, by simp [AObj.succ, hp.length]⟩
  ·exact ⟨y, by rw [b7 _ _ _ hjx]; exact hj, y.succ_refl rfl⟩⟩
 have hold : ∀ j y, upd st.h x (some (.arr te es rows' fz)) j = some y → ∃ y', st.h j = some y' := fun j y hj => by
  by_cases hjx : j = x
  ·subst hjx; exact ⟨_, h⟩
  ·rw [b7 _ _ _ hjx] at hj; exact ⟨_, hj⟩
 refine ⟨S, μ, ⟨⟨hi.holds, fun j y hj => ?_, fun i j y y' b c c' hi' hj hm hm' => ?_, fun i y b c hi' hm => ?_, hi.frame, hi.sle, hi.sto, hi.evo.trans hE2⟩, hs.size, hs.defers.evolve hE2, fun s v e => aW.evolve hE2 v _ (hs.env s v e)⟩⟩
 ·by_cases hjx : j = x
  ·subst hjx;have hj' : some (AObj.arr te es rows' fz) = some y := by rw [← hj]; exact (aJ _ _ _).symm
   cases hj';obtain ⟨g0, g⟩ := ho;refine ⟨hp.rows g0, ?_⟩;rcases g with ⟨g1, g2⟩ | ⟨b, base, cap, vs, g1, g2, g3, g4, g5, g6, g7, g8, g9⟩
   ·subst g2;cases hp;exact .inl ⟨g1, rfl⟩
   ·refine .inr ⟨b, base, cap, vs, g1, g2, g3, by rw [hp.length]; exact g4, g5, ?_, g7, ?_, ?_⟩
    ·rw [hp.length]; exact hp.flat.rep g6
    ·rw [hp.length]; exact g8
    ·rw [hp.length]; exact g9
  ·have hj' : st.h j = some y := by rw [← hj]; exact (b7 _ _ _ hjx).symm
   exact (hi.obj j y hj').evolve hE2 rfl fun _ _ _ => ⟨rfl, fun _ => rfl, rfl⟩
 ·obtain ⟨_, h1⟩ := hold _ _ hi';obtain ⟨_, h2⟩ := hold _ _ hj;exact hi.inj i j _ _ b c c' h1 h2 hm hm'
 ·obtain ⟨_, h1⟩ := hold _ _ hi';exact hi.own i _ b c h1 hm
theorem aw {kf : List Nat} {st : St} (x : Nat) {te es fz : Nat} {rows : List (List C)} (rows' : List (List C)) (h : st.h x = some (.arr te es rows fz) := by rfl)
  (hp : RowsLe rows rows' := by repeat (first | exact .nil | apply Go.AM.RowsLe.cons | apply Go.AM.CsLe.cons .refl | apply Go.AM.CsLe.cons .nl)) : Sub kf ⟨st.e, upd st.h x (some (.arr te es rows' fz)), st.d⟩ st := Sub.arrWeak h hp
end Go.AM
namespace Go.Proofs.YtmoekkcdkjopgaaGreatDoor
open Go Go.AM
set_option maxRecDepth 20000
mutual
def tn : Ty → Nat
 | .mk _ _ s a => 1 + s.length + tns a
def tns : List Ty → Nat
 | [] => 0
 | t :: l => tn t + tns l
end
theorem mE (t : Ty) : 1 ≤ tn t := by cases t; rw [tn]; omega
theorem aHw : ∀ l : List Ty, l.length ≤ tns l
 | [] => zero_le _
 | t :: l => by rw [tns, length_cons]; have := aHw l; have := mE t; omega
theorem mM : ∀ {l : List Ty} {t : Ty}, t ∈ l → tn t ≤ tns l
 | u :: l, t, h => by
  rw [tns];rcases mem_cons.1 h with rfl | h
  ·omega
  ·have := mM h; omega
theorem z6 (t : Ty) (ht : t.args.length ≤ 1000000) (ih : ∀ u ∈ t.args, aU Tryz.prog 126 [tyV u] [] (tyV u) []) : aU Tryz.prog 126 [tyV t] [] (tyV t) [] := by
 obtain ⟨f, n, s, a⟩ := t;have ih : ∀ u ∈ a, aU Tryz.prog 126 [tyV u] [] (tyV u) [] := ih;have hal : a.length ≤ 1000000 := ht;have hka : (eS a).length = a.length := by rw [jF, length_map]
 refine bT (n := 22) tok Tryz.func126 rfl rfl rfl ?_;refine a8 (ag [] rfl ?_);refine a8 (ag [] rfl ?_);refine AWp.sub (Sub.own (t := 3) (id := 600) 33 4 rfl rfl) ?_;refine a8 (a8 (ag [] rfl ?_));refine aB ?_;refine aL (fun i : Nat => mk [(1, .one (.vp 1 0)), (2, .one (.vp 2 0)), (3, .one (.hs 600 0 ((eS a).take i).length ((eS a).take i).length)), (7, .one (.c (.sl 4 (eS a)))), (8, I .i64 ((eS a).length : Int)), (9, I .i64 i)] [(600, .arr 33 4 ((eS a).take i) 0), (1, .var 33 ((bD (.mk f n s a)).map R.c)), (2, .var 33 [.c (.int .i64 0), .c (.int .i64 0), .c (.str []), .c .nl])]) (fun i => i ≤ a.length) (fun i => a.length - i) 0 (zero_le _) sl ?_;intro i hi;have hti : ((eS a).take i).length = i := by rw [length_take]; omega
 refine a8 (ag [] rfl ?_);refine a8 (aA rfl (fun hb => ?_) (fun hb => ?_))
 ·have hlt := ltD hb hka;obtain ⟨u, hu⟩ := aK hlt;have hu' : (eS a)[i]? = some (bD u) := by rw [jF]; exact bQ bD hu
  have hc := ih u (List.mem_of_getElem? hu);have hst : (eS a).take (i + 1) = (eS a).take i ++ [bD u] := by rw [take_add_one, hu']; rfl
  refine aD ?_;refine a8 (aB ?_);refine a8 (ag [(0, .row i (bD u))] rfl ?_);refine aE mixed ?_;refine ak 2 [] rfl ?_;refine kc hc ?_;refine ak 3 [(3, .all)] rfl ?_;refine az ?_;refine ag [] rfl ?_;refine ⟨i + 1, hlt, by dsimp only; omega, ?_⟩;dsimp only;rw [hst];exact sl
 have hge := geD hb hka hi;subst hge;rw [show (eS a).take a.length = eS a by rw [← hka, take_length]];refine aM ?_;refine AWp.sub (Sub.freeze (id := 600) rfl) ?_;refine a8 (ag [] rfl ?_);refine AWp.sub (vp 1 (bD (.mk f n s a))) ?_;refine a8 (ag [] rfl ?_);exact aI (rtC trw)
mutual
def wfS : Ty → Bool
 | .mk f n s a => (if f = 4 then decide (n = 0 ∧ s = [] ∧ a.length = 2) else if f = 5 then decide (n = 0 ∧ a.length = 1) else a.isEmpty) && aAm a
def aAm : List Ty → Bool
 | [] => true
 | t :: l => wfS t && aAm l
end
theorem aCg : ∀ {l : List Ty} {t : Ty}, aAm l = true → t ∈ l → wfS t = true
 | u :: l, t, h, ht => by
  rw [aAm, Bool.and_eq_true] at h;rcases mem_cons.1 ht with rfl | ht
  ·exact h.1
  ·exact aCg h.2 ht
theorem qL {f n : Int} {s : Str} {a : List Ty} (h : wfS (.mk f n s a) = true) : a.length ≤ 2 ∧ (∀ u ∈ a, wfS u = true) ∧ (f = 4 → n = 0 ∧ s = [] ∧ ∃ u v, a = [u, v]) ∧ (f = 5 → n = 0 ∧ ∃ u, a = [u]) ∧ (¬ f = 4 → ¬ f = 5 → a = []) := by
 rw [wfS, Bool.and_eq_true] at h;obtain ⟨h1, h2⟩ := h;refine ⟨?_, fun u hu => aCg h2 hu, fun h4 => ?_, fun h5 => ?_, fun h4 h5 => ?_⟩
 ·split at h1
  ·exact le_of_eq (of_decide_eq_true h1).2.2
  ·split at h1
   ·rw [(of_decide_eq_true h1).2]; omega
   ·rw [List.isEmpty_iff.1 h1]; simp
 ·rw [if_pos h4] at h1;obtain ⟨a1, a2, a3⟩ := of_decide_eq_true h1
  match a, a3 with
  | [u, v], _ => exact ⟨a1, a2, u, v, rfl⟩
 ·rw [if_neg (by omega), if_pos h5] at h1;obtain ⟨a1, a2⟩ := of_decide_eq_true h1;exact ⟨a1, length_eq_one_iff.1 a2⟩
 ·rw [if_neg h4, if_neg h5] at h1;exact List.isEmpty_iff.1 h1
theorem wS : ∀ (k : Nat) (t : Ty), tn t ≤ k → wfS t = true → aU Tryz.prog 126 [tyV t] [] (tyV t) []
 | 0, t, h, _ => by have := mE t; omega
 | k + 1, t, h, hw => by
  obtain ⟨f, n, s, a⟩ := t;obtain ⟨h1, h2, _⟩ := qL hw;exact z6 (.mk f n s a) (show a.length ≤ _ by omega) fun u hu => wS k u (by have hu : u ∈ a := hu; have := mM hu; rw [tn] at h; omega) (h2 u hu)
theorem aOn (a b : Ty) : aU Tryz.prog 127 [tyV a, tyV b] [] (tyV (tapp a b)) [] := by
 refine bT (n := 9) tok Tryz.func127 rfl rfl rfl ?_;refine a8 (ag [] rfl ?_);refine a8 (ag [(2, .all)] rfl ?_);exact aI (rtC trw)
theorem aQo (s : Str) : aU Tryz.prog 73 [Go.AM.T s] [] (tyV (.mk 2 0 s [])) [] := by
 refine bT (n := 5) tok Tryz.func73 rfl rfl rfl ?_;refine a8 (ag [] rfl ?_);refine a8 (ag [] rfl ?_);exact aI (rtC trw)
def gP (f : Int) (s : Str) (o : List Str) (x : Str) : List Str := if ¬ x ∈ o ∧ (¬ f = 5 ∨ ¬ x = s) then o ++ [x] else o
def sP (f : Int) (s : Str) (o : List Str) (l : List Str) : List Str := l.foldl (gP f s) o
mutual
def tfR : Ty → List Str
 | .mk f _ s a => if f = 2 then [s] else oC f s a []
def oC (f : Int) (s : Str) : List Ty → List Str → List Str
 | [], o => o
 | t :: l, o => oC f s l (sP f s o (tfR t))
end
def tfL (f : Int) (s : Str) (l : List Ty) (o : List Str) : List Str := l.foldl (fun o t => sP f s o (tfR t)) o
theorem aAz (f : Int) (s : Str) : ∀ (l : List Ty) (o : List Str), oC f s l o = tfL f s l o
 | [], o => by rw [oC]; rfl
 | t :: l, o => by rw [oC, aAz f s l]; rfl
theorem aH1 (f : Int) (s : Str) (o : List Str) (x : Str) : (gP f s o x).length ≤ o.length + 1 := by
 unfold gP; split
 ·simp
 ·omega
theorem pP (f : Int) (s : Str) : ∀ (l o : List Str), (sP f s o l).length ≤ o.length + l.length
 | [], o => le_refl _
 | x :: l, o => by
  have h1 := pP f s l (gP f s o x);have h2 := aH1 f s o x;show (sP f s (gP f s o x) l).length ≤ _;rw [length_cons]; omega
mutual
theorem aHy : ∀ t : Ty, (tfR t).length ≤ tn t
 | .mk f n s a => by
  rw [tfR, tn];split
  ·simp; omega
  ·have := aAy f s a [];simp only [length_nil] at this;omega
theorem aAy (f : Int) (s : Str) : ∀ (l : List Ty) (o : List Str), (oC f s l o).length ≤ o.length + tns l
 | [], o => by rw [oC, tns]; exact le_refl _
 | t :: l, o => by
  rw [oC, tns];have h1 := aAy f s l (sP f s o (tfR t));have h2 := pP f s (tfR t) o;have h3 := aHy t;omega
end
theorem aH4 {f : Int} {s : Str} {o l : List Str} {j : Nat} {x : Str} (h : l[j]? = some x) : sP f s o (l.take (j + 1)) = gP f s (sP f s o (l.take j)) x := by
 unfold sP; rw [take_add_one, h, foldl_append]; rfl
theorem aMz {f : Int} {s : Str} {o : List Str} {l : List Ty} {j : Nat} {x : Ty} (h : l[j]? = some x) : tfL f s (l.take (j + 1)) o = sP f s (tfL f s (l.take j) o) (tfR x) := by
 unfold tfL; rw [take_add_one, h, foldl_append]; rfl
theorem aC7 : ∀ (l : List Ty) (i : Nat), tns (l.take i) ≤ tns l
 | [], i => by simp
 | t :: l, 0 => by rw [take_zero, tns]; omega
 | t :: l, i + 1 => by rw [take_succ_cons, tns, tns]; have := aC7 l i; omega
theorem nY (t : Ty) (ht : t.args.length ≤ 1000000000) (hL : ∀ i, (tfL t.form t.name (t.args.take i) []).length ≤ 1000000000) (hU : ∀ u ∈ t.args, (tfR u).length ≤ 1000000000) (ih : ∀ u ∈ t.args, aU Tryz.prog 63 [tyV u] [] (bU (tfR u)) []) : aU Tryz.prog 63 [tyV t] [] (bU (tfR t)) [] := by
 obtain ⟨f, n, s, a⟩ := t;have hal : a.length ≤ 1000000000 := ht;have hL : ∀ i, (tfL f s (a.take i) []).length ≤ 1000000000 := hL;have hU : ∀ u ∈ a, (tfR u).length ≤ 1000000000 := hU;have ih : ∀ u ∈ a, aU Tryz.prog 63 [tyV u] [] (bU (tfR u)) [] := ih;have hka : (eS a).length = a.length := by rw [jF, length_map]
 rw [tfR];refine bT (n := 50) tok Tryz.func63 rfl rfl rfl ?_;refine a8 (ag [] rfl ?_);refine a8 (a8 (ag [] rfl ?_));refine aA rfl (fun hb => ?_) (fun hb => ?_)
 ·have h2 : f = 2 := of_decide_eq_true hb;rw [if_pos h2];refine a8 (ag [(2, .all)] rfl ?_);exact aI rtT
 ·have h2 : ¬ f = 2 := of_decide_eq_false hb;rw [if_neg h2, aAz] at *;refine aD ?_;refine a8 (ag [] rfl ?_);refine AWp.sub (Sub.own (t := 3) (id := 600) 9 1 rfl rfl) (AWp.sub (Sub.freeze (id := 600) rfl) ?_);refine a8 (a8 (ag [] rfl ?_));refine aB ?_;refine aL (fun i : Nat => mk [(1, .one (.vp 1 0)), (3, .one (.hs 600 0 (tfL f s (a.take i) []).length (tfL f s (a.take i) []).length)), (15, .one (.c (.sl 4 (eS a)))), (16, I .i64 ((eS a).length : Int)), (17, I .i64 i)] [(600, .arr 9 1 ((tfL f s (a.take i) []).map bN) 2), (1, .var 33 ((bD (.mk f n s a)).map R.c))]) (fun i => i ≤ a.length) (fun i => a.length - i) 0 (zero_le _) sl ?_;intro i hi;refine a8 (ag [] rfl ?_);refine a8 (aA rfl (fun hb => ?_) (fun hb => ?_))
  ·have hlt := ltD hb hka;obtain ⟨u, hu⟩ := aK hlt;have hu' : (eS a)[i]? = some (bD u) := by rw [jF]; exact bQ bD hu
   have hm := List.mem_of_getElem? hu;have hc := ih u hm;have hul := hU u hm;have hst := aMz (f := f) (s := s) (o := []) hu;have hol := hL i;generalize tfL f s (a.take i) [] = o at hst hol ⊢;have hkf : ((tfR u).map bN).length = (tfR u).length := length_map _;generalize tfR u = fu at hc hul hst hkf;refine aD ?_;refine a8 (aB ?_);refine a8 (ag [(0, .row i (bD u))] rfl ?_);refine a8 (aE mixed ?_);refine ak 1 [] rfl ?_;refine kc hc ?_;refine ak 2 [] rfl ?_;refine az ?_;refine aB ?_;refine aL (fun j : Nat => mk [(1, .one (.vp 1 0)), (3, .one (.hs 600 0 (sP f s o (fu.take j)).length (sP f s o (fu.take j)).length)), (15, .one (.c (.sl 4 (eS a)))), (16, I .i64 ((eS a).length : Int)), (17, I .i64 i), (22, bU fu), (23, I .i64 ((fu.map bN).length : Int)), (24, I .i64 j)] [(600, .arr 9 1 ((sP f s o (fu.take j)).map bN) 2), (1, .var 33 ((bD (.mk f n s a)).map R.c))]) (fun j => j ≤ fu.length) (fun j => fu.length - j) 0 (zero_le _) sl ?_;intro j hj;refine a8 (ag [] rfl ?_);refine a8 (aA rfl (fun hb => ?_) (fun hb => ?_))
   ·have hlj := ltD hb hkf;obtain ⟨x, hx⟩ := aK hlj;have hx' := bQ bN hx;have hsn := aH4 (f := f) (s := s) (o := o) hx;have hpl : (sP f s o (fu.take j)).length ≤ 2000000000 := by
     have := pP f s (fu.take j) o;rw [length_take] at this;omega
    generalize sP f s o (fu.take j) = q at hsn hpl ⊢;have hct := bW q x (by omega);have hkq : (q.map bN).length = q.length := length_map _;refine aD ?_;refine a8 (aB ?_);refine a8 (ag [(0, .row j (bN x))] rfl ?_);by_cases hxq : x ∈ q
    ·rw [decide_eq_true hxq] at hct;have he : gP f s q x = q := by unfold gP; rw [if_neg (fun h => h.1 hxq)]
     refine a8 (aE mixed ?_);refine ak 2 [] rfl ?_;refine kc hct ?_;refine ak 12 [] rfl ?_;refine az ?_;refine aA rfl (fun hb => by cases hb) (fun _ => ?_);refine aD ?_;refine ag [] rfl ?_;refine ⟨j + 1, hlj, by dsimp only; omega, ?_⟩;dsimp only;rw [hsn, he];exact sl
    rw [decide_eq_false hxq] at hct;by_cases h5 : f = 5
    ·have d5 : decide (f = 5) = true := decide_eq_true h5;have d5' : (!decide (f = 5)) = false := by rw [d5]; rfl
     refine a8 (aE mixed ?_);refine ak 2 [] rfl ?_;refine kc hct ?_;refine ak 12 [(8, .bv false), (13, .bv false)] rfl ?_;refine az ?_;refine aA rfl (fun hb => ?_) (fun hb => ?_)
     ·have hxs : ¬ x = s := by simp at hb; exact hb
      have he : gP f s q x = q ++ [x] := by unfold gP; rw [if_pos ⟨hxq, .inr hxs⟩]
      refine ag [(2, .all)] rfl ?_;refine AWp.sub (Sub.freeze (id := 600) rfl) ?_;refine ag [] rfl ?_;refine ⟨j + 1, hlj, by dsimp only; omega, ?_⟩;dsimp only;rw [hsn, he];exact sl (hh := ⟨⟨_, rfl, .arrS (by rw [map_append]; rfl)⟩, ⟨_, rfl, .var rfl⟩, trivial⟩)
     ·have hxs : x = s := by simp at hb; exact hb
      have he : gP f s q x = q := by unfold gP; rw [if_neg (fun h => h.2.elim (fun h => h h5) (fun h => h hxs))]
      refine aD ?_;refine ag [] rfl ?_;refine ⟨j + 1, hlj, by dsimp only; omega, ?_⟩;dsimp only;rw [hsn, he];exact sl
    ·have d5 : decide (f = 5) = false := decide_eq_false h5;have d5' : (!decide (f = 5)) = true := by rw [d5]; rfl
     have he : gP f s q x = q ++ [x] := by unfold gP; rw [if_pos ⟨hxq, .inl h5⟩]
     refine a8 (aE mixed ?_);refine ak 2 [] rfl ?_;refine kc hct ?_;refine ak 12 [(8, .bv true), (13, .bv true)] rfl ?_;refine az ?_;refine aA rfl (fun _ => ?_) (fun hb => by cases hb);refine ag [(2, .all)] rfl ?_;refine AWp.sub (Sub.freeze (id := 600) rfl) ?_;refine ag [] rfl ?_;refine ⟨j + 1, hlj, by dsimp only; omega, ?_⟩;dsimp only;rw [hsn, he];exact sl (hh := ⟨⟨_, rfl, .arrS (by rw [map_append]; rfl)⟩, ⟨_, rfl, .var rfl⟩, trivial⟩)
   have hge := geD hb hkf hj;subst hge;rw [take_length];refine aM ?_;refine ag [] rfl ?_;refine ⟨i + 1, hlt, by dsimp only; omega, ?_⟩;dsimp only;rw [hst];exact sl
  have hge := geD hb hka hi;subst hge;rw [take_length];refine aM ?_;refine a8 (ag [] rfl ?_);exact aI (rtT (hc := hs_all rfl rfl (by simp) rfl))
theorem z7 (t : Ty) (ht : tn t ≤ 1000000000) (ih : ∀ u, tn u < tn t → aU Tryz.prog 63 [tyV u] [] (bU (tfR u)) []) : aU Tryz.prog 63 [tyV t] [] (bU (tfR t)) [] := by
 obtain ⟨f, n, s, a⟩ := t;rw [tn] at ht ih;have hal := aHw a;refine nY (.mk f n s a) (show a.length ≤ _ by omega) (fun i => ?_) (fun u hu => ?_) fun u hu => ih u ?_
 ·have h1 := aAy f s (a.take i) [];rw [aAz] at h1;have h2 := aC7 a i;simp only [length_nil] at h1;show (tfL f s (a.take i) []).length ≤ _;omega
 ·have h1 := mM (show u ∈ a from hu);have h2 := aHy u;omega
 ·have h1 := mM (show u ∈ a from hu);omega
theorem aE6 : ∀ (k : Nat) (t : Ty), tn t ≤ k → tn t ≤ 1000000000 → aU Tryz.prog 63 [tyV t] [] (bU (tfR t)) []
 | 0, t, h, _ => by have := mE t; omega
 | k + 1, t, h, hm => z7 t hm fun u hu => aE6 k u (by omega) (by omega)
mutual
def fvm : Ty → Nat
 | .mk f n s a => max (tfR (.mk f n s a)).length (aKk a)
def aKk : List Ty → Nat
 | [] => 0
 | t :: l => max (fvm t) (aKk l)
end
theorem nO (t : Ty) : (tfR t).length ≤ fvm t := by cases t; rw [fvm]; exact le_max_left ..
theorem aEt : ∀ {l : List Ty} {t : Ty}, t ∈ l → fvm t ≤ aKk l
 | u :: l, t, h => by
  rw [aKk];rcases mem_cons.1 h with rfl | h
  ·exact le_max_left ..
  ·exact le_trans (aEt h) (le_max_right ..)
theorem wG {f n : Int} {s : Str} {a : List Ty} {u : Ty} (h : u ∈ a) : fvm u ≤ fvm (.mk f n s a) := by
 rw [fvm]; exact le_trans (aEt h) (le_max_right ..)
theorem aH3 {f : Int} {s : Str} {L : Nat} : ∀ {l : List Ty} {o : List Str}, (∀ u ∈ l, (tfR u).length ≤ L) → (tfL f s l o).length ≤ o.length + l.length * L
 | [], o, _ => by simp [tfL]
 | t :: l, o, h => by
  have h1 := aH3 (f := f) (s := s) (l := l) (o := sP f s o (tfR t)) fun u hu => h u (mem_cons_of_mem _ hu)
  have h2 := pP f s (tfR t) o;have h3 := h t mem_cons_self;show (tfL f s l (sP f s o (tfR t))).length ≤ _;rw [length_cons, Nat.succ_mul]; omega
theorem nZ : ∀ (k : Nat) (t : Ty), tn t ≤ k → wfS t = true → fvm t ≤ 400000000 → aU Tryz.prog 63 [tyV t] [] (bU (tfR t)) []
 | 0, t, h, _, _ => by have := mE t; omega
 | k + 1, t, h, hw, hf => by
  obtain ⟨f, n, s, a⟩ := t;obtain ⟨h1, h2, _⟩ := qL hw;have hu : ∀ u ∈ a, (tfR u).length ≤ 400000000 := fun u hu => le_trans (nO u) (le_trans (wG hu) hf)
  refine nY (.mk f n s a) (show a.length ≤ _ by omega) (fun i => ?_) (fun u hu' => le_trans (hu u hu') (by decide)) fun u hu' => ?_
  ·have h3 := aH3 (f := f) (s := s) (l := a.take i) (o := []) fun u hu' => hu u (mem_of_mem_take hu')
   rw [length_take, length_nil] at h3;have h4 : min i a.length * 400000000 ≤ 2 * 400000000 := mul_le_mul_right _ (by omega);show (tfL f s (a.take i) []).length ≤ _;omega
  ·have hu' : u ∈ a := hu';exact nZ k u (by have := mM hu'; rw [tn] at h; omega) (h2 u hu') (le_trans (wG hu') hf)
def fw (t : Ty) : Nat := if wfS t = true ∧ fvm t ≤ tn t then fvm t else tn t
theorem aV6 (t : Ty) : (tfR t).length ≤ fw t := by
 unfold fw; split
 ·exact nO t
 ·exact aHy t
theorem aQf {t : Ty} (h : wfS t = true) : fw t ≤ fvm t := by
 unfold fw; split
 ·exact le_refl _
 ·rename_i h';have : ¬ fvm t ≤ tn t := fun hh => h' ⟨h, hh⟩
  omega
theorem aE7 (t : Ty) (h : fw t ≤ 400000000) : aU Tryz.prog 63 [tyV t] [] (bU (tfR t)) [] := by
 unfold fw at h;split at h
 ·rename_i h';exact nZ (tn t) t (le_refl _) h'.1 h
 ·exact aE6 (tn t) t (le_refl _) (by omega)
end Go.Proofs.YtmoekkcdkjopgaaGreatDoor
namespace Go.AM
open Go
theorem aWb : ∀ m : _root_.Fin 128, Utf8.encode ((m.val : Nat) : Int) = ⟨⟨[UInt8.ofNat m.val]⟩⟩ := by decide +kernel
section
variable {P : Program} {T : TT} {n : Nat} {o : Oper} {st : St} {d : Nat}
theorem aRv {src dst : TypeId} {i j : TI} {x : Operand} {k : IntKind} {m : Nat} (hm : m < 128) (hT : Tok P T) (ho : o.op = .convert src dst x) (hd : o.dst = some d) (hdn : d < n) (hi : T[src]? = some (some i)) (hik : i.k = .int k) (hj : T[dst]? = some (some j)) (hjk : j.k = .str)
  (hx : opv st x = some (I k (m : Int))) : Step P n o st ⟨opr x, []⟩ ⟨some (d, some (Go.AM.T [UInt8.ofNat m])), []⟩ := by
 refine Step.value hd hdn fun st' ha G S μ a w hs => ?_
 have hv := fD (aO hs hx ha.1);refine ⟨.string ⟨⟨[UInt8.ofNat m]⟩⟩, ?_, by simp [aW, b9, Rep]⟩;have h1 := (hT.get hi).int hik;have h2 := (hT.get hj).str hjk;have h3 := run_convert_int_string (P := P) w src dst k (m : Int) (by rw [h1]; rfl) h2;rw [aWb ⟨m, hm⟩] at h3;simp only [execOp, ho, hv, Sem.run_bind, h3, Result.andThen_ok, Sem.run_pure]
end
section
variable {P : Program} {n : Nat} {ops : Array Oper} {draw : Bool} {k d : Nat} {st : St} {pre : REs} {Q : St → Prop} {o : Oper}
theorem kr {tr : Tr} {src dst : TypeId} {i j : TI} {x : Operand} {kk : IntKind} (m : Nat) (hm : m < 128) (hT : Tok P tr.flat)
  (hk : mA P n ops draw (k + 1) ⟨upd st.e d (some (Go.AM.T [UInt8.ofNat m])), st.h, st.d⟩ ((⟨opr x, []⟩, ⟨some (d, some (Go.AM.T [UInt8.ofNat m])), []⟩) :: pre) Q) (hw : tr.wf = true)
  (ho : ops[k]? = some o := by rfl) (hg : o.guard = none := by rfl) (hop : o.op = .convert src dst x := by rfl) (hd : o.dst = some d := by rfl) (hdn : Nat.blt d n = true := by rfl) (hi : tr.get src = some i := by rfl) (hik : i.k = .int kk := by rfl) (hj : tr.get dst = some j := by rfl) (hjk : j.k = .str := by rfl) (hx : opv st x = some (I kk (m : Int)) := by first | rfl | assumption) : mA P n ops draw k st pre Q :=
 k_ (g_ ho hg (aRv hm hT hop hd (kX hdn) (Tr.get_ok hw hi) hik (Tr.get_ok hw hj) hjk hx)) hk
end
end Go.AM
namespace Go.Proofs.YtmoekkcdkjopgaaGreatDoor
open Go Go.AM
set_option maxRecDepth 20000
def bR (n : Nat) : Str := if n < 26 then [UInt8.ofNat (97 + n % 26)] else [UInt8.ofNat (97 + n % 26)] ++ Lib.decDigits (n / 26)
theorem wrap_small (m : Nat) (h : m < 128) : IntKind.i32.wrap (m : Int) = (m : Int) := by
 have : ∀ m : _root_.Fin 128, IntKind.i32.wrap ((m.val : Nat) : Int) = ((m.val : Nat) : Int) := by decide +kernel
 exact this ⟨m, h⟩
theorem aB0 (n : Nat) (h : n ≤ 600000000000) : (Lib.decDigits n).length ≤ 20 := by
 rw [Lib.decDigits_length];by_cases h0 : n = 0
 ·subst h0; decide +kernel
 ·have := Lib.numDigits_eq n (by omega) (by omega);split at this <;> omega
theorem zE (n : Nat) (hn : n ≤ 600000000000) (hI : 26 ≤ n → aU Tryz.prog 181 [I .i64 ((n / 26 : Nat) : Int)] [] (Go.AM.T (Lib.decDigits (n / 26))) []) : aU Tryz.prog 172 [I .i64 n] [] (Go.AM.T (bR n)) [] := by
 have hr : (97 : Int) + (n : Int) % 26 = ((97 + n % 26 : Nat) : Int) := by omega
 refine bT (n := 17) tok Tryz.func172 rfl rfl rfl ?_;refine a8 (ag [] rfl ?_);refine a8 (aE mixed ?_);refine ak 4 [] rfl ?_ (hc := by repeat (first | exact trivial | refine ⟨by first | rfl | omega, ?_⟩))
 refine kr (97 + n % 26) (by omega) tok ?_ trw (hx := by
  show some (I .i32 (IntKind.i32.wrap (97 + (n : Int) % 26))) = some (I .i32 ((97 + n % 26 : Nat) : Int))
  rw [hr, wrap_small _ (by omega)])
 refine ak 1 [] rfl ?_;refine az ?_;refine a8 (a8 (ag [] rfl ?_));refine aA rfl (fun hb => ?_) (fun hb => ?_)
 ·have h : n < 26 := by have := of_decide_eq_true hb; omega
  unfold bR;rw [if_pos h];refine a8 (ag [] rfl ?_);exact aI rtT
 ·have h : ¬ n < 26 := by have := of_decide_eq_false hb; omega
  have hI := hI (by omega);have hM : 600000000000 ≤ maxLen := by decide
  have hdl := aB0 (n / 26) (by omega);have hd : (n : Int) / 26 = ((n / 26 : Nat) : Int) := by omega
  unfold bR;rw [if_neg h];refine aD ?_;refine a8 (aE mixed ?_);refine ak 3 [] rfl ?_ (hc := by repeat (first | exact trivial | refine ⟨by first | rfl | omega | decide, ?_⟩));rw [← hd] at hI;refine kc hI ?_;refine ak 2 [] rfl ?_ (hc := by repeat (first | exact trivial | refine ⟨by first | rfl | omega | (simp; omega), ?_⟩));refine az ?_;exact aI rtT
theorem qH {a b : Nat} (ha : a < 256) (hb : b < 256) (h : UInt8.ofNat a = UInt8.ofNat b) : a = b := by
 have := congrArg UInt8.toNat h;simp only [UInt8.toNat_ofNat'] at this;omega
theorem aE2 (n : Nat) : 1 ≤ (Lib.decDigits n).length := by
 rw [Lib.decDigits]; split <;> simp
theorem aQj : ∀ (n m : Nat), Lib.decDigits n = Lib.decDigits m → n = m := by
 intro n
 induction n using Nat.strongRecOn with
 | _ n ih =>
  intro m h;rw [Lib.decDigits, Lib.decDigits.eq_1 m] at h;split at h <;> split at h
  ·simp only [List.cons.injEq, and_true] at h;have := qH (by omega) (by omega) h;omega
  ·have := congrArg List.length h;have hp := aE2 (m / 10);simp only [length_append, length_cons, length_nil] at this;omega
  ·have := congrArg List.length h;have hp := aE2 (n / 10);simp only [length_append, length_cons, length_nil] at this;omega
  ·have h1 := List.append_inj' h rfl;have h2 := ih (n / 10) (by omega) (m / 10) h1.1;have h3 := h1.2;simp only [List.cons.injEq, and_true] at h3;have := qH (by omega) (by omega) h3;omega
theorem aBp (n m : Nat) (h : bR n = bR m) : n = m := by
 unfold bR at h;split at h <;> split at h
 ·simp only [List.cons.injEq, and_true] at h;have := qH (by omega) (by omega) h;omega
 ·have := congrArg List.length h;have hp := aE2 (m / 26);simp only [length_append, length_cons, length_nil] at this;omega
 ·have := congrArg List.length h;have hp := aE2 (n / 26);simp only [length_append, length_cons, length_nil] at this;omega
 ·simp only [cons_append, nil_append, List.cons.injEq] at h;have h1 := qH (by omega) (by omega) h.1;have h2 := aQj _ _ h.2;omega
theorem aOb (l : List Str) : ∃ n, n ≤ l.length ∧ ¬ bR n ∈ l := by
 refine Classical.byContradiction fun hno => ?_
 have hall : ∀ n, n ≤ l.length → bR n ∈ l := fun n hn => Classical.byContradiction fun h => hno ⟨n, hn, h⟩
 have hnd : ((List.range (l.length + 1)).map bR).Nodup := by
  rw [List.Nodup, List.pairwise_map];exact List.Pairwise.imp (fun h e => h (aBp _ _ e)) List.nodup_range
 have hsub : ∀ x ∈ (List.range (l.length + 1)).map bR, x ∈ l := fun x hx => by
  obtain ⟨i, hi, rfl⟩ := mem_map.1 hx;exact hall i (by have := mem_range.1 hi; omega)
 have key : ∀ (a b : List Str), a.Nodup → (∀ x ∈ a, x ∈ b) → a.length ≤ b.length := by
  intro a
  induction a with
  | nil => intro b _ _; simp
  | cons x a ih =>
   intro b hn hs;rw [nodup_cons] at hn;have h1 := ih (b.erase x) hn.2 fun y hy => (List.mem_erase_of_ne (by rintro rfl; exact hn.1 hy)).2 (hs y (mem_cons_of_mem _ hy))
   have hx := hs x mem_cons_self;rw [List.length_erase_of_mem hx] at h1;have := List.length_pos_of_mem hx;rw [length_cons]; omega
 have := key _ _ hnd hsub;rw [length_map, List.length_range] at this;omega
theorem jP (l : List Str) : ∃ n, n ≤ l.length ∧ ¬ bR n ∈ l ∧ ∀ m, m < n → bR m ∈ l := by
 have key : ∀ k : Nat, (∃ n, n ≤ k ∧ ¬ bR n ∈ l) → ∃ n, n ≤ k ∧ ¬ bR n ∈ l ∧ ∀ m, m < n → bR m ∈ l := by
  intro k
  induction k with
  | zero =>
   rintro ⟨n, hn, h⟩;exact ⟨n, hn, h, fun m hm => by omega⟩
  | succ k ih =>
   rintro ⟨n, hn, h⟩;by_cases hk : ∃ n, n ≤ k ∧ ¬ bR n ∈ l
   ·obtain ⟨m, h1, h2, h3⟩ := ih hk;exact ⟨m, by omega, h2, h3⟩
   ·have hnk : n = k + 1 := by
     by_cases h1 : n ≤ k
     ·exact absurd ⟨n, h1, h⟩ hk
     ·omega
    exact ⟨n, hn, h, fun m hm => Classical.byContradiction fun hm' => hk ⟨m, by omega, hm'⟩⟩
 exact key l.length (aOb l)
noncomputable def iZ (l : List Str) : Nat := Classical.choose (jP l)
noncomputable def b8 (l : List Str) : Str := bR (iZ l)
theorem rM (l : List Str) : iZ l ≤ l.length := (Classical.choose_spec (jP l)).1
theorem oK (l : List Str) : ¬ bR (iZ l) ∈ l := (Classical.choose_spec (jP l)).2.1
theorem yR (l : List Str) {m : Nat} (h : m < iZ l) : bR m ∈ l := (Classical.choose_spec (jP l)).2.2 m h
theorem wW (l : List Str) (hl : l.length ≤ 570000000000) (hI : ∀ k, k ≤ l.length → aU Tryz.prog 181 [I .i64 (k : Int)] [] (Go.AM.T (Lib.decDigits k)) []) : aU Tryz.prog 125 [bU l] [] (Go.AM.T (b8 l)) [] := by
 have hf := rM l;refine bT (n := 12) tok Tryz.func125 rfl rfl rfl ?_;refine a8 (ag [] rfl ?_);refine a8 (ag [] rfl ?_);refine a8 (aB (aL (fun n : Nat => mk [(0, bU l), (3, I .i64 n)] []) (fun n => n ≤ iZ l) (fun n => iZ l - n) 0 (zero_le _) sl ?_));intro n hn;have hcl := zE n (by omega) fun h => hI (n / 26) (by omega)
 have hct := bW l (bR n) (by omega);refine a8 (a8 (aE mixed ?_));refine ak 2 [] rfl ?_;refine kc hcl ?_;refine kc hct ?_;refine az ?_;refine aA rfl (fun hb => ?_) (fun hb => ?_)
 ·have hm : bR n ∈ l := of_decide_eq_true hb;have hne : n ≠ iZ l := by rintro rfl; exact oK l hm
  refine aD ?_;refine aB (ag [] rfl ?_ (hc := by repeat (first | exact trivial | refine ⟨by omega, ?_⟩)));exact ⟨n + 1, by omega, by dsimp only; omega, sl⟩
 ·have hm : ¬ bR n ∈ l := of_decide_eq_false hb;have he : n = iZ l := by
   by_cases h : n < iZ l
   ·exact absurd (yR l h) hm
   ·omega
  refine aM ?_;refine a8 (aE mixed ?_);refine ak 1 [] rfl ?_;refine kc hcl ?_;refine ak 1 [] rfl ?_;refine az ?_;unfold b8;rw [← he];exact aI rtT
abbrev dR (m : Nat) : Prop := ∀ k, k ≤ m → aU Tryz.prog 181 [I .i64 (k : Int)] [] (Go.AM.T (Lib.decDigits k)) []
theorem aOr (l : List Str) (hl : l.length ≤ 570000000000) (hI : dR l.length) : aU Tryz.prog 173 [bU l] [] (Go.AM.T (b8 l)) [] := by
 have hf := rM l;have hkl : (l.map bN).length = l.length := length_map _;refine bT (n := 19) tok Tryz.func173 rfl rfl rfl ?_;refine a8 (ag [] rfl ?_);refine a8 (a8 (agN [] rfl ?_ (hc := ⟨by show (l.map bN).length + 1 ≤ 9223372036854775807; omega, trivial⟩)));refine aB (aL (fun n : Nat => mk [(0, bU l), (7, I .i64 (((l.map bN).length + 1 : Nat) : Int)), (8, I .i64 n)] []) (fun n => n ≤ iZ l) (fun n => iZ l - n) 0 (zero_le _) sl ?_);intro n hn;have hcl := zE n (by omega) fun h => hI (n / 26) (by omega)
 have hct := bW l (bR n) (by omega);refine a8 (ag [] rfl ?_);refine a8 (aA rfl (fun hb => ?_) (fun hb => ?_))
 ·refine aD ?_;refine a8 (aB (a8 (ag [] rfl ?_)));refine a8 (aE mixed ?_);refine ak 1 [] rfl ?_;refine kc hcl ?_;refine ak 1 [] rfl ?_;refine az ?_;refine a8 (aE mixed ?_);refine ak 2 [] rfl ?_;refine kc hct ?_;refine ak 1 [] rfl ?_;refine az ?_;refine aA rfl (fun hb => ?_) (fun hb => ?_)
  ·have hm : ¬ bR n ∈ l := by simpa using hb
   have he : n = iZ l := by
    by_cases h : n < iZ l
    ·exact absurd (yR l h) hm
    ·omega
   refine a8 (ag [] rfl ?_);unfold b8;rw [← he];exact aI rtT
  ·have hm : bR n ∈ l := by simpa using hb
   have hne : n ≠ iZ l := by rintro rfl; exact oK l hm
   refine aD ?_;refine ag [] rfl ?_ (hc := by repeat (first | exact trivial | refine ⟨by omega, ?_⟩));exact ⟨n + 1, by omega, by dsimp only; omega, sl⟩
 ·exfalso;have := of_decide_eq_false hb;omega
theorem aSy (s : Str) (t : Ty) (ho : aU Tryz.prog 126 [tyV t] [] (tyV t) []) : aU Tryz.prog 174 [Go.AM.T s, tyV t] [] (tyV (.mk 5 0 s [t])) [] := by
 refine bT (n := 10) tok Tryz.func174 rfl rfl rfl ?_;refine a8 (ag [] rfl ?_);refine a8 (aE mixed ?_);refine ak 2 [] rfl ?_;refine kc ho ?_;refine ak 3 [(3, .all)] rfl ?_;refine az ?_;exact aI (rtC trw)
end Go.Proofs.YtmoekkcdkjopgaaGreatDoor
