/-
  Texts La22 to La30 in one.
-/
import Derived.Test.YtlegeikmepnmcaaDoorM7
open List (all_eq_true append_assoc append_nil cons_append count_le_length drop_eq_getElem_cons drop_eq_nil_of_le drop_length drop_zero length_append length_cons length_drop length_map length_singleton length_take map_append map_cons mem_append mem_cons mem_cons_of_mem mem_cons_self mem_map mem_singleton nil_append nodup_append nodup_nil range_succ take_length take_of_length_le take_succ_cons take_zero)
open Nat (add_zero le_add_right le_refl min_eq_left sub_self zero_add zero_le)
namespace Go.Proofs.YtlegeikmepnmcaaDoor
open Go Go.AM Go.Shelf
set_option maxRecDepth 20000
theorem jB (l : List (List C)) (h : l.length ≤ 1000000) : bN Tryd.prog 58 [.one (.c (.sl 1 l))] [] (.one (.hs 710 0 l.length l.length)) [(710, .arr 9 1 l 0)] := by
 refine cT (n := 8) tok Tryd.func58 rfl rfl rfl ?_;refine a8 (ag [] rfl ?_);refine wV 0 rfl (fun hl => ?_) ?_
 ·subst hl;refine a8 (a8 (ag [] rfl ?_));refine aA rfl (fun _ => ?_) (fun hb => by cases hb);refine a8 (ag [] rfl ?_);refine AWp.sub (Sub.own (t := 2) (id := 710) 9 1 rfl rfl) ?_;exact aF rtT
 ·refine a8 (a8 (ag [] rfl ?_));refine aA rfl (fun hb => by cases hb) (fun _ => ?_);refine aD ?_;refine a8 (ag [(0, .id 710)] rfl ?_);refine AWp.sub (st2 := mk [(2, .one (.hs 710 0 l.length l.length))] [(710, .arr 9 1 l 0)]) sl ?_;exact aF rtT
theorem pZ (l : List (List C)) (h : l.length ≤ 1000000) : bN Tryd.prog 62 [.one (.c (.sl 15 l))] [] (.one (.hs 701 0 l.length l.length)) [(701, .arr 46 15 l 0)] := by
 refine cT (n := 8) tok Tryd.func62 rfl rfl rfl ?_;refine a8 (ag [] rfl ?_);refine wV 0 rfl (fun hl => ?_) ?_
 ·subst hl;refine a8 (a8 (ag [] rfl ?_));refine aA rfl (fun _ => ?_) (fun hb => by cases hb);refine a8 (ag [] rfl ?_);refine AWp.sub (Sub.own (t := 2) (id := 701) 46 15 rfl rfl) ?_;exact aF rtT
 ·refine a8 (a8 (ag [] rfl ?_));refine aA rfl (fun hb => by cases hb) (fun _ => ?_);refine aD ?_;refine a8 (ag [(0, .id 701)] rfl ?_);refine AWp.sub (st2 := mk [(2, .one (.hs 701 0 l.length l.length))] [(701, .arr 46 15 l 0)]) sl ?_;exact aF rtT
theorem pY (l : List (List C)) (h : l.length ≤ 1000000) : bN Tryd.prog 63 [.one (.c (.sl 10 l))] [] (.one (.hs 702 0 l.length l.length)) [(702, .arr 38 10 l 0)] := by
 refine cT (n := 8) tok Tryd.func63 rfl rfl rfl ?_;refine a8 (ag [] rfl ?_);refine wV 0 rfl (fun hl => ?_) ?_
 ·subst hl;refine a8 (a8 (ag [] rfl ?_));refine aA rfl (fun _ => ?_) (fun hb => by cases hb);refine a8 (ag [] rfl ?_);refine AWp.sub (Sub.own (t := 2) (id := 702) 38 10 rfl rfl) ?_;exact aF rtT
 ·refine a8 (a8 (ag [] rfl ?_));refine aA rfl (fun hb => by cases hb) (fun _ => ?_);refine aD ?_;refine a8 (ag [(0, .id 702)] rfl ?_);refine AWp.sub (st2 := mk [(2, .one (.hs 702 0 l.length l.length))] [(702, .arr 38 10 l 0)]) sl ?_;exact aF rtT
theorem sR (l : List (List C)) (h : l.length ≤ 1000000) : bN Tryd.prog 64 [.one (.c (.sl 14 l))] [] (.one (.hs 703 0 l.length l.length)) [(703, .arr 65 14 l 0)] := by
 refine cT (n := 8) tok Tryd.func64 rfl rfl rfl ?_;refine a8 (ag [] rfl ?_);refine wV 0 rfl (fun hl => ?_) ?_
 ·subst hl;refine a8 (a8 (ag [] rfl ?_));refine aA rfl (fun _ => ?_) (fun hb => by cases hb);refine a8 (ag [] rfl ?_);refine AWp.sub (Sub.own (t := 2) (id := 703) 65 14 rfl rfl) ?_;exact aF rtT
 ·refine a8 (a8 (ag [] rfl ?_));refine aA rfl (fun hb => by cases hb) (fun _ => ?_);refine aD ?_;refine a8 (ag [(0, .id 703)] rfl ?_);refine AWp.sub (st2 := mk [(2, .one (.hs 703 0 l.length l.length))] [(703, .arr 65 14 l 0)]) sl ?_;exact aF rtT
def aBx (s : Str) : List Str → Int → Int
 | [], _ => -1
 | x :: l, k => if s = x then k else aBx s l (k + 1)
theorem wC (s : Str) : ∀ (l : List Str) (k : Int), 0 ≤ k → (decide (0 ≤ aBx s l k) = decide (s ∈ l))
 | [], k, _ => by simp [aBx]
 | x :: l, k, hk => by
  rw [aBx];split
  ·rename_i h; subst h; simp [hk]
  ·rename_i h; rw [wC s l (k + 1) (by omega)]; simp [h]
theorem aFz (l : List Str) (s : Str) (h : l.length ≤ 8000000) : bN Tryd.prog 71 [b7 l, Go.AM.T s] [] (I .i64 (aBx s l 0)) [] := by
 refine cT (n := 19) tok Tryd.func71 rfl rfl rfl ?_;refine a8 (ag [] rfl ?_);refine a8 (a8 (ag [] rfl ?_));have hka : (l.map bF).length = l.length := length_map _;refine aB ?_;refine aL (fun i : Nat => mk [(0, b7 l), (1, Go.AM.T s), (7, I .i64 ((l.map bF).length : Int)), (8, I .i64 i)] []) (fun i => i ≤ l.length ∧ aBx s l 0 = aBx s (l.drop i) i) (fun i => l.length - i) 0 ⟨zero_le _, rfl⟩ sl ?_;intro i ⟨hi, he⟩;refine a8 (ag [] rfl ?_);refine a8 (aA rfl (fun hb => ?_) (fun hb => ?_))
 ·have hlt := ltD hb hka;obtain ⟨x, hx⟩ := aI hlt;have hx' := c6 bF hx;have hd : l.drop i = x :: l.drop (i + 1) := by rw [drop_eq_getElem_cons hlt, (List.getElem?_eq_some_iff.1 hx).2]
  rw [hd, aBx] at he;refine aD ?_;refine a8 (aB ?_);refine a8 (ag [] rfl ?_);refine a8 (ag [(3, .row i (bF x))] rfl ?_);refine aA rfl (fun hb => ?_) (fun hb => ?_)
  ·have hs : s = x := of_decide_eq_true hb;rw [if_pos hs] at he;rw [he];refine a8 (ag [] rfl ?_);exact aF rtT
  ·have hs : ¬ s = x := of_decide_eq_false hb;rw [if_neg hs] at he;refine aD ?_;refine ag [] rfl ?_;exact ⟨i + 1, ⟨hlt, he⟩, by dsimp only; omega, sl⟩
 ·have hge := geD hb hka hi;subst hge;rw [drop_length, aBx] at he;rw [he];refine aM ?_;refine a8 (ag [] rfl ?_);exact aF rtT
theorem oN (l : List Str) (s : Str) (h : l.length ≤ 8000000) : bN Tryd.prog 59 [b7 l, Go.AM.T s] [] (B (decide (s ∈ l))) [] := by
 have hi := aFz l s h;refine cT (n := 9) tok Tryd.func59 rfl rfl rfl ?_;refine a8 (ag [] rfl ?_);refine a8 (ag [(2, .pc (I .i64 (aBx s l 0)))] rfl ?_);rw [← wC s l 0 (by omega)];exact aF rtT
def gr : Ren := ⟨fun f => if f = 4 then 73 else f, fun t => if t = 22 then 31 else if t = 25 then 9 else t, fun g => g⟩
theorem gl : Lays8.n4 Tryd.prog gr where
 mixed := mixed
 f4 := ⟨Tryd.f73.name, by kernel_rfl, by kernel_rfl⟩
 t0 := by kernel_rfl
 a0 := fun w => by kernel_rfl
 z0 := fun w => by kernel_rfl
 v0 := fun w => by kernel_rfl
 t3 := by kernel_rfl
 a3 := fun w => by kernel_rfl
 z3 := fun w => by kernel_rfl
 v3 := fun w => by kernel_rfl
 t4 := by kernel_rfl
 a4 := fun w => by kernel_rfl
 z4 := fun w => by kernel_rfl
 v4 := fun w => by kernel_rfl
 t9 := by kernel_rfl
 a9 := fun w => by kernel_rfl
 z9 := fun w => by kernel_rfl
 v9 := fun w => by kernel_rfl
 t20 := by kernel_rfl
 a20 := fun w => by kernel_rfl
 z20 := fun w => by kernel_rfl
 v20 := fun w => by kernel_rfl
 t22 := by kernel_rfl
 a22 := fun w => by kernel_rfl
 z22 := fun w => by kernel_rfl
 v22 := fun w => by kernel_rfl
theorem aHw (k : Nat) (h : k ≤ 4000000) : bN Tryd.prog 73 [.one (.c .nl), I .i64 (k : Int)] [] (.one (.hs 720 0 0 0)) [(720, .arr 9 1 [] 0)] :=
 aC1 (ρ := gr) (ei := ⟨.str, 1, 16, [.str []]⟩) gl tok (tg rfl) rfl k (by show k * 16 ≤ _; omega) (by omega)
theorem wQ (a b : List Str) (h : a.length + b.length ≤ 4000000) : bN Tryd.prog 65 [.one (.c (.sl 1 [[.sl 1 (a.map bF)], [.sl 1 (b.map bF)]]))] [] (b7 (a ++ b)) [] := by
 have hg := aHw (a.length + b.length) h;have hla : (a.map bF).length = a.length := length_map _;have hlb : (b.map bF).length = b.length := length_map _;refine cT (n := 36) tok Tryd.func65 rfl rfl rfl ?_;refine a8 (ag [] rfl ?_);refine a8 (ag [] rfl ?_);refine a8 (a8 (ag [] rfl ?_));refine aB ?_;refine aL (fun i : Nat => mk [(0, .one (.c (.sl 1 [[.sl 1 (a.map bF)], [.sl 1 (b.map bF)]]))), (3, I .i64 ((if i = 0 then 0 else if i = 1 then a.length else a.length + b.length : Nat) : Int)), (9, .one (.c (.sl 1 [[.sl 1 (a.map bF)], [.sl 1 (b.map bF)]]))), (10, I .i64 2), (11, I .i64 i)] []) (fun i => i ≤ 2) (fun i => 2 - i) 0 (zero_le _) sl ?_;intro i hi;refine a8 (ag [] rfl ?_);refine a8 (aA rfl (fun hb => ?_) (fun hb => ?_))
 ·have hlt : i < 2 := by
   have : (i : Int) < 2 := of_decide_eq_true hb;omega
  refine aD ?_;refine a8 (aB ?_);have hi2 : i = 0 ∨ i = 1 := by omega
  rcases hi2 with rfl | rfl
  ·refine a8 (ag [] rfl ?_);refine a8 (agN [] rfl ?_);refine a8 (ag [] rfl ?_);refine aA rfl (fun hb => ?_) (fun _ => ?_)
   ·exfalso;have : ((0 + (a.map bF).length : Nat) : Int) < 0 := of_decide_eq_true hb;omega
   refine aD ?_;refine ag [] rfl ?_;refine ⟨1, by omega, by dsimp only; omega, sl (he := ⟨rfl, ?_, rfl, rfl, rfl, trivial⟩)⟩;show some (I .i64 ((0 + (a.map bF).length : Nat) : Int)) = some (I .i64 ((a.length : Nat) : Int));rw [hla, zero_add]
  ·refine a8 (ag [] rfl ?_);refine a8 (agN [] rfl ?_);refine a8 (ag [] rfl ?_);refine aA rfl (fun hb => ?_) (fun _ => ?_)
   ·exfalso;have : ((a.length + (b.map bF).length : Nat) : Int) < 0 := of_decide_eq_true hb;omega
   refine aD ?_;refine ag [] rfl ?_;refine ⟨2, by omega, by dsimp only; omega, sl (he := ⟨rfl, ?_, rfl, rfl, rfl, trivial⟩)⟩;show some (I .i64 ((a.length + (b.map bF).length : Nat) : Int)) = some (I .i64 ((a.length + b.length : Nat) : Int));rw [hlb]
 have hge : i = 2 := by
  have : ¬ (i : Int) < 2 := of_decide_eq_false hb;omega
 subst hge;refine aM ?_;refine a8 (aJ mixed ?_);refine ak 1 [] rfl ?_;refine kc hg ?_;refine ak 1 [] rfl ?_;refine az ?_;refine a8 (a8 (ag [] rfl ?_));refine aB ?_;refine aL (fun i : Nat => mk [(6, .one (.hs 720 0 (if i = 0 then 0 else if i = 1 then a.length else a.length + b.length) (if i = 0 then 0 else if i = 1 then a.length else a.length + b.length))), (25, .one (.c (.sl 1 [[.sl 1 (a.map bF)], [.sl 1 (b.map bF)]]))), (26, I .i64 2), (27, I .i64 i)] [(720, .arr 9 1 (if i = 0 then [] else if i = 1 then a.map bF else a.map bF ++ b.map bF) 0)]) (fun i => i ≤ 2) (fun i => 2 - i) 0 (zero_le _) sl ?_;intro i hi;refine a8 (ag [] rfl ?_);refine a8 (aA rfl (fun hb => ?_) (fun hb => ?_))
 ·have hlt : i < 2 := by
   have : (i : Int) < 2 := of_decide_eq_true hb;omega
  refine aD ?_;refine a8 (aB ?_);have hi2 : i = 0 ∨ i = 1 := by omega
  rcases hi2 with rfl | rfl
  ·refine a8 (ag [] rfl ?_);refine ag [] rfl ?_;refine ag [] rfl ?_;exact ⟨1, by omega, by dsimp only; omega, sl⟩
  ·refine a8 (ag [] rfl ?_);refine ag [] rfl ?_;refine ag [] rfl ?_;exact ⟨2, by omega, by dsimp only; omega, sl⟩
 have hge : i = 2 := by
  have : ¬ (i : Int) < 2 := of_decide_eq_false hb;omega
 subst hge;refine aM ?_;refine a8 (ag [] rfl ?_);refine AWp.sub (Sub.freeze (id := 720) rfl) ?_;exact aF (rtT (hc := hs_all rfl rfl (by simp) (by simp)))
def smalls : Str := [48, 49, 50, 51, 52, 53, 54, 55, 56, 57, 97, 98, 99, 100, 101, 102, 103, 104, 105, 106, 107, 108, 109, 110, 111, 112, 113, 114, 115, 116, 117, 118, 119, 120, 121, 122]
def aI0 : Str := (List.range 100).flatMap fun k => [UInt8.ofNat (48 + k / 10), UInt8.ofNat (48 + k % 10)]
theorem aGq : ∀ k : Fin 10, ((smalls.take (k.val + 1)).drop k.val) = dec k.val := by decide
theorem aGp : ∀ k : Fin 100, 10 ≤ k.val → ((aI0.take (k.val * 2 + 2)).drop (k.val * 2)) = dec k.val := by decide
theorem aEh (k : Nat) (h : k < 100) : bN Tryd.prog 60 [I .i64 (k : Int)] [] (Go.AM.T (dec k)) [] := by
 have h1 : bN Tryd.prog 77 [I .i64 (k : Int)] [] (Go.AM.T (dec k)) [] := by
  refine cT (n := 15) tok Tryd.func77 rfl rfl rfl ?_;refine a8 (ag [] rfl ?_);refine a8 (a8 (ag [] rfl ?_));refine aA rfl (fun hb => ?_) (fun hb => ?_)
  ·have hk : k < 10 := by
    have : (k : Int) < 10 := of_decide_eq_true hb;omega
   rw [← aGq ⟨k, hk⟩];refine a8 (agN [] rfl ?_ (hc := ⟨by show k + 1 ≤ 36; omega, by show k ≤ k + 1; omega, by show k + 1 ≤ 9223372036854775807; omega, trivial⟩));exact aF rtT
  ·have hk : 10 ≤ k := by
    have : ¬ (k : Int) < 10 := of_decide_eq_false hb;omega
   rw [← aGp ⟨k, h⟩ hk];refine aD ?_;refine a8 (agN [] rfl ?_ (hc := ⟨by show k * 2 + 2 ≤ 200; omega, by show k * 2 ≤ k * 2 + 2; omega, by show k * 2 + 2 ≤ 9223372036854775807; omega, by show k * 2 ≤ 9223372036854775807; omega, by show k * 2 ≤ 9223372036854775807; omega, trivial⟩));exact aF rtT
 have h2 : bN Tryd.prog 76 [I .i64 (k : Int), I .i64 10] [] (Go.AM.T (dec k)) [] := by
  refine cT (n := 54) tok Tryd.func76 rfl rfl rfl ?_;refine a8 (ag [] rfl ?_);refine a8 (a8 (ag [] rfl ?_));refine aA rfl (fun _ => ?_) (fun hb => by cases hb);refine a8 (a8 (agF 3 [] rfl rfl rfl ?_));refine aA rfl (fun hb => ?_) (fun hb => ?_)
  ·refine a8 (ag [(1, .pc (Go.AM.T (dec k)))] rfl ?_);exact aF rtT
  ·exfalso;have h3 : (0 : Int) ≤ (k : Int) := by omega
   have h4 : (k : Int) < 100 := by omega
   simp [h3, h4] at hb
 have h3 : bN Tryd.prog 72 [I .i64 (k : Int)] [] (Go.AM.T (dec k)) [] := by
  refine cT (n := 5) tok Tryd.func72 rfl rfl rfl ?_;refine a8 (ag [] rfl ?_);refine a8 (ag [(1, .pc (Go.AM.T (dec k)))] rfl ?_);exact aF rtT
 refine cT (n := 5) tok Tryd.func60 rfl rfl rfl ?_;refine a8 (ag [] rfl ?_);refine a8 (ag [(1, .pc (Go.AM.T (dec k)))] rfl ?_);exact aF rtT
end Go.Proofs.YtlegeikmepnmcaaDoor
namespace Go.Proofs.YtlegeikmepnmcaaDoor
open Go Go.AM
set_option maxRecDepth 20000
theorem wN (c : Core) (hl : lP c = true) (hs : aG c ≤ 4000000) : bN Tryd.prog 35 [.pa (aE c)] [] (.tup [b7 (aW c), .pa (aE (bJ c))]) [] := by
 refine cT (n := 19) tok Tryd.func35 rfl rfl rfl ?_;refine a8 (ag [] rfl ?_);refine a8 (ag [] rfl ?_);refine AWp.sub (Sub.own (t := 4) (id := 500) 9 1 rfl rfl) ?_;refine a8 (aB ?_);refine aL (fun x : List Str × Core => mk [(1, .one (.vp 1 0)), (3, .one (.vp 3 0)), (4, .one (.hs 500 0 x.1.length x.1.length))] [(1, .var 38 (bT x.2)), (3, .var 38 hY), (500, .arr 9 1 (x.1.map bF) 0)]) (fun x => lP x.2 = true ∧ aW c = x.1 ++ aW x.2 ∧ bJ c = bJ x.2 ∧ x.1.length + aG x.2 ≤ aG c) (fun x => aG x.2) ([], c) ⟨hl, rfl, rfl, by simp⟩ sl ?_;rintro ⟨pre, f, n, s, t, ks, bs, al⟩ ⟨h1, h2, h3, h4⟩;dsimp only at h1 h2 h3 h4 ⊢;refine a8 (a8 (ag [] rfl ?_));refine aA rfl (fun hb => ?_) (fun hb => ?_)
 ·have hf : f = 5 := of_decide_eq_true hb;refine aD ?_;cases ks with
  | nil => simp [lP, hf] at h1
  | cons k ks =>
   rw [lP, if_pos hf] at h1;rw [aW, if_pos hf, cM] at h2;rw [bJ, if_pos hf, l5] at h3;rw [aG, bA] at h4;refine a8 (aB ?_);refine ag [] rfl ?_;refine ag [(2, .row 0 (aE k))] rfl ?_;refine ⟨(pre ++ [s], k), ⟨h1, by rw [h2]; simp, h3, by simp; omega⟩, by dsimp only; rw [aG, bA]; omega, sl⟩
 ·have hf : ¬ f = 5 := of_decide_eq_false hb;rw [aW, if_neg hf, append_nil] at h2;rw [bJ, if_neg hf] at h3;rw [h2, h3];refine aM ?_;refine a8 (ag [] rfl ?_);refine AWp.sub (Sub.freeze (id := 500) rfl) ?_;refine aF ?_;exact ⟨.inr rfl, ⟨_, _, .tmp rfl (.cell rfl (tg rfl) rfl rfl rfl .nil), .cons (hs_all rfl rfl (by simp) rfl) (.cons .refl .nil), rfl⟩, trivial, rfl⟩
theorem lT {α : Type} {l : List α} {i : Nat} {x : α} (h : l[i]? = some x) : l.set i x = l := by
 apply List.ext_getElem?;intro j;rw [List.getElem?_set];split
 ·rename_i e; subst e;rw [if_pos (List.getElem?_eq_some_iff.1 h).1, h]
 ·rfl
theorem vD {α : Type} {P l : List α} {i : Nat} {x : α} (hl : i < l.length) (h : P[i]? = some x) : (P.take i ++ l.drop i).set i x = P.take (i + 1) ++ l.drop (i + 1) := by
 have hi : i < P.length := (List.getElem?_eq_some_iff.1 h).1
 have h1 : (P.take i).length = i := by rw [length_take]; omega
 rw [bG h, drop_eq_getElem_cons hl, List.set_append_right _ _ (by omega), h1, sub_self, List.set_cons_zero, append_assoc];rfl
theorem wO (l : List Str) (hl : l.length ≤ 100) (hs : ∀ s ∈ l, s.length ≤ 1000000) : bN Tryd.prog 38 [b7 l] [] (b7 (aX l)) [] := by
 have hM : 1000000000 ≤ maxLen := by decide
 have hcl := jB (l.map bF) (by rw [length_map]; omega);have hpl : (aX l).length = l.length := eA l 0;refine cT (n := 31) tok Tryd.func38 rfl rfl rfl ?_;refine a8 (ag [] rfl ?_);refine a8 (aJ mixed ?_);refine ak 1 [] rfl ?_;refine kc hcl ?_;refine ak 1 [] rfl ?_;refine az ?_;refine a8 (a8 (ag [] rfl ?_));have hka : (l.map bF).length = l.length := length_map _;refine aB ?_;refine aL (fun i : Nat => mk [(0, b7 l), (3, .one (.hs 710 0 l.length l.length)), (8, b7 l), (9, I .i64 ((l.map bF).length : Int)), (10, I .i64 i)] [(710, .arr 9 1 (((aX l).take i ++ l.drop i).map bF) 0)]) (fun i => i ≤ l.length) (fun i => l.length - i) 0 (zero_le _) sl ?_;intro i hi;have hrl : (((aX l).take i ++ l.drop i).map bF).length = l.length := by rw [length_map, length_append, length_take, length_drop]; omega
 refine a8 (ag [] rfl ?_);refine a8 (aA rfl (fun hb => ?_) (fun hb => ?_))
 ·have hlt := ltD hb hka;obtain ⟨s, hs'⟩ := aI hlt;have hsr := c6 bF hs';have hsl := hs s (List.mem_of_getElem? hs');have hp : (aX l)[i]? = some (if s ∈ l.drop (i + 1) then s ++ [64, 112] ++ dec (0 + i) else s) := jT l i 0 s hs';rw [zero_add] at hp;have hh := oN (l.drop (i + 1)) s (by rw [length_drop]; omega);have hh' : bN Tryd.prog 59 [.one (.c (.sl 1 ((l.map bF).drop (i + 1)))), Go.AM.T s] [] (B (decide (s ∈ l.drop (i + 1)))) [] := by rw [← List.map_drop]; exact hh
  have hd := aEh i (by omega);have hdl := jN i;have hset := vD hlt hp;have hold : ((aX l).take i ++ l.drop i)[i]? = some s := by
   rw [List.getElem?_append_right (by rw [length_take]; omega), length_take, min_eq_left (by omega), sub_self, List.getElem?_drop, add_zero, hs']
  have hold' := c6 bF hold;refine aD ?_;refine a8 (aB ?_);refine a8 (ag [(1, .row i (bF s))] rfl ?_);refine a8 (agN [(5, .pc (B (decide (s ∈ l.drop (i + 1)))))] rfl ?_);refine aA rfl (fun hb => ?_) (fun hb => ?_)
  ·have hm : s ∈ l.drop (i + 1) := of_decide_eq_true hb;rw [if_pos hm] at hset;refine ag [(5, .pc (Go.AM.T (dec i))), (8, .row i (bF s))] rfl ?_;refine ag [] rfl ?_;have hrows : (((aX l).take i ++ l.drop i).map bF).set i (bF (s ++ [64, 112] ++ dec i)) = ((aX l).take (i + 1) ++ l.drop (i + 1)).map bF := by rw [← hset, List.map_set]
   exact ⟨i + 1, hlt, by dsimp only; omega, sl⟩
  ·have hm : ¬ s ∈ l.drop (i + 1) := of_decide_eq_false hb;rw [if_neg hm, lT hold] at hset;refine aD ?_;refine ag [] rfl ?_;refine ⟨i + 1, hlt, by dsimp only; omega, ?_⟩;dsimp only;rw [← hset];exact sl
 have hge := geD hb hka hi;subst hge;rw [drop_length, append_nil, show (aX l).take l.length = aX l by rw [← hpl]; exact take_length] at *;refine aM ?_;refine a8 (ag [] rfl ?_);refine AWp.sub (Sub.freeze (id := 710) rfl) ?_;exact aF (rtT (hc := hs_all rfl rfl (by rw [length_map]; exact hpl.symm) rfl))
abbrev CM := List (Str × Int)
def y4 (p : Str × Int) : List C := [.str p.1, .int .i64 p.2]
def aBw (s : Str) : CM → Option Int
 | [] => none
 | (k, n) :: m => if k = s then some n else aBw s m
def aD6 (s : Str) (n : Int) : CM → CM
 | [] => [(s, n)]
 | (k, x) :: m => if k = s then (s, n) :: m else (k, x) :: aD6 s n m
theorem rG (s : Str) : ∀ m : CM, fK s (m.map y4) = (aBw s m).map fun n => [.int .i64 n]
 | [] => rfl
 | (k, n) :: m => by
  simp only [map_cons, y4, fK, aBw];split
  ·rfl
  ·exact rG s m
theorem pK (s : Str) (n : Int) : ∀ m : CM, pL s [.int .i64 n] (m.map y4) = (aD6 s n m).map y4
 | [] => rfl
 | (k, x) :: m => by
  have ih := pK s n m;simp only [map_cons, y4, pL, aD6] at ih ⊢;split
  ·rfl
  ·simp only [map_cons, ih]; rfl
theorem iY : ∀ m : CM, i4 (m.map y4)
 | [] => trivial
 | _ :: m => iY m
theorem pM (s x : Str) (n : Int) : ∀ m : CM, aBw x (aD6 s n m) = if s = x then some n else aBw x m
 | [] => by simp [aD6, aBw]
 | (k, y) :: m => by
  rw [aD6];split
  ·rename_i h; subst h;simp only [aBw];split <;> simp_all
  ·rename_i h;simp only [aBw, pM s x n m];split <;> split <;> simp_all
def cnt (m : CM) (s : Str) : Int := (aBw s m).getD 0
def inc (s : Str) (m : CM) : CM := aD6 s (cnt m s + 1) m
def aFt (s : Str) (m : CM) : CM := aD6 s (cnt m s - 1) m
theorem aFv (s x : Str) (m : CM) : cnt (inc s m) x = if s = x then cnt m x + 1 else cnt m x := by
 unfold inc cnt;rw [pM];split
 ·rename_i h; subst h; rfl
 ·rfl
theorem aC9 (s x : Str) (m : CM) : cnt (aFt s m) x = if s = x then cnt m x - 1 else cnt m x := by
 unfold aFt cnt;rw [pM];split
 ·rename_i h; subst h; rfl
 ·rfl
def gE : List Str → CM → CM
 | [], m => m
 | s :: l, m => gE l (inc s m)
def decs : List Str → CM → CM
 | [], m => m
 | s :: l, m => decs l (aFt s m)
def times (s : Str) (l : List Str) : Int := (l.count s : Int)
theorem cF (x : Str) : ∀ (l : List Str) (m : CM), cnt (gE l m) x = cnt m x + times x l
 | [], m => by simp [gE, times]
 | s :: l, m => by
  rw [gE, cF x l, aFv];unfold times;rw [List.count_cons];by_cases h : s = x
  ·subst h; simp; omega
  ·simp [h]
theorem pW (x : Str) : ∀ (l : List Str) (m : CM), cnt (decs l m) x = cnt m x - times x l
 | [], m => by simp [decs, times]
 | s :: l, m => by
  rw [decs, pW x l, aC9];unfold times;rw [List.count_cons];by_cases h : s = x
  ·subst h; simp; omega
  ·simp [h]
theorem w8 (s : Str) : ∀ (l : List Str) (m : CM), gE (l ++ [s]) m = inc s (gE l m)
 | [], _ => rfl
 | x :: l, m => by rw [cons_append, gE, w8 s l]; rfl
theorem wH (s : Str) : ∀ (l : List Str) (m : CM), decs (l ++ [s]) m = aFt s (decs l m)
 | [], _ => rfl
 | x :: l, m => by rw [cons_append, decs, wH s l]; rfl
def Cok (m : CM) : Prop := ∀ s, 0 ≤ cnt m s ∧ cnt m s ≤ 1000000000
def mB (m m' : CM) : Prop := ∀ s, cnt m s = cnt m' s
def cR (m : CM) : AObj := .map false (m.map y4)
theorem pN (m : CM) (s : Str) : ∃ r, fK s (m.map y4) = r ∧ ((∃ n, r = some [.int .i64 n] ∧ cnt m s = n) ∨ (r = none ∧ cnt m s = 0)) := by
 refine ⟨_, rfl, ?_⟩;rw [rG];unfold cnt;cases aBw s m with
 | none => exact .inr ⟨rfl, rfl⟩
 | some n => exact .inl ⟨n, rfl, rfl⟩
theorem qR : ∀ l : List R, V.refsL (l.map V.one) = R.refsL l
 | [] => rfl
 | r :: l => by rw [map_cons, V.refsL, qR l]; rfl
theorem m7 {k : Nat} {o o' : AObj} {h : List (Nat × AObj)} {id : Nat} {x : AObj} (e : Go.AM.look ((k, o) :: h) id = some x) : upd (Go.AM.look ((k, o') :: h)) k (some o) id = some x := by
 rw [fB] at e ⊢;rw [jC];exact e
theorem aD7 {m : CM} {s : Str} {n : Int} (h : cnt m s = n) : pL s [.int .i64 (n + 1)] (m.map y4) = (inc s m).map y4 := by
 rw [pK, inc, h]
theorem aAe {m : CM} {s : Str} {n : Int} (h : cnt m s = n) : pL s [.int .i64 (n - 1)] (m.map y4) = (aFt s m).map y4 := by
 rw [pK, aFt, h]
theorem gG (x : Str) (l : List Str) (i : Nat) : 0 ≤ times x (l.take i) ∧ times x (l.take i) ≤ l.length := by
 unfold times;have h1 := count_le_length (a := x) (l := l.take i);have h2 : (l.take i).length ≤ l.length := by rw [length_take]; omega
 omega
theorem dT {f : FuncId} {caps : List R} (names : List Str) (m m2 : CM) (h1 h2 : List (Nat × AObj)) (ks : List Nat) (hn : names.length ≤ 1000000) (hm : Cok m) (hm2 : Cok m2)
  (hw1 : ∀ x : CM, Wf ks ((800, cR x) :: h1)) (hw2 : ∀ x : CM, Wf ks ((800, cR x) :: h2)) (hks : subset (800 :: R.refsL caps) ks = true) (hbod : aIb Tryd.prog f = true)
  (hf : bN Tryd.prog f (caps.map V.one) ((800, cR (gE names m)) :: h1) (.tup []) ((800, cR m2) :: h2)) :
  bN Tryd.prog 23 [.one (.mr 800), b7 names, .one (.clo f caps)] ((800, cR m) :: h1) (.tup []) ((800, cR (decs names m2)) :: h2) := by
 have hk1 : ∀ x, keys ((800, cR x) :: h1) = ks := fun x => (hw1 x).keys
 have hka : (names.map bF).length = names.length := length_map _;have h800 : subset [800] ks = true := by simp [subset] at hks ⊢; exact hks.1
 refine cT (n := 34) tok Tryd.func23 rfl rfl rfl ?_;rw [hk1];refine a8 (a8 (ag [] rfl ?_));refine aB ?_;refine aL (fun i : Nat => mk [(0, .one (.mr 800)), (1, b7 names), (2, .one (.clo f caps)), (10, b7 names), (11, I .i64 ((names.map bF).length : Int)), (12, I .i64 i)] ((800, cR (gE (names.take i) m)) :: h1)) (fun i => i ≤ names.length) (fun i => names.length - i) 0 (zero_le _) (Sub.heap (hw1 _) ⟨rfl, rfl, rfl, rfl, rfl, rfl, trivial⟩ (fun _ _ h => h) (by simpa [jF, V.refs, R.refs, I, b7] using hks) (dW _) rfl) ?_;intro i hi;refine a8 (ag [] rfl ?_);refine a8 (aA rfl (fun hb => ?_) (fun hb => ?_))
 ·have hlt := ltD hb hka;obtain ⟨s, hs⟩ := aI hlt;have hs' := c6 bF hs;have hst : gE (names.take (i + 1)) m = inc s (gE (names.take i) m) := by rw [bG hs, w8]
  have hc1 := cF s (names.take i) m;have hc2 := gG s names i;have hc3 := hm s;have hmo := iY (gE (names.take i) m);generalize gE (names.take i) m = x at hst hc1 hmo ⊢;obtain ⟨r, hr, hrr⟩ := pN x s;refine aD ?_;refine a8 (aB ?_);refine a8 (ag [(0, .row i (bF s))] rfl ?_);rcases hrr with ⟨n, rfl, hcn⟩ | ⟨rfl, hcn⟩
  ·refine ag [(2, .look (some [.int .i64 n]))] rfl ?_;refine ag [] rfl ?_;refine ⟨i + 1, hlt, by dsimp only; omega, ?_⟩;dsimp only;rw [hst]
   exact Sub.heap (hw1 _) ⟨rfl, rfl, rfl, rfl, rfl, rfl, trivial⟩ (fun id o h => by
    have := m7 (o' := cR x) h;unfold cR at this;rw [← aD7 hcn] at this
    exact this) (by simpa [jF, V.refs, R.refs, I, b7] using hks) (dW _) rfl
  ·refine ag [(2, .look none)] rfl ?_;refine ag [] rfl ?_;refine ⟨i + 1, hlt, by dsimp only; omega, ?_⟩;dsimp only;rw [hst]
   exact Sub.heap (hw1 _) ⟨rfl, rfl, rfl, rfl, rfl, rfl, trivial⟩ (fun id o h => by
    have := m7 (o' := cR x) h;unfold cR at this;rw [← aD7 hcn] at this
    exact this) (by simpa [jF, V.refs, R.refs, I, b7] using hks) (dW _) rfl
 have hge := geD hb hka hi;subst hge;rw [take_length];refine aM ?_;refine a8 (aJ mixed ?_);refine ak 1 [] rfl ?_;refine kv (args := []) hf ?_ (hb := aGg hbod) (hin' := (hw1 _).all) (hout' := (hw1 _).hout (hw2 _)) (hok := (hw1 _).callOk (by rw [nil_append, qR]; simp [subset] at hks ⊢; exact hks.2));refine az ?_;refine a8 (ag [] rfl ?_);refine aB ?_
 refine aL (fun i : Nat => mk [(0, .one (.mr 800)), (23, b7 names), (24, I .i64 ((names.map bF).length : Int)), (25, I .i64 i)] ((800, cR (decs (names.take i) m2)) :: h2)) (fun i => i ≤ names.length) (fun i => names.length - i) 0 (zero_le _) (Sub.heap (hw2 _) ⟨rfl, rfl, rfl, rfl, trivial⟩ (fun id o h => by
   show jD (Go.AM.look _) (outs ((800, cR m2) :: h2)) id = some o;rw [mE];have h' : Go.AM.look ((800, cR m2) :: h2) id = some o := h
   rw [h']) (by simpa [jF, V.refs, R.refs, I, b7] using h800) (dW _) rfl) ?_
 intro i hi;refine a8 (ag [] rfl ?_);refine a8 (aA rfl (fun hb => ?_) (fun hb => ?_))
 ·have hlt := ltD hb hka;obtain ⟨s, hs⟩ := aI hlt;have hs' := c6 bF hs;have hst : decs (names.take (i + 1)) m2 = aFt s (decs (names.take i) m2) := by rw [bG hs, wH]
  have hc1 := pW s (names.take i) m2;have hc2 := gG s names i;have hc3 := hm2 s;have hmo := iY (decs (names.take i) m2);generalize decs (names.take i) m2 = x at hst hc1 hmo ⊢;obtain ⟨r, hr, hrr⟩ := pN x s;refine aD ?_;refine a8 (aB ?_);refine a8 (ag [(0, .row i (bF s))] rfl ?_);rcases hrr with ⟨n, rfl, hcn⟩ | ⟨rfl, hcn⟩
  ·refine ag [(2, .look (some [.int .i64 n]))] rfl ?_;refine ag [] rfl ?_;refine ⟨i + 1, hlt, by dsimp only; omega, ?_⟩;dsimp only;rw [hst]
   exact Sub.heap (hw2 _) ⟨rfl, rfl, rfl, rfl, trivial⟩ (fun id o h => by
    have := m7 (o' := cR x) h;unfold cR at this;rw [← aAe hcn] at this
    exact this) (by simpa [jF, V.refs, R.refs, I, b7] using h800) (dW _) rfl
  ·refine ag [(2, .look none)] rfl ?_;refine ag [] rfl ?_;refine ⟨i + 1, hlt, by dsimp only; omega, ?_⟩;dsimp only;rw [hst]
   exact Sub.heap (hw2 _) ⟨rfl, rfl, rfl, rfl, trivial⟩ (fun id o h => by
    have := m7 (o' := cR x) h;unfold cR at this;rw [← aAe hcn] at this
    exact this) (by simpa [jF, V.refs, R.refs, I, b7] using h800) (dW _) rfl
 have hge := geD hb hka hi;subst hge;rw [take_length];refine aM ?_;exact ⟨.inl rfl, Fin.heap (hw1 _) (hw2 _) (fun _ _ h => h) .nil .nil rfl⟩
theorem qQ {L : List Nat} : ∀ {rows : List (List R)}, (∀ row ∈ rows, ∀ x ∈ R.refsL row, x ∈ L) → ∀ x ∈ gT rows, x ∈ L
 | [], _, x, hx => by simp [gT] at hx
 | r :: rows, h, x, hx => by
  rcases mem_append.1 hx with hx | hx
  ·exact h r mem_cons_self x hx
  ·exact qQ (fun q hq => h q (mem_cons_of_mem _ hq)) x hx
def mN (id fo sz : Nat) (g : List Str) (i : Nat) : List R := [.ep id i fo sz, .c (.sl 1 (g.map bF))]
def fG (g : List Str) (n k : Nat) : List (List R) := (List.range k).map fun i => mN 701 5 n g i
def eY (g : List Str) (n k : Nat) : List (List R) := (List.range k).map fun i => mN 702 0 n g i
def mD (al : List Alt) (i : Nat) : List Str := ((al[i]?).map Alt.vars).getD []
def fW (g : List Str) (al : List Alt) (k : Nat) : List (List R) := (List.range k).map fun i => mN 703 4 al.length (g ++ mD al i) i
theorem xO (g : List Str) (n k : Nat) : fG g n (k + 1) = fG g n k ++ [mN 701 5 n g k] := by unfold fG; rw [range_succ, map_append]; rfl
theorem xN (g : List Str) (n k : Nat) : eY g n (k + 1) = eY g n k ++ [mN 702 0 n g k] := by unfold eY; rw [range_succ, map_append]; rfl
theorem xP (g : List Str) (al : List Alt) (k : Nat) : fW g al (k + 1) = fW g al k ++ [mN 703 4 al.length (g ++ mD al k) k] := by unfold fW; rw [range_succ, map_append]; rfl
theorem eT (g : List Str) (n k : Nat) : (fG g n k).length = k := by simp [fG]
theorem gJ (g : List Str) (n k : Nat) : (eY g n k).length = k := by simp [eY]
theorem qX (g : List Str) (al : List Alt) (k : Nat) : (fW g al k).length = k := by simp [fW]
def fA : AObj := .rarr 88 2 [[.ep 701 0 0 0, .ep 702 0 0 0], [.ep 703 0 0 0, .ep 703 0 0 0]]
def yL (rows : List (List R)) : AObj := .rarr 88 2 rows
theorem mM {id fo sz : Nat} {g : List Str} {i : Nat} : ∀ x ∈ R.refsL (mN id fo sz g i), x = id := by
 intro x hx;simpa [mN, R.refsL, R.refs] using hx
theorem dI {g : List Str} {n m a b k : Nat} {al : List Alt} : ∀ x ∈ (yL (fG g n a ++ (eY g m b ++ fW g al k))).refs, x ∈ fA.refs := by
 refine qQ fun row hr x hx => ?_
 show x ∈ ([701, 702, 703, 703] : List Nat);rcases mem_append.1 hr with hr | hr
 ·obtain ⟨i, _, rfl⟩ := mem_map.1 hr;rw [mM x hx]; simp
 ·rcases mem_append.1 hr with hr | hr
  ·obtain ⟨i, _, rfl⟩ := mem_map.1 hr;rw [mM x hx]; simp
  ·obtain ⟨i, _, rfl⟩ := mem_map.1 hr;rw [mM x hx]; simp
def iO (f n : Int) (s : Str) (t : Ty) (nk nb na : Nat) : List R := [.c (.int .i64 f), .c (.int .i64 n), .c (.str s), .c (.int .i64 t.form), .c (.int .i64 t.n), .c (.str t.name), .c (.sl 4 (eV t)), .hs 702 0 nk nk, .hs 701 0 nb nb, .hs 703 0 na na]
def dL (f : Int) (s : Str) (ks : List Core) (bs : List Bind) (al : List Alt) : List (List R) := fG (gvs f s bs) bs.length bs.length ++ (eY (gvs f s bs) ks.length ks.length ++ fW (gvs f s bs) al al.length)
def zJ (f n : Int) (s : Str) (t : Ty) (ks : List Core) (bs : List Bind) (al : List Alt) : List (Nat × AObj) :=
 [(700, .var 38 (iO f n s t ks.length bs.length al.length)), (701, .arr 46 15 (aP bs) 0), (702, .arr 38 10 (bB ks) 0), (703, .arr 65 14 (bH al) 0)]
theorem uE (f n : Int) (s : Str) (t : Ty) (ks : List Core) (bs : List Bind) (al : List Alt) (hsz : aG (.mk f n s t ks bs al) ≤ 400000) :
  bN Tryd.prog 45 [.one (.vp 700 0)] [(700, .var 38 (bT (.mk f n s t ks bs al)))] (.one (.ra 704 0 (dL f s ks bs al).length (dL f s ks bs al).length)) ((704, yL (dL f s ks bs al)) :: zJ f n s t ks bs al) := by
 obtain ⟨ihk, ihb, iha, hkl, hbl, hal⟩ := @gP f n s t ks bs al;have hkB : (aP bs).length = bs.length := by rw [aU, length_map]
 have hkK : (bB ks).length = ks.length := by rw [b9, length_map]
 have hkA : (bH al).length = al.length := by rw [aV, length_map]
 have hcb := pZ (aP bs) (by omega);have hck := pY (bB ks) (by omega);have hca := sR (bH al) (by omega);rw [hkB] at hcb;rw [hkK] at hck;rw [hkA] at hca;refine cT (n := 148) tok Tryd.func45 rfl rfl rfl ?_;refine a8 (ag [] rfl ?_);refine a8 (ag [] rfl ?_);have hE1 : (if f = 5 then [s] else []).length ≤ 1 := by split <;> simp
 refine a8 (AWp.cut (mk [(0, .one (.vp 700 0)), (3, .one (.hs 720 0 (if f = 5 then [s] else []).length (if f = 5 then [s] else []).length))] [(700, .var 38 (bT (.mk f n s t ks bs al))), (720, .arr 9 1 ((if f = 5 then [s] else []).map bF) 0)]) ?_ ?_)
 ·refine a8 (ag [] rfl ?_);refine aA rfl (fun hb => ?_) (fun hb => ?_)
  ·have h5 : f = 5 := of_decide_eq_true hb;rw [if_pos h5];exact ag [(4, .id 720)] rfl sl
  ·have h5 : ¬ f = 5 := of_decide_eq_false hb;rw [if_neg h5];exact AWp.sub (Sub.own (t := 3) (id := 720) 9 1 rfl rfl) (aD sl)
 have hgv : gvs f s bs = (if f = 5 then [s] else []) ++ bs.map Bind.name := rfl;have hgl := pO f s bs;generalize (if f = 5 then [s] else []) = w at hE1 hgv;refine a8 (a8 (ag [] rfl ?_));refine aB ?_;refine aL (fun i : Nat => mk [(0, .one (.vp 700 0)), (3, .one (.hs 720 0 (w.length + i) (w.length + i))), (23, .one (.c (.sl 15 (aP bs)))), (24, I .i64 ((aP bs).length : Int)), (25, I .i64 i)] [(700, .var 38 (bT (.mk f n s t ks bs al))), (720, .arr 9 1 ((w ++ (bs.take i).map Bind.name).map bF) 0)]) (fun i => i ≤ bs.length) (fun i => bs.length - i) 0 (zero_le _) sl ?_;intro i hi;refine a8 (ag [] rfl ?_);refine a8 (aA rfl (fun hb => ?_) (fun hb => ?_))
 ·have hlt := ltD hb hkB;obtain ⟨b, hbi⟩ := aI hlt;have hbi' := cB hbi;have hrows : (w ++ (bs.take i).map Bind.name).map bF ++ [[.str b.name]] = (w ++ (bs.take (i + 1)).map Bind.name).map bF := by
   rw [bG hbi]; simp [bF]
  refine aD ?_;refine a8 (aB ?_);refine a8 (ag [(0, .row i (aK b))] rfl ?_);refine ag [] rfl ?_;refine ag [] rfl ?_;exact ⟨i + 1, hlt, by dsimp only; omega, sl⟩
 have hge := geD hb hkB hi;subst hge;refine aM ?_;rw [take_length, ← hgv];have hgl2 : w.length + bs.length = (gvs f s bs).length := by rw [hgv]; simp
 rw [hgl2];rw [show dL f s ks bs al = fG (gvs f s bs) bs.length bs.length ++ (eY (gvs f s bs) ks.length ks.length ++ fW (gvs f s bs) al al.length) from rfl];generalize gvs f s bs = g at hgl;refine AWp.sub (Sub.freeze (id := 720) rfl) (AWp.sub (cv 3 (g.map bF)) ?_);refine AWp.sub (st2 := mk [(0, .one (.vp 700 0)), (3, b7 g)] [(700, .var 38 (bT (.mk f n s t ks bs al)))]) sl ?_;refine a8 (aJ mixed ?_);refine ak 7 [] rfl ?_;refine kc hcb ?_;refine ak 4 [] rfl ?_;refine kc hck ?_;refine ak 4 [] rfl ?_;refine kc hca ?_;refine ak 9 [] rfl ?_;refine az ?_;refine a8 (ag [] rfl ?_);refine AWp.sub (Sub.ownR (t := 6) (id := 704) 88 2 rfl rfl) ?_;refine a8 (a8 (ag [] rfl ?_));refine aB ?_;refine aL (fun i : Nat => mk [(0, .one (.vp 700 0)), (3, b7 g), (6, .one (.ra 704 0 (fG g bs.length i).length (fG g bs.length i).length)), (63, I .i64 ((bs.length : Nat) : Int)), (64, I .i64 i)] ((704, yL (fG g bs.length i)) :: zJ f n s t ks bs al)) (fun i => i ≤ bs.length) (fun i => bs.length - i) 0 (zero_le _) (slR fA (by simpa [eY, fW] using dI (g := g) (n := bs.length) (a := 0) (m := 0) (b := 0) (al := []) (k := 0)) ⟨_, rfl, .rarrS rfl⟩) ?_;intro i hi;have hpB := eT g bs.length i;refine a8 (ag [] rfl ?_);refine a8 (aA rfl (fun hb => ?_) (fun hb => ?_))
 ·have hlt : i < bs.length := by
   have : (i : Int) < (bs.length : Int) := of_decide_eq_true hb;omega
  have hst := xO g bs.length i;refine aD ?_;refine a8 (aB ?_);refine a8 (ag [] rfl ?_);refine ag [] rfl ?_;refine ag [] rfl ?_;refine ⟨i + 1, hlt, by dsimp only; omega, ?_⟩;dsimp only;rw [hst];refine slR fA (by rw [← hst]; simpa [eY, fW] using dI (g := g) (n := bs.length) (a := i + 1) (m := 0) (b := 0) (al := []) (k := 0)) ⟨_, rfl, .rarrS rfl⟩ (he := ⟨rfl, rfl, ?_, rfl, rfl, trivial⟩);show some (V.one (R.ra 704 0 _ _)) = some (V.one (R.ra 704 0 _ _));rw [length_append];rfl
 have hge : i = bs.length := by
  have : ¬ (i : Int) < (bs.length : Int) := of_decide_eq_false hb;omega
 subst hge;refine aM ?_;refine a8 (a8 (ag [] rfl ?_));refine aB ?_
 refine aL (fun i : Nat => mk [(0, .one (.vp 700 0)), (3, b7 g), (6, .one (.ra 704 0 (fG g bs.length bs.length ++ eY g ks.length i).length (fG g bs.length bs.length ++ eY g ks.length i).length)), (84, I .i64 ((ks.length : Nat) : Int)), (85, I .i64 i)] ((704, yL (fG g bs.length bs.length ++ eY g ks.length i)) :: zJ f n s t ks bs al)) (fun i => i ≤ ks.length) (fun i => ks.length - i) 0 (zero_le _) (by
  rw [show eY g ks.length 0 = [] from rfl, append_nil]
  exact slR fA (by simpa [eY, fW] using dI (g := g) (n := bs.length) (a := bs.length) (m := 0) (b := 0) (al := []) (k := 0)) ⟨_, rfl, .rarrS rfl⟩) ?_
 intro i hi;have hpK : (fG g bs.length bs.length ++ eY g ks.length i).length = bs.length + i := by rw [length_append, eT, gJ]
 refine a8 (ag [] rfl ?_);refine a8 (aA rfl (fun hb => ?_) (fun hb => ?_))
 ·have hlt : i < ks.length := by
   have : (i : Int) < (ks.length : Int) := of_decide_eq_true hb;omega
  have hst := xN g ks.length i;refine aD ?_;refine a8 (aB ?_);refine a8 (ag [] rfl ?_);refine ag [] rfl ?_;refine ag [] rfl ?_;refine ⟨i + 1, hlt, by dsimp only; omega, ?_⟩;dsimp only;rw [hst, ← append_assoc];refine slR fA (by rw [append_assoc, ← hst]; simpa [fW] using dI (g := g) (n := bs.length) (a := bs.length) (m := ks.length) (b := i + 1) (al := []) (k := 0)) ⟨_, rfl, .rarrS rfl⟩ (he := ⟨rfl, rfl, ?_, rfl, rfl, trivial⟩);show some (V.one (R.ra 704 0 _ _)) = some (V.one (R.ra 704 0 _ _));rw [length_append (bs := [mN 702 0 ks.length g i])];rfl
 have hge : i = ks.length := by
  have : ¬ (i : Int) < (ks.length : Int) := of_decide_eq_false hb;omega
 subst hge;refine aM ?_;refine a8 (a8 (ag [] rfl ?_));refine aB ?_
 refine aL (fun i : Nat => mk [(0, .one (.vp 700 0)), (3, b7 g), (6, .one (.ra 704 0 (fG g bs.length bs.length ++ (eY g ks.length ks.length ++ fW g al i)).length (fG g bs.length bs.length ++ (eY g ks.length ks.length ++ fW g al i)).length)), (104, I .i64 ((al.length : Nat) : Int)), (105, I .i64 i)] ((704, yL (fG g bs.length bs.length ++ (eY g ks.length ks.length ++ fW g al i))) :: zJ f n s t ks bs al)) (fun i => i ≤ al.length) (fun i => al.length - i) 0 (zero_le _) (by
  rw [show fW g al 0 = [] from rfl, append_nil]
  exact slR fA (by simpa [fW] using dI (g := g) (n := bs.length) (a := bs.length) (m := ks.length) (b := ks.length) (al := []) (k := 0)) ⟨_, rfl, .rarrS rfl⟩) ?_
 intro i hi;have hpA : (fG g bs.length bs.length ++ (eY g ks.length ks.length ++ fW g al i)).length = bs.length + (ks.length + i) := by rw [length_append, length_append, eT, gJ, qX]
 refine a8 (ag [] rfl ?_);refine a8 (aA rfl (fun hb => ?_) (fun hb => ?_))
 ·have hlt : i < al.length := by
   have : (i : Int) < (al.length : Int) := of_decide_eq_true hb;omega
  obtain ⟨a, hai⟩ := aI hlt;have hai' := cV hai;have hm := List.mem_of_getElem? hai;have hav := gN hm;have hab := gO a;have hvl := fX a.vars;have hsz2 := hsz;rw [aG] at hsz2;have hvs : (a.vars.map bF).length = a.vars.length := length_map _;have hcl := (jB (a.vars.map bF) (by omega)).plain rfl;have hco := wQ g a.vars (by have := cC bs; omega);have hva : mD al i = a.vars := by unfold mD; rw [hai]; rfl
  have hset := lT hai';have hst := xP g al i;rw [hva] at hst;refine aD ?_;refine a8 (aB ?_);refine a8 (ag [] rfl ?_);refine a8 (ag [(12, .row i (cL a)), (13, .pc (b7 a.vars)), (16, .row i (cL a))] rfl ?_);refine AWp.sub (st2 := mk [(0, .one (.vp 700 0)), (3, b7 g), (6, .one (.ra 704 0 (fG g bs.length bs.length ++ (eY g ks.length ks.length ++ fW g al i)).length (fG g bs.length bs.length ++ (eY g ks.length ks.length ++ fW g al i)).length)), (9, I .i64 i), (104, I .i64 ((al.length : Nat) : Int)), (105, I .i64 i)] ((704, yL (fG g bs.length bs.length ++ (eY g ks.length ks.length ++ fW g al i))) :: zJ f n s t ks bs al)) (slR fA dI ⟨_, rfl, .rarrS rfl⟩) ?_;refine ag [(16, .row i (cL a)), (17, .all), (18, .pc (b7 (g ++ a.vars)))] rfl ?_;refine ag [] rfl ?_;refine ⟨i + 1, hlt, by dsimp only; omega, ?_⟩;dsimp only;rw [hst, ← append_assoc, ← append_assoc];refine slR fA (by rw [append_assoc, append_assoc, ← hst]; exact dI) ⟨_, rfl, .rarrS (by rw [← append_assoc]; rfl)⟩ (he := ⟨rfl, rfl, ?_, rfl, rfl, trivial⟩);show some (V.one (R.ra 704 0 _ _)) = some (V.one (R.ra 704 0 _ _));rw [length_append (bs := [mN 703 4 al.length (g ++ a.vars) i]), ← append_assoc];rfl
 have hge : i = al.length := by
  have : ¬ (i : Int) < (al.length : Int) := of_decide_eq_false hb;omega
 subst hge;refine aM ?_;refine a8 (ag [] rfl ?_);refine aF ⟨.inr rfl, ?_⟩;exact aJl fA dI ⟨_, _, .tmp rfl .nil, .cons .refl .nil, rfl⟩ ⟨⟨_, rfl, .rarrS rfl⟩, ⟨_, rfl, .var rfl⟩, ⟨_, rfl, .arr⟩, ⟨_, rfl, .arr⟩, ⟨_, rfl, .arr⟩, trivial⟩ rfl rfl
def bV (f : Int) (s : Str) (ks : List Core) (bs : List Bind) (al : List Alt) : List (List Str × Core) :=
 bs.map (fun b => (gvs f s bs, b.body)) ++ (ks.map (fun k => (gvs f s bs, k)) ++ al.map (fun a => (gvs f s bs ++ a.vars, a.body)))
def lV : List (List Str × Core) → Nat
 | [] => 0
 | p :: l => aG p.2 + lV l
theorem jR : ∀ a b : List (List Str × Core), lV (a ++ b) = lV a + lV b
 | [], b => by simp [lV]
 | p :: a, b => by rw [cons_append, lV, lV, jR a b]; omega
theorem aD4 (g : List Str) : ∀ l : List Bind, lV (l.map fun b => (g, b.body)) ≤ bE l
 | [] => zero_le _
 | b :: l => by rw [map_cons, lV, bE]; have := aD4 g l; have := l7 b; dsimp only; omega
theorem aD3 (g : List Str) : ∀ l : List Core, lV (l.map fun b => (g, b)) ≤ bA l
 | [] => zero_le _
 | b :: l => by rw [map_cons, lV, bA]; have := aD3 g l; dsimp only; omega
theorem aD5 (g : List Str) : ∀ l : List Alt, lV (l.map fun b => (g ++ b.vars, b.body)) ≤ bC l
 | [] => zero_le _
 | b :: l => by rw [map_cons, lV, bC]; have := aD5 g l; have := gO b; dsimp only; omega
theorem aCm {f n : Int} {s : Str} {t : Ty} {ks : List Core} {bs : List Bind} {al : List Alt} : lV (bV f s ks bs al) < aG (.mk f n s t ks bs al) := by
 unfold bV;rw [jR, jR, aG];have := aD4 (gvs f s bs) bs;have := aD3 (gvs f s bs) ks;have := aD5 (gvs f s bs) al;omega
theorem zI {l : List (List Str × Core)} {i : Nat} {p : List Str × Core} (h : l[i]? = some p) : lV (l.take i) + aG p.2 ≤ lV l := by
 have h1 := List.take_append_drop (i + 1) l;have h2 := jR (l.take (i + 1)) (l.drop (i + 1));rw [h1, bG h, jR] at h2;simp only [lV] at h2;omega
theorem pG {f n : Int} {s : Str} {t : Ty} {ks : List Core} {bs : List Bind} {al : List Alt} {p : List Str × Core} (h : p ∈ bV f s ks bs al) : aG p.2 < aG (.mk f n s t ks bs al) ∧ p.1.length + aG p.2 ≤ aG (.mk f n s t ks bs al) := by
 have hg := pO f s bs;rw [aG];unfold bV at h;rcases mem_append.1 h with h | h
 ·obtain ⟨b, hb, rfl⟩ := mem_map.1 h;obtain ⟨i, hi⟩ := List.getElem?_of_mem hb;have h1 := cW hi;have h2 := l7 b;have h3 := cC (bs.take i);have h4 := (List.getElem?_eq_some_iff.1 hi).1
  rw [length_take] at h3;dsimp only;omega
 ·have hbl := cC bs;rcases mem_append.1 h with h | h
  ·obtain ⟨k, hk, rfl⟩ := mem_map.1 h;have := l0 hk;dsimp only;omega
  ·obtain ⟨a, ha, rfl⟩ := mem_map.1 h;have h1 := gN ha;have h2 := gO a;have h3 := fX a.vars;dsimp only;rw [length_append];omega
theorem tZ (A : Str → Bool) {f n : Int} {s : Str} {t : Ty} {ks : List Core} {bs : List Bind} {al : List Alt} (hf : ¬ f = 1) (G : Str → Bool) (out : List Str) : bZ A (.mk f n s t ks bs al) G out = (bV f s ks bs al).foldl (fun o p => bZ A p.2 (ext G p.1) o) out := by
 rw [bZ, if_neg hf, gY, gW, gX];unfold bV;rw [List.foldl_append, List.foldl_append, List.foldl_map, List.foldl_map, List.foldl_map];simp only [pT]
theorem sA (A : Str → Bool) (G : Str → Bool) : ∀ (l : List (List Str × Core)) (out : List Str), (l.foldl (fun o p => bZ A p.2 (ext G p.1) o) out).length ≤ out.length + lV l
 | [], out => by simp [lV]
 | p :: l, out => by
  rw [List.foldl_cons, lV];have := sA A G l (bZ A p.2 (ext G p.1) out);have := iL A p.2 (ext G p.1) out;omega
def cA (m : CM) : Str → Bool := fun s => decide (0 < cnt m s)
theorem iJ {m : CM} (h : ∀ s, 0 ≤ cnt m s) (g : List Str) : cA (gE g m) = ext (cA m) g := by
 funext s;unfold cA ext;rw [cF];have h1 := h s;unfold times;rw [Bool.eq_iff_iff];simp only [decide_eq_true_eq, Bool.or_eq_true];have h2 : s ∈ g ↔ 0 < g.count s := List.count_pos_iff.symm;rw [h2];omega
theorem jZ {m m' : CM} (h : mB m m') : cA m = cA m' := by
 funext s; unfold cA; rw [h s]
theorem mW (m : CM) (s : Str) : kR ⟨.int .i64, 1, 8, [.int .i64 0]⟩ (fK s (m.map y4)) = I .i64 (cnt m s) := by
 obtain ⟨r, hr, ⟨n, h1, h2⟩ | ⟨h1, h2⟩⟩ := pN m s
 ·rw [hr, h1, h2]; rfl
 ·rw [hr, h1, h2]; rfl
def fH (m a : CM) (out : List Str) : List (Nat × AObj) := [(800, cR m), (801, cR a), (802, .var 31 [.hs 900 0 out.length out.length]), (900, pH out)]
def mT : Nat := 59
def uZ (c : Core) : Prop := ∀ (m a : CM) (out : List Str), (∀ s, 0 ≤ cnt m s ∧ cnt m s + aG c ≤ 1000000000) → aG c ≤ 400000 → out.length + aG c ≤ 1000000 →
 ∃ m', mB m m' ∧ bN Tryd.prog 68 [.one (.mr 800), .pa (aE c), .one (.mr 801), .one (.vp 802 0)] (fH m a out) (.tup []) (fH m' a (bZ (cA a) c (cA m) out))
def fL (ep : R) (g : List Str) (a : CM) (out : List Str) (ks : List Core) (bs : List Bind) (al : List Alt) : List (Nat × AObj) :=
 [(4, .var mT [.mr 800]), (9, .var 88 [ep, .c (.sl 1 (g.map bF))]), (6, .var mT [.mr 801]), (7, .var 103 [.vp 802 0]), (701, .arr 46 15 (aP bs) 0), (702, .arr 38 10 (bB ks) 0), (703, .arr 65 14 (bH al) 0), (801, cR a), (802, .var 31 [.hs 900 0 out.length out.length]), (900, pH out)]
theorem aAt {m m' a : CM} {out out' : List Str} {ks : List Core} {bs : List Bind} {al : List Alt} (g : List Str) {i : Nat} {b : _} (hx : bs[i]? = some b)
  (hf : bN Tryd.prog 68 [.one (.mr 800), .pa (aE b.body), .one (.mr 801), .one (.vp 802 0)] (fH m a out) (.tup []) (fH m' a out')) :
  bN Tryd.prog 75 ([R.vp 4 0, R.vp 9 0, R.vp 6 0, R.vp 7 0].map V.one) ((800, cR m) :: fL (.ep 701 i 5 bs.length) g a out ks bs al) (.tup []) ((800, cR m') :: fL (.ep 701 i 5 bs.length) g a out' ks bs al) := by
 have hx' : (aP bs)[i]? = some (aK b) := by first | exact cB hx | exact cU hx | exact cV hx
 have hl : bs.length = (aP bs).length := by first | rw [aU, length_map] | rw [b9, length_map] | rw [aV, length_map]
 have hlt := (List.getElem?_eq_some_iff.1 hx).1
 refine cT (n := 12) tok Tryd.func75 rfl rfl rfl ?_;refine aJ mixed ?_;refine ak 7 [(4, .row i (aK b))] rfl ?_;refine kc hf ?_;refine az ?_;exact ⟨.inl rfl, ⟨_, _, .nil, .nil, rfl⟩, ⟨⟨_, rfl, .map⟩, ⟨_, rfl, .var rfl⟩, ⟨_, rfl, .var rfl⟩, ⟨_, rfl, .var rfl⟩, ⟨_, rfl, .var rfl⟩, ⟨_, rfl, .arr⟩, ⟨_, rfl, .arr⟩, ⟨_, rfl, .arr⟩, ⟨_, rfl, .map⟩, ⟨_, rfl, .var rfl⟩, ⟨_, rfl, .arr⟩, trivial⟩, rfl⟩
theorem aAs {m m' a : CM} {out out' : List Str} {ks : List Core} {bs : List Bind} {al : List Alt} (g : List Str) {i : Nat} {k : _} (hx : ks[i]? = some k)
  (hf : bN Tryd.prog 68 [.one (.mr 800), .pa (aE k), .one (.mr 801), .one (.vp 802 0)] (fH m a out) (.tup []) (fH m' a out')) :
  bN Tryd.prog 75 ([R.vp 4 0, R.vp 9 0, R.vp 6 0, R.vp 7 0].map V.one) ((800, cR m) :: fL (.ep 702 i 0 ks.length) g a out ks bs al) (.tup []) ((800, cR m') :: fL (.ep 702 i 0 ks.length) g a out' ks bs al) := by
 have hx' : (bB ks)[i]? = some (aE k) := by first | exact cB hx | exact cU hx | exact cV hx
 have hl : ks.length = (bB ks).length := by first | rw [aU, length_map] | rw [b9, length_map] | rw [aV, length_map]
 have hlt := (List.getElem?_eq_some_iff.1 hx).1
 refine cT (n := 12) tok Tryd.func75 rfl rfl rfl ?_;refine aJ mixed ?_;refine ak 7 [(4, .row i (aE k))] rfl ?_;refine kc hf ?_;refine az ?_;exact ⟨.inl rfl, ⟨_, _, .nil, .nil, rfl⟩, ⟨⟨_, rfl, .map⟩, ⟨_, rfl, .var rfl⟩, ⟨_, rfl, .var rfl⟩, ⟨_, rfl, .var rfl⟩, ⟨_, rfl, .var rfl⟩, ⟨_, rfl, .arr⟩, ⟨_, rfl, .arr⟩, ⟨_, rfl, .arr⟩, ⟨_, rfl, .map⟩, ⟨_, rfl, .var rfl⟩, ⟨_, rfl, .arr⟩, trivial⟩, rfl⟩
theorem aAu {m m' a : CM} {out out' : List Str} {ks : List Core} {bs : List Bind} {al : List Alt} (g : List Str) {i : Nat} {al1 : _} (hx : al[i]? = some al1)
  (hf : bN Tryd.prog 68 [.one (.mr 800), .pa (aE al1.body), .one (.mr 801), .one (.vp 802 0)] (fH m a out) (.tup []) (fH m' a out')) :
  bN Tryd.prog 75 ([R.vp 4 0, R.vp 9 0, R.vp 6 0, R.vp 7 0].map V.one) ((800, cR m) :: fL (.ep 703 i 4 al.length) g a out ks bs al) (.tup []) ((800, cR m') :: fL (.ep 703 i 4 al.length) g a out' ks bs al) := by
 have hx' : (bH al)[i]? = some (cL al1) := by first | exact cB hx | exact cU hx | exact cV hx
 have hl : al.length = (bH al).length := by first | rw [aU, length_map] | rw [b9, length_map] | rw [aV, length_map]
 have hlt := (List.getElem?_eq_some_iff.1 hx).1
 refine cT (n := 12) tok Tryd.func75 rfl rfl rfl ?_;refine aJ mixed ?_;refine ak 7 [(4, .row i (cL al1))] rfl ?_;refine kc hf ?_;refine az ?_;exact ⟨.inl rfl, ⟨_, _, .nil, .nil, rfl⟩, ⟨⟨_, rfl, .map⟩, ⟨_, rfl, .var rfl⟩, ⟨_, rfl, .var rfl⟩, ⟨_, rfl, .var rfl⟩, ⟨_, rfl, .var rfl⟩, ⟨_, rfl, .arr⟩, ⟨_, rfl, .arr⟩, ⟨_, rfl, .arr⟩, ⟨_, rfl, .map⟩, ⟨_, rfl, .var rfl⟩, ⟨_, rfl, .arr⟩, trivial⟩, rfl⟩
theorem mB.decs {m m' : CM} {g : List Str} (h : mB (gE g m) m') : mB m (decs g m') := fun s => by
 have h1 := h s;rw [cF] at h1;rw [pW, ← h1];omega
theorem j0 {α : Type} {P : Nat → α → Prop} {R : Nat → α → α → Prop} (x0 : α) (h0 : P 0 x0) (h : ∀ i x, P i x → ∃ y, P (i + 1) y ∧ R i x y) : ∃ s : Nat → α, s 0 = x0 ∧ (∀ i, P i (s i)) ∧ ∀ i, R i (s i) (s (i + 1)) := by
 let f : (i : Nat) → { x : α // P i x } := fun i => Nat.rec ⟨x0, h0⟩ (fun i x => ⟨Classical.choose (h i x.1 x.2), (Classical.choose_spec (h i x.1 x.2)).1⟩) i
 exact ⟨fun i => (f i).1, rfl, fun i => (f i).2, fun i => (Classical.choose_spec (h i (f i).1 (f i).2)).2⟩
theorem fI (f : Int) (s : Str) (ks : List Core) (bs : List Bind) (al : List Alt) : (dL f s ks bs al).length = bs.length + (ks.length + al.length) := by
 unfold dL; rw [length_append, length_append, eT, gJ, qX]
theorem kI (f : Int) (s : Str) (ks : List Core) (bs : List Bind) (al : List Alt) : (bV f s ks bs al).length = bs.length + (ks.length + al.length) := by
 unfold bV; simp
theorem lW (f : Int) (s : Str) (ks : List Core) (bs : List Bind) (al : List Alt) {i : Nat} (hi : i < (dL f s ks bs al).length) :
  (∃ j b, bs[j]? = some b ∧ (dL f s ks bs al)[i]? = some (mN 701 5 bs.length (gvs f s bs) j) ∧ (bV f s ks bs al)[i]? = some (gvs f s bs, b.body) ∧ i = j) ∨
  (∃ j k, ks[j]? = some k ∧ (dL f s ks bs al)[i]? = some (mN 702 0 ks.length (gvs f s bs) j) ∧ (bV f s ks bs al)[i]? = some (gvs f s bs, k) ∧ i = bs.length + j) ∨
  (∃ j a, al[j]? = some a ∧ (dL f s ks bs al)[i]? = some (mN 703 4 al.length (gvs f s bs ++ a.vars) j) ∧ (bV f s ks bs al)[i]? = some (gvs f s bs ++ a.vars, a.body) ∧ i = bs.length + (ks.length + j)) := by
 rw [fI] at hi;have e1 : ∀ n j, j < n → (List.range n)[j]? = some j := fun n j h => by rw [List.getElem?_range h]
 by_cases h1 : i < bs.length
 ·obtain ⟨b, hb⟩ := aI h1;refine .inl ⟨i, b, hb, ?_, ?_, rfl⟩
  ·unfold dL fG;rw [List.getElem?_append_left (by simpa using h1), List.getElem?_map, e1 _ _ h1]; rfl
  ·unfold bV;rw [List.getElem?_append_left (by simpa using h1), List.getElem?_map, hb]; rfl
 ·by_cases h2 : i - bs.length < ks.length
  ·obtain ⟨k, hk⟩ := aI h2;refine .inr (.inl ⟨i - bs.length, k, hk, ?_, ?_, by omega⟩)
   ·unfold dL;rw [List.getElem?_append_right (by rw [eT]; omega), eT, List.getElem?_append_left (by rw [gJ]; omega)];unfold eY;rw [List.getElem?_map, e1 _ _ h2]; rfl
   ·unfold bV;rw [List.getElem?_append_right (by rw [length_map]; omega), length_map, List.getElem?_append_left (by rw [length_map]; omega), List.getElem?_map, hk]; rfl
  ·have h3 : i - bs.length - ks.length < al.length := by omega
   obtain ⟨a, ha⟩ := aI h3;refine .inr (.inr ⟨i - bs.length - ks.length, a, ha, ?_, ?_, by omega⟩)
   ·unfold dL;rw [List.getElem?_append_right (by rw [eT]; omega), eT, List.getElem?_append_right (by rw [gJ]; omega), gJ];unfold fW;rw [List.getElem?_map, e1 _ _ h3];show some (mN 703 4 al.length (gvs f s bs ++ mD al (i - bs.length - ks.length)) _) = _;rw [show mD al (i - bs.length - ks.length) = a.vars by unfold mD; rw [ha]; rfl]
   ·unfold bV;rw [List.getElem?_append_right (by rw [length_map]; omega), length_map, List.getElem?_append_right (by rw [length_map]; omega), length_map, List.getElem?_map, ha]; rfl
theorem wfF (ep : R) (g : List Str) (a : CM) (out : List Str) (ks : List Core) (bs : List Bind) (al : List Alt) (h : ep.refs = [701] ∨ ep.refs = [702] ∨ ep.refs = [703]) (x : CM) : Wf [800, 4, 9, 6, 7, 701, 702, 703, 801, 802, 900] ((800, cR x) :: fL ep g a out ks bs al) := by
 refine ⟨rfl, ?_⟩;rcases h with h | h | h <;> simp [fL, eS, AObj.refs, cR, pH, R.refsL, R.refs, h, subset, AObj.live, AObj.plain] <;> rfl
theorem sN (c : Core) (ih : ∀ x, aG x < aG c → uZ x) : uZ c := by
 intro m a out hm hsz ho;obtain ⟨f, n, s, t, ks, bs, al⟩ := c;by_cases hf : f = 1
 ·refine ⟨m, fun _ => rfl, ?_⟩;have hr : bZ (cA a) (.mk f n s t ks bs al) (cA m) out = if cA a s && !cA m s && !decide (s ∈ out) then out ++ [s] else out := by rw [bZ, if_pos hf]
  rw [hr];have hmo := iY m;have hao := iY a;have hlm := mW m s;have hla := mW a s;have hco := oN out s (by omega);have h0 := (hm s).1
  refine cT (n := 55) tok Tryd.func68 rfl rfl rfl ?_;refine AWp.sub (Sub.freeze (id := 900) rfl) ?_;refine a8 (ag [(1, .id 700)] rfl ?_);refine a8 (a8 (ag [] rfl ?_));refine aA rfl (fun _ => ?_) (fun hb => absurd hf (of_decide_eq_false hb));refine a8 (a8 (agF 6 [(3, .pc (I .i64 (cnt m s))), (9, .pc (I .i64 (cnt a s))), (18, .pc (B (decide (s ∈ out))))] rfl rfl rfl ?_));refine aA rfl (fun hb => ?_) (fun hb => ?_)
  ·have hc : (cA a s && !cA m s && !decide (s ∈ out)) = true := by
    unfold cA;by_cases e1 : cnt m s = 0 <;> by_cases e2 : 0 < cnt a s <;> by_cases e3 : s ∈ out <;> simp [e1, e2, e3] at hb ⊢
   rw [if_pos hc];refine ag [] rfl ?_;refine aF ?_;exact ⟨.inr rfl, ⟨_, _, .nil, .nil, rfl⟩, ⟨⟨_, rfl, .map⟩, ⟨_, rfl, .map⟩, ⟨_, rfl, .var (by simp [R.renL, R.ren])⟩, ⟨_, rfl, by first | exact Go.AM.Ole.arrE (by simp; rfl) | exact Go.AM.Ole.arrS (by simp; rfl)⟩, trivial⟩, rfl⟩
  ·have hc : ¬ (cA a s && !cA m s && !decide (s ∈ out)) = true := by
    unfold cA;by_cases e1 : cnt m s = 0
    ·by_cases e2 : 0 < cnt a s <;> by_cases e3 : s ∈ out <;> simp [e1, e2, e3] at hb ⊢
    ·have e4 : 0 < cnt m s := by omega
     simp [e4]
   rw [if_neg hc];refine aD ?_;refine aF ?_;exact ⟨.inr rfl, ⟨_, _, .nil, .nil, rfl⟩, ⟨⟨_, rfl, .map⟩, ⟨_, rfl, .map⟩, ⟨_, rfl, .var rfl⟩, ⟨_, rfl, .arr1⟩, trivial⟩, rfl⟩
 ·have hm0 : ∀ s, 0 ≤ cnt m s := fun s => (hm s).1
  rw [tZ (cA a) hf];have hps := @aCm f n s t ks bs al;have hN : (dL f s ks bs al).length = (bV f s ks bs al).length := by rw [fI, kI]
  have hin : ∀ p ∈ bV f s ks bs al, _ := fun p hp => @pG f n s t ks bs al p hp
  have hptk : ∀ {i p}, (bV f s ks bs al)[i]? = some p → _ := fun {i p} h => zI h
  have hfl := fun i => sA (cA a) (cA m) ((bV f s ks bs al).take i) out
  have hpt : ∀ i, ∀ p, (bV f s ks bs al)[i]? = some p → ((bV f s ks bs al).take (i + 1)).foldl (fun o p => bZ (cA a) p.2 (ext (cA m) p.1) o) out = bZ (cA a) p.2 (ext (cA m) p.1) (((bV f s ks bs al).take i).foldl (fun o p => bZ (cA a) p.2 (ext (cA m) p.1) o) out) := fun i p h => fO _ _ h
  have hat := @lW f s ks bs al;have hcp := uE f n s t ks bs al hsz;have hrr : ∀ x ∈ (yL (dL f s ks bs al)).refs, x ∈ fA.refs := dI;have hPN : (bV f s ks bs al).take (dL f s ks bs al).length = bV f s ks bs al := by rw [hN, take_length]
  rw [← hPN];generalize bV f s ks bs al = L at hps hN hin hptk hfl hpt hat hPN ⊢;generalize dL f s ks bs al = rows at hN hat hcp hrr hPN ⊢
  obtain ⟨sq, hs0, hsP, hsR⟩ := j0 (P := fun _ x => mB m x) (R := fun i x y => ∀ p, L[i]? = some p → ∃ m', y = decs p.1 m' ∧ mB (gE p.1 x) m' ∧ bN Tryd.prog 68 [.one (.mr 800), .pa (aE p.2), .one (.mr 801), .one (.vp 802 0)] (fH (gE p.1 x) a ((L.take i).foldl (fun o p => bZ (cA a) p.2 (ext (cA m) p.1) o) out)) (.tup []) (fH m' a ((L.take (i + 1)).foldl (fun o p => bZ (cA a) p.2 (ext (cA m) p.1) o) out))) m (fun _ => rfl) (fun i x hx => by
   cases hp : L[i]? with
   | none => exact ⟨x, hx, fun p h => by cases h⟩
   | some p =>
    obtain ⟨q1, q2⟩ := hin p (List.mem_of_getElem? hp);have q3 : lV (L.take i) + aG p.2 ≤ lV L := hptk hp;have q4 := hfl i;have hx0 : ∀ s, 0 ≤ cnt x s := fun s => by rw [← hx s]; exact hm0 s
    obtain ⟨m', g1, g2⟩ := ih p.2 q1 (gE p.1 x) a ((L.take i).foldl (fun o p => bZ (cA a) p.2 (ext (cA m) p.1) o) out) (fun s => by
     have h1 := hm s;have h2 := hx s;have h3 := cF s p.1 x;have h4 : 0 ≤ times s p.1 ∧ times s p.1 ≤ p.1.length := by
      unfold times;have := count_le_length (a := s) (l := p.1);omega
     omega) (by omega) (by omega)
    rw [iJ hx0, ← jZ hx, ← hpt i p hp] at g2
    exact ⟨decs p.1 m', fun s => by rw [hx s]; exact mB.decs g1 s, fun p' h => by cases h; exact ⟨m', rfl, g1, g2⟩⟩)
  refine ⟨sq rows.length, hsP _, ?_⟩;have hrl : rows.length ≤ 800000 := by
   rw [hN];have : ∀ l : List (List Str × Core), l.length ≤ lV l := by
    intro l
    induction l with
    | nil => exact zero_le _
    | cons p l ih => rw [length_cons, lV]; have := cO p.2; omega
   have := this L;omega
  refine cT (n := 55) tok Tryd.func68 rfl rfl rfl ?_;refine a8 (ag [(1, .id 700)] rfl ?_);refine a8 (a8 (ag [] rfl ?_));refine aA rfl (fun hb => absurd (of_decide_eq_true hb) hf) (fun _ => ?_);refine aD ?_;refine a8 (aJ mixed ?_);refine kc hcp ?_;refine ak 2 [] rfl ?_;refine az ?_;refine aB ?_;refine aL (fun i : Nat => mk [(4, .one (.vp 4 0)), (6, .one (.vp 6 0)), (7, .one (.vp 7 0)), (43, .one (.ra 704 0 rows.length rows.length)), (44, I .i64 ((rows.length : Nat) : Int)), (45, I .i64 i)] ((704, yL rows) :: [(4, .var mT [.mr 800]), (6, .var mT [.mr 801]), (7, .var 103 [.vp 802 0]), (701, .arr 46 15 (aP bs) 0), (702, .arr 38 10 (bB ks) 0), (703, .arr 65 14 (bH al) 0), (800, cR (sq i)), (801, cR a), (802, .var 31 [.hs 900 0 ((L.take i).foldl (fun o p => bZ (cA a) p.2 (ext (cA m) p.1) o) out).length ((L.take i).foldl (fun o p => bZ (cA a) p.2 (ext (cA m) p.1) o) out).length]), (900, pH ((L.take i).foldl (fun o p => bZ (cA a) p.2 (ext (cA m) p.1) o) out))])) (fun i => i ≤ rows.length) (fun i => rows.length - i) 0 (zero_le _) (by rw [hs0]; exact slR fA hrr ⟨_, rfl, .rarrS rfl⟩) ?_;intro i hi;refine a8 (ag [] rfl ?_);refine a8 (aA rfl (fun hb => ?_) (fun hb => ?_))
  ·have hlt : i < rows.length := by
    have : (i : Int) < (rows.length : Int) := of_decide_eq_true hb;omega
   refine aD ?_;refine a8 (aB ?_);rcases hat hlt with ⟨j, b, hb', hro, hpa, _⟩ | ⟨j, k, hk', hro, hpa, _⟩ | ⟨j, al', ha', hro, hpa, _⟩
   ·obtain ⟨m', e1, e2, e3⟩ := hsR i _ hpa;obtain ⟨q1, q2⟩ := hin _ (List.mem_of_getElem? hpa);have hx := hsP i;have hc1 := aAt (ks := ks) (bs := bs) (al := al) (gvs f s bs) hb' e3
    have hci := dT (gvs f s bs) (sq i) m' _ _ [800, 4, 9, 6, 7, 701, 702, 703, 801, 802, 900] (by dsimp only at q2; omega) (fun u => by have := hm u; have := hx u; omega) (fun u => by
     have h1 := hm u;have h2 := hx u;have h3 := e2 u;rw [cF] at h3;have h4 : 0 ≤ times u (gvs f s bs) ∧ times u (gvs f s bs) ≤ (gvs f s bs).length := by
      unfold times;have := count_le_length (a := u) (l := gvs f s bs);omega
     dsimp only at q2 h3
     omega) (wfF _ _ _ _ _ _ _ (by simp [R.refs])) (wfF _ _ _ _ _ _ _ (by simp [R.refs])) rfl (by kernel_rfl) hc1
    dsimp only at e1;rw [← e1] at hci;refine a8 (ag [(1, .rr (mN 701 5 bs.length (gvs f s bs) j))] rfl ?_);refine aJ mixed ?_;refine ak 4 [] rfl ?_;refine kc hci ?_;refine az ?_;refine ag [] rfl ?_;exact ⟨i + 1, hlt, by dsimp only; omega, slR fA hrr ⟨_, rfl, .rarrS rfl⟩⟩
   ·obtain ⟨m', e1, e2, e3⟩ := hsR i _ hpa;obtain ⟨q1, q2⟩ := hin _ (List.mem_of_getElem? hpa);have hx := hsP i;have hc1 := aAs (ks := ks) (bs := bs) (al := al) (gvs f s bs) hk' e3
    have hci := dT (gvs f s bs) (sq i) m' _ _ [800, 4, 9, 6, 7, 701, 702, 703, 801, 802, 900] (by dsimp only at q2; omega) (fun u => by have := hm u; have := hx u; omega) (fun u => by
     have h1 := hm u;have h2 := hx u;have h3 := e2 u;rw [cF] at h3;have h4 : 0 ≤ times u (gvs f s bs) ∧ times u (gvs f s bs) ≤ (gvs f s bs).length := by
      unfold times;have := count_le_length (a := u) (l := gvs f s bs);omega
     dsimp only at q2 h3
     omega) (wfF _ _ _ _ _ _ _ (by simp [R.refs])) (wfF _ _ _ _ _ _ _ (by simp [R.refs])) rfl (by kernel_rfl) hc1
    dsimp only at e1;rw [← e1] at hci;refine a8 (ag [(1, .rr (mN 702 0 ks.length (gvs f s bs) j))] rfl ?_);refine aJ mixed ?_;refine ak 4 [] rfl ?_;refine kc hci ?_;refine az ?_;refine ag [] rfl ?_;exact ⟨i + 1, hlt, by dsimp only; omega, slR fA hrr ⟨_, rfl, .rarrS rfl⟩⟩
   ·obtain ⟨m', e1, e2, e3⟩ := hsR i _ hpa;obtain ⟨q1, q2⟩ := hin _ (List.mem_of_getElem? hpa);have hx := hsP i;have hc1 := aAu (ks := ks) (bs := bs) (al := al) (gvs f s bs ++ al'.vars) ha' e3
    have hci := dT (gvs f s bs ++ al'.vars) (sq i) m' _ _ [800, 4, 9, 6, 7, 701, 702, 703, 801, 802, 900] (by dsimp only at q2; omega) (fun u => by have := hm u; have := hx u; omega) (fun u => by
     have h1 := hm u;have h2 := hx u;have h3 := e2 u;rw [cF] at h3;have h4 : 0 ≤ times u (gvs f s bs ++ al'.vars) ∧ times u (gvs f s bs ++ al'.vars) ≤ (gvs f s bs ++ al'.vars).length := by
      unfold times;have := count_le_length (a := u) (l := gvs f s bs ++ al'.vars);omega
     dsimp only at q2 h3
     omega) (wfF _ _ _ _ _ _ _ (by simp [R.refs])) (wfF _ _ _ _ _ _ _ (by simp [R.refs])) rfl (by kernel_rfl) hc1
    dsimp only at e1;rw [← e1] at hci;refine a8 (ag [(1, .rr (mN 703 4 al.length (gvs f s bs ++ al'.vars) j))] rfl ?_);refine aJ mixed ?_;refine ak 4 [] rfl ?_;refine kc hci ?_;refine az ?_;refine ag [] rfl ?_;exact ⟨i + 1, hlt, by dsimp only; omega, slR fA hrr ⟨_, rfl, .rarrS rfl⟩⟩
  have hge : i = rows.length := by
   have : ¬ (i : Int) < (rows.length : Int) := of_decide_eq_false hb;omega
  subst hge;refine aM ?_;exact ⟨.inl rfl, ⟨_, _, .nil, .nil, rfl⟩, ⟨⟨_, rfl, .map⟩, ⟨_, rfl, .map⟩, ⟨_, rfl, .var rfl⟩, ⟨_, rfl, .arr⟩, trivial⟩, rfl⟩
theorem aAn : ∀ (n : Nat) (c : Core), aG c ≤ n → uZ c
 | 0, c, h => by have := cO c; omega
 | n + 1, c, h => sN c fun x hx => aAn n x (by omega)
mutual
def cE : Core → Nat
 | .mk f _ _ _ ks bs al => (if f = 5 then 1 else 0) + bL ks + bP bs + bI al
def bL : List Core → Nat
 | [] => 0
 | c :: l => cE c + bL l
def bP : List Bind → Nat
 | [] => 0
 | .mk _ _ c :: l => cE c + bP l
def bI : List Alt → Nat
 | [] => 0
 | .mk _ _ _ _ c :: l => cE c + bI l
end
theorem rS : ∀ {l : List Core} {i : Nat} {c : Core}, l[i]? = some c → bL (l.take i) + cE c ≤ bL l
 | d :: l, 0, c, h => by simp at h; subst h; rw [take_zero, bL, bL]; omega
 | d :: l, i + 1, c, h => by
  have := rS (l := l) (i := i) (c := c) (by simpa using h);rw [take_succ_cons, bL, bL]; omega
theorem rU : ∀ {l : List Bind} {i : Nat} {c : Bind}, l[i]? = some c → bP (l.take i) + cE c.body ≤ bP l
 | .mk s t d :: l, 0, c, h => by simp at h; subst h; rw [take_zero, bP, bP]; show 0 + cE d ≤ _; omega
 | .mk s t d :: l, i + 1, c, h => by
  have := rU (l := l) (i := i) (c := c) (by simpa using h);rw [take_succ_cons, bP, bP]; omega
theorem rW : ∀ {l : List Alt} {i : Nat} {c : Alt}, l[i]? = some c → bI (l.take i) + cE c.body ≤ bI l
 | .mk f n s v d :: l, 0, c, h => by simp at h; subst h; rw [take_zero, bI, bI]; show 0 + cE d ≤ _; omega
 | .mk f n s v d :: l, i + 1, c, h => by
  have := rW (l := l) (i := i) (c := c) (by simpa using h);rw [take_succ_cons, bI, bI]; omega
theorem mX : ∀ (l : List Core) (i : Nat), bL (l.take i) ≤ bL l
 | [], i => by simp
 | c :: l, 0 => by rw [take_zero, bL]; exact zero_le _
 | c :: l, i + 1 => by rw [take_succ_cons, bL, bL]; have := mX l i; omega
theorem rT : ∀ (l : List Bind) (i : Nat), bP (l.take i) ≤ bP l
 | [], i => by simp
 | c :: l, 0 => by rw [take_zero, bP]; exact zero_le _
 | .mk s t c :: l, i + 1 => by rw [take_succ_cons, bP, bP]; have := rT l i; omega
theorem rV : ∀ (l : List Alt) (i : Nat), bI (l.take i) ≤ bI l
 | [], i => by simp
 | c :: l, 0 => by rw [take_zero, bI]; exact zero_le _
 | .mk f n s v c :: l, i + 1 => by rw [take_succ_cons, bI, bI]; have := rV l i; omega
mutual
theorem jS (of : Str) : ∀ (c : Core) (ch : Bool) (A : Str → Bool) (made : List Sup), (bD of ch c A made).2.length ≤ made.length + cE c
 | .mk f n s t ks bs al, ch, A, made => by
  rw [bD, cE];split
  ·split
   ·have := r6 of ks A made; omega
   ·have hp := r6 of ks (fun x => decide (x ∈ bZ A (.mk f n s t ks bs al) (fun _ => false) [] ++ (s :: cM ks))) (made ++ [⟨cX of made.length, aX (bZ A (.mk f n s t ks bs al) (fun _ => false) [] ++ (s :: cM ks)), eE⟩]);rw [length_append, length_singleton] at hp;dsimp only;rw [eN];omega
  ·have h1 := kL of bs (ext A (gvs f s bs)) made;have h2 := kJ of ks (ext A (gvs f s bs)) (bM of bs (ext A (gvs f s bs)) made).2;have h3 := kO of al (ext A (gvs f s bs)) (bX of ks (ext A (gvs f s bs)) (bM of bs (ext A (gvs f s bs)) made).2).2;dsimp only;omega
theorem r6 (of : Str) : ∀ (l : List Core) (A : Str → Bool) (made : List Sup), (jH of l A made).2.length ≤ made.length + bL l
 | [], _, made => by rw [jH]; exact le_add_right _ _
 | c :: l, A, made => by
  rw [jH, bL];have := jS of c true A made;omega
theorem kJ (of : Str) : ∀ (l : List Core) (A : Str → Bool) (made : List Sup), (bX of l A made).2.length ≤ made.length + bL l
 | [], _, made => by rw [bX]; exact le_add_right _ _
 | c :: l, A, made => by
  rw [bX, bL];have h1 := jS of c false A made;have h2 := kJ of l A (bD of false c A made).2;dsimp only;omega
theorem kL (of : Str) : ∀ (l : List Bind) (A : Str → Bool) (made : List Sup), (bM of l A made).2.length ≤ made.length + bP l
 | [], _, made => by rw [bM]; exact le_add_right _ _
 | .mk s t c :: l, A, made => by
  rw [bM, bP];have h1 := jS of c false A made;have h2 := kL of l A (bD of false c A made).2;dsimp only;omega
theorem kO (of : Str) : ∀ (l : List Alt) (A : Str → Bool) (made : List Sup), (c0 of l A made).2.length ≤ made.length + bI l
 | [], _, made => by rw [c0]; exact le_add_right _ _
 | .mk f n s vs c :: l, A, made => by
  rw [c0, bI];have h1 := jS of c false (ext A vs) made;have h2 := kO of l A (bD of false c (ext A vs) made).2;dsimp only;omega
end
mutual
def nmR : Core → Bool
 | .mk f _ s _ ks bs al => (if f = 5 then decide (s ∈ nmL) else true) && (vS ks && (aCs bs && aCt al))
def vS : List Core → Bool
 | [] => true
 | c :: l => nmR c && vS l
def aCs : List Bind → Bool
 | [] => true
 | .mk s _ c :: l => (decide (s ∈ nmL) && nmR c) && aCs l
def aCt : List Alt → Bool
 | [] => true
 | .mk _ _ _ v c :: l => (v.all (fun s => decide (s ∈ nmL)) && nmR c) && aCt l
end
theorem vR : ∀ {l : List Core}, vS l = true → ∀ x ∈ l, nmR x = true
 | c :: l, h, x, hx => by
  rw [vS, Bool.and_eq_true] at h;rcases mem_cons.1 hx with rfl | hx
  ·exact h.1
  ·exact vR h.2 x hx
theorem pJ : ∀ {l : List Bind}, aCs l = true → ∀ x ∈ l, x.name ∈ nmL ∧ nmR x.body = true
 | .mk s t c :: l, h, x, hx => by
  simp only [aCs, Bool.and_eq_true] at h;rcases mem_cons.1 hx with rfl | hx
  ·exact ⟨of_decide_eq_true h.1.1, h.1.2⟩
  ·exact pJ h.2 x hx
theorem vT : ∀ {l : List Alt}, aCt l = true → ∀ x ∈ l, (∀ s ∈ x.vars, s ∈ nmL) ∧ nmR x.body = true
 | .mk f n s v c :: l, h, x, hx => by
  simp only [aCt, Bool.and_eq_true] at h;rcases mem_cons.1 hx with rfl | hx
  ·exact ⟨fun u hu => of_decide_eq_true (all_eq_true.1 h.1.1 u hu), h.1.2⟩
  ·exact vT h.2 x hx
theorem vQ {f n : Int} {s : Str} {t : Ty} {ks : List Core} {bs : List Bind} {al : List Alt} (h : nmR (.mk f n s t ks bs al) = true) : ∀ x ∈ gvs f s bs, x ∈ nmL := by
 simp only [nmR, Bool.and_eq_true] at h;intro x hx;rcases mem_append.1 hx with hx | hx
 ·split at hx
  ·rename_i hf;rw [if_pos hf] at h;simp only [mem_singleton] at hx;subst hx;exact of_decide_eq_true h.1
  ·simp at hx
 ·obtain ⟨b, hb, rfl⟩ := mem_map.1 hx;exact (pJ h.2.2.1 b hb).1
theorem jX : ∀ (m : Nat) (c : Core), aG c ≤ m → wfR c = true → nmR c = true → (∀ s ∈ aW c, s ∈ nmL) ∧ nmR (bJ c) = true ∧ (aW c).length + cE (bJ c) ≤ cE c := by
 intro m
 induction m with
 | zero => intro c hc; have := cO c; omega
 | succ m ih =>
  intro c hc hw h;obtain ⟨f, n, s, t, ks, bs, al⟩ := c;have hn := h;simp only [wfR, Bool.and_eq_true] at hw;simp only [nmR, Bool.and_eq_true] at hn;by_cases hf : f = 5
  ·cases ks with
   | nil => simp [hf] at hw
   | cons k ks =>
    rw [aG, bA] at hc;have hk := hw.2.1;rw [tJ, Bool.and_eq_true] at hk;have hk2 := hn.2.1;rw [vS, Bool.and_eq_true] at hk2;obtain ⟨h1, h2, h3⟩ := ih k (by omega) hk.1 hk2.1;rw [if_pos hf] at hn;rw [aW, bJ, if_pos hf, if_pos hf, cM, l5, cE, bL, if_pos hf, length_cons];refine ⟨fun x hx => ?_, h2, by omega⟩;rcases mem_cons.1 hx with rfl | hx
    ·exact of_decide_eq_true hn.1
    ·exact h1 x hx
  ·rw [aW, bJ, if_neg hf, if_neg hf];exact ⟨by simp, h, by simp⟩
mutual
theorem gL (A : Str → Bool) : ∀ (c : Core) (G : Str → Bool) (out : List Str), out.Nodup → (bZ A c G out).Nodup
 | .mk f _ x _ ks bs al, G, out, h => by
  rw [bZ];split
  ·split
   ·rename_i hc;simp only [Bool.and_eq_true, Bool.not_eq_true', decide_eq_false_iff_not] at hc;rw [nodup_append];exact ⟨h, by simp, fun a ha b hb e => by simp only [mem_singleton] at hb; subst hb; subst e; exact hc.2 ha⟩
   ·exact h
  ·exact n0 A al _ _ (mY A ks _ _ (mZ A bs _ _ h))
theorem mY (A : Str → Bool) : ∀ (l : List Core) (G : Str → Bool) (out : List Str), out.Nodup → (dN A l G out).Nodup
 | [], _, _, h => by rw [dN]; exact h
 | c :: l, G, out, h => by rw [dN]; exact mY A l _ _ (gL A c _ _ h)
theorem mZ (A : Str → Bool) : ∀ (l : List Bind) (G : Str → Bool) (out : List Str), out.Nodup → (dG A l G out).Nodup
 | [], _, _, h => by rw [dG]; exact h
 | .mk _ _ c :: l, G, out, h => by rw [dG]; exact mZ A l _ _ (gL A c _ _ h)
theorem n0 (A : Str → Bool) : ∀ (l : List Alt) (G : Str → Bool) (out : List Str), out.Nodup → (dV A l G out).Nodup
 | [], _, _, h => by rw [dV]; exact h
 | .mk _ _ _ vs c :: l, G, out, h => by rw [dV]; exact n0 A l _ _ (gL A c _ _ h)
end
theorem iE : ∀ (N l : List Str), l.Nodup → (∀ x ∈ l, x ∈ N) → l.length ≤ N.length
 | [], l, _, h => by
  cases l with
  | nil => simp
  | cons x l => have := h x mem_cons_self; simp at this
 | y :: N, l, hn, h => by
  have h1 := iE N (l.erase y) (hn.erase y) fun x hx => by
   have := (hn.mem_erase_iff).1 hx;rcases mem_cons.1 (h x this.2) with e | e
   ·exact absurd e this.1
   ·exact e
  by_cases hy : y ∈ l
  ·rw [List.length_erase_of_mem hy] at h1;rw [length_cons];omega
  ·rw [List.erase_of_not_mem hy] at h1;rw [length_cons];omega
def aIf (c : Core) (A : Str → Bool) : Prop := cE c = 0 ∨ (nmR c = true ∧ ∀ s, A s = true → s ∈ nmL)
def lfO (of : Str) (made : List Sup) : AObj := .var 75 [.c (.str of), .hs 901 0 made.length made.length]
def lH (k : Nat) (of : Str) (made : List Sup) (a : CM) : List (Nat × AObj) := [(k, cR a), (810, lfO of made), (901, kQ made)]
def tH (c : Core) : Prop := ∀ (of : Str) (a : CM) (made : List Sup), wfR c = true → of.length ≤ 1000000 → (∀ s, 0 ≤ cnt a s ∧ cnt a s + aG c ≤ 1000000000) → aG c ≤ 400000 → aIf c (cA a) → made.length + cE c ≤ 90 →
 ∃ a', mB a a' ∧ bN Tryd.prog 37 [.one (.vp 810 0), .pa (aE c), .one (.mr 801)] (lH 801 of made a) (.pa (aE (bD of false c (cA a) made).1)) (lH 801 of (bD of false c (cA a) made).2 a')
def eL (k0 : Nat) (ep : R) (g : List Str) (of : Str) (made : List Sup) (ks : List Core) (bs : List Bind) (al : List Alt) : List (Nat × AObj) :=
 [(4, .var mT [.mr k0]), (5, .var 76 [.mth 37 (.vp 810 0)]), (7, .var 88 [ep, .c (.sl 1 (g.map bF))]), (701, .arr 46 15 (aP bs) 0), (702, .arr 38 10 (bB ks) 0), (703, .arr 65 14 (bH al) 0), (810, lfO of made), (901, kQ made)]
theorem tM {α : Type} (enc : List α → List (List C)) (e : α → List C) (h : ∀ l, enc l = l.map e) (l : List α) (j : Nat) (x : α) : (enc l).set j (e x) = enc (l.set j x) := by rw [h, h, List.map_set]
theorem wfE (ep : R) (g : List Str) (of : Str) (made : List Sup) (ks : List Core) (bs : List Bind) (al : List Alt) (h : ep.refs = [701] ∨ ep.refs = [702] ∨ ep.refs = [703]) (x : CM) : Wf [800, 4, 5, 7, 701, 702, 703, 810, 901] ((800, cR x) :: eL 800 ep g of made ks bs al) := by
 refine ⟨rfl, ?_⟩;rcases h with h | h | h <;> simp [eL, eS, AObj.refs, cR, lfO, kQ, R.refsL, R.refs, h, subset, AObj.live, AObj.plain] <;> rfl
theorem aA1 {m m' : CM} {of : Str} {made made' : List Sup} {ks : List Core} {bs : List Bind} {al : List Alt} {r : Core} (g : List Str) {j : Nat} {b : _} (hx : bs[j]? = some b)
  (hf : bN Tryd.prog 37 [.one (.vp 810 0), .pa (aE b.body), .one (.mr 800)] (lH 800 of made m) (.pa (aE r)) (lH 800 of made' m')) :
  bN Tryd.prog 70 ([R.vp 5 0, R.vp 7 0, R.vp 4 0].map V.one) ((800, cR m) :: eL 800 (.ep 701 j 5 bs.length) g of made ks bs al) (.tup []) ((800, cR m') :: eL 800 (.ep 701 j 5 bs.length) g of made' ks (bs.set j (Bind.mk b.name b.ty r)) al) := by
 have hx' : (aP bs)[j]? = some (aK b) := by rw [aU]; exact c6 aK hx
 have hl : bs.length = (aP bs).length := by rw [aU, length_map]
 have hlt := (List.getElem?_eq_some_iff.1 hx).1
 have hset := tM aP aK aU bs j (Bind.mk b.name b.ty r);refine cT (n := 13) tok Tryd.func70 rfl rfl rfl ?_;refine aJ mixed ?_;refine ak 8 [(6, .row j (aK b))] rfl ?_;refine km (args := [.pa (aE b.body), .one (.mr 800)]) hf ?_;refine ak 2 [(10, .row j (aK b))] rfl ?_;refine az ?_;exact ⟨.inl rfl, ⟨_, _, .nil, .nil, rfl⟩, ⟨⟨_, rfl, .map⟩, ⟨_, rfl, .var rfl⟩, ⟨_, rfl, .var rfl⟩, ⟨_, rfl, .var rfl⟩, ⟨_, rfl, by first | exact .arr | exact .arrS hset⟩, ⟨_, rfl, by first | exact .arr | exact .arrS hset⟩, ⟨_, rfl, by first | exact .arr | exact .arrS hset⟩, ⟨_, rfl, .var rfl⟩, ⟨_, rfl, .arr⟩, trivial⟩, rfl⟩
theorem aA0 {m m' : CM} {of : Str} {made made' : List Sup} {ks : List Core} {bs : List Bind} {al : List Alt} {r : Core} (g : List Str) {j : Nat} {k : _} (hx : ks[j]? = some k)
  (hf : bN Tryd.prog 37 [.one (.vp 810 0), .pa (aE k), .one (.mr 800)] (lH 800 of made m) (.pa (aE r)) (lH 800 of made' m')) :
  bN Tryd.prog 70 ([R.vp 5 0, R.vp 7 0, R.vp 4 0].map V.one) ((800, cR m) :: eL 800 (.ep 702 j 0 ks.length) g of made ks bs al) (.tup []) ((800, cR m') :: eL 800 (.ep 702 j 0 ks.length) g of made' (ks.set j (r)) bs al) := by
 have hx' : (bB ks)[j]? = some (aE k) := by rw [b9]; exact c6 aE hx
 have hl : ks.length = (bB ks).length := by rw [b9, length_map]
 have hlt := (List.getElem?_eq_some_iff.1 hx).1
 have hset := tM bB aE b9 ks j (r);refine cT (n := 13) tok Tryd.func70 rfl rfl rfl ?_;refine aJ mixed ?_;refine ak 8 [(6, .row j (aE k))] rfl ?_;refine km (args := [.pa (aE k), .one (.mr 800)]) hf ?_;refine ak 2 [(10, .row j (aE k))] rfl ?_;refine az ?_;exact ⟨.inl rfl, ⟨_, _, .nil, .nil, rfl⟩, ⟨⟨_, rfl, .map⟩, ⟨_, rfl, .var rfl⟩, ⟨_, rfl, .var rfl⟩, ⟨_, rfl, .var rfl⟩, ⟨_, rfl, by first | exact .arr | exact .arrS hset⟩, ⟨_, rfl, by first | exact .arr | exact .arrS hset⟩, ⟨_, rfl, by first | exact .arr | exact .arrS hset⟩, ⟨_, rfl, .var rfl⟩, ⟨_, rfl, .arr⟩, trivial⟩, rfl⟩
theorem aA2 {m m' : CM} {of : Str} {made made' : List Sup} {ks : List Core} {bs : List Bind} {al : List Alt} {r : Core} (g : List Str) {j : Nat} {al1 : _} (hx : al[j]? = some al1)
  (hf : bN Tryd.prog 37 [.one (.vp 810 0), .pa (aE al1.body), .one (.mr 800)] (lH 800 of made m) (.pa (aE r)) (lH 800 of made' m')) :
  bN Tryd.prog 70 ([R.vp 5 0, R.vp 7 0, R.vp 4 0].map V.one) ((800, cR m) :: eL 800 (.ep 703 j 4 al.length) g of made ks bs al) (.tup []) ((800, cR m') :: eL 800 (.ep 703 j 4 al.length) g of made' ks bs (al.set j (Alt.mk al1.form al1.n al1.name al1.vars r))) := by
 have hx' : (bH al)[j]? = some (cL al1) := by rw [aV]; exact c6 cL hx
 have hl : al.length = (bH al).length := by rw [aV, length_map]
 have hlt := (List.getElem?_eq_some_iff.1 hx).1
 have hset := tM bH cL aV al j (Alt.mk al1.form al1.n al1.name al1.vars r);refine cT (n := 13) tok Tryd.func70 rfl rfl rfl ?_;refine aJ mixed ?_;refine ak 8 [(6, .row j (cL al1))] rfl ?_;refine km (args := [.pa (aE al1.body), .one (.mr 800)]) hf ?_;refine ak 2 [(10, .row j (cL al1))] rfl ?_;refine az ?_;exact ⟨.inl rfl, ⟨_, _, .nil, .nil, rfl⟩, ⟨⟨_, rfl, .map⟩, ⟨_, rfl, .var rfl⟩, ⟨_, rfl, .var rfl⟩, ⟨_, rfl, .var rfl⟩, ⟨_, rfl, by first | exact .arr | exact .arrS hset⟩, ⟨_, rfl, by first | exact .arr | exact .arrS hset⟩, ⟨_, rfl, by first | exact .arr | exact .arrS hset⟩, ⟨_, rfl, .var rfl⟩, ⟨_, rfl, .arr⟩, trivial⟩, rfl⟩
structure Pst where
 bs : List Bind
 ks : List Core
 al : List Alt
 made : List Sup
def pst (of : Str) (A : Str → Bool) (ks : List Core) (bs : List Bind) (al : List Alt) (made : List Sup) (i : Nat) : Pst :=
 let b := bM of (bs.take i) A made
 let k := bX of (ks.take (i - bs.length)) A b.2
 let a := c0 of (al.take (i - bs.length - ks.length)) A k.2
 ⟨b.1 ++ bs.drop i, k.1 ++ ks.drop (i - bs.length), a.1 ++ al.drop (i - bs.length - ks.length), a.2⟩
theorem p9 {α : Type} {X l : List α} {i : Nat} {y : α} (hx : X.length = i) (hi : i < l.length) : (X ++ l.drop i).set i y = (X ++ [y]) ++ l.drop (i + 1) := by
 rw [drop_eq_getElem_cons hi, List.set_append_right _ _ (by omega), hx, sub_self, List.set_cons_zero, append_assoc];rfl
theorem qA {α : Type} {X l : List α} {i : Nat} {y : α} (hx : X.length = i) (h : l[i]? = some y) : (X ++ l.drop i)[i]? = some y := by
 rw [List.getElem?_append_right (by omega), hx, sub_self, List.getElem?_drop, add_zero, h]
theorem oY {α : Type} {l : List α} {i : Nat} (h : i ≤ l.length) : (l.take i).length = i := by rw [length_take]; omega
section
variable (of : Str) (A : Str → Bool) (ks : List Core) (bs : List Bind) (al : List Alt) (made : List Sup)
theorem aIz : pst of A ks bs al made 0 = ⟨bs, ks, al, made⟩ := by
 simp [pst, bM, bX, c0]
theorem aFf : pst of A ks bs al made (bs.length + (ks.length + al.length)) = ⟨(bM of bs A made).1, (bX of ks A (bM of bs A made).2).1, (c0 of al A (bX of ks A (bM of bs A made).2).2).1, (c0 of al A (bX of ks A (bM of bs A made).2).2).2⟩ := by
 unfold pst;have e1 : bs.length + (ks.length + al.length) - bs.length = ks.length + al.length := by omega
 have e2 : ks.length + al.length - ks.length = al.length := by omega
 dsimp only;rw [e1, e2, take_of_length_le (by omega : bs.length ≤ _), take_of_length_le (by omega : ks.length ≤ _), take_length, drop_eq_nil_of_le (by omega), drop_eq_nil_of_le (by omega), drop_length, append_nil, append_nil, append_nil]
variable {of A ks bs al made}
theorem aIx {i : Nat} {b : Bind} (h : bs[i]? = some b) : (pst of A ks bs al made i).bs[i]? = some b ∧ (pst of A ks bs al made i).bs.length = bs.length ∧ (pst of A ks bs al made (i + 1)) = ⟨(pst of A ks bs al made i).bs.set i (.mk b.name b.ty (bD of false b.body A (pst of A ks bs al made i).made).1), (pst of A ks bs al made i).ks, (pst of A ks bs al made i).al, (bD of false b.body A (pst of A ks bs al made i).made).2⟩ := by
 have hi := (List.getElem?_eq_some_iff.1 h).1
 have hc := fZ of A (bs.take i) made;rw [oY (by omega)] at hc;have e1 : i - bs.length = 0 := by omega
 have e2 : i + 1 - bs.length = 0 := by omega
 unfold pst;dsimp only;rw [e1, e2];simp only [Nat.zero_sub, take_zero, bX, c0, nil_append, drop_zero];rw [bG h, kM];refine ⟨qA hc h, by rw [length_append, hc, length_drop]; omega, ?_⟩;rw [p9 hc hi]
theorem aIw {i j : Nat} {k : Core} (hj : i = bs.length + j) (h : ks[j]? = some k) : (pst of A ks bs al made i).ks[j]? = some k ∧ (pst of A ks bs al made i).ks.length = ks.length ∧ (pst of A ks bs al made (i + 1)) = ⟨(pst of A ks bs al made i).bs, (pst of A ks bs al made i).ks.set j (bD of false k A (pst of A ks bs al made i).made).1, (pst of A ks bs al made i).al, (bD of false k A (pst of A ks bs al made i).made).2⟩ := by
 subst hj;have hi := (List.getElem?_eq_some_iff.1 h).1
 have e1 : bs.length + j - bs.length = j := by omega
 have e2 : bs.length + j + 1 - bs.length = j + 1 := by omega
 have e3 : j - ks.length = 0 := by omega
 have e4 : j + 1 - ks.length = 0 := by omega
 unfold pst;dsimp only;rw [e1, e2, e3, e4];simp only [take_zero, c0, nil_append, drop_zero];rw [take_of_length_le (by omega : bs.length ≤ bs.length + j), take_of_length_le (by omega : bs.length ≤ bs.length + j + 1), drop_eq_nil_of_le (by omega : bs.length ≤ bs.length + j), drop_eq_nil_of_le (by omega : bs.length ≤ bs.length + j + 1)];have hc := fY of A (ks.take j) (bM of bs A made).2;rw [oY (by omega)] at hc;rw [bG h, kK];refine ⟨qA hc h, by rw [length_append, hc, length_drop]; omega, ?_⟩;rw [p9 hc hi]
theorem aIy {i j : Nat} {a : Alt} (hj : i = bs.length + (ks.length + j)) (h : al[j]? = some a) : (pst of A ks bs al made i).al[j]? = some a ∧ (pst of A ks bs al made i).al.length = al.length ∧ (pst of A ks bs al made (i + 1)) = ⟨(pst of A ks bs al made i).bs, (pst of A ks bs al made i).ks, (pst of A ks bs al made i).al.set j (.mk a.form a.n a.name a.vars (bD of false a.body (ext A a.vars) (pst of A ks bs al made i).made).1), (bD of false a.body (ext A a.vars) (pst of A ks bs al made i).made).2⟩ := by
 subst hj;have hi := (List.getElem?_eq_some_iff.1 h).1
 have e1 : bs.length + (ks.length + j) - bs.length = ks.length + j := by omega
 have e2 : bs.length + (ks.length + j) + 1 - bs.length = ks.length + (j + 1) := by omega
 have e3 : ks.length + j - ks.length = j := by omega
 have e4 : ks.length + (j + 1) - ks.length = j + 1 := by omega
 unfold pst;dsimp only;rw [e1, e2, e3, e4]
 rw [take_of_length_le (by omega : bs.length ≤ bs.length + (ks.length + j)), take_of_length_le (by omega : bs.length ≤ bs.length + (ks.length + j) + 1), drop_eq_nil_of_le (by omega : bs.length ≤ bs.length + (ks.length + j)), drop_eq_nil_of_le (by omega : bs.length ≤ bs.length + (ks.length + j) + 1),
  take_of_length_le (by omega : ks.length ≤ ks.length + j), take_of_length_le (by omega : ks.length ≤ ks.length + (j + 1)), drop_eq_nil_of_le (by omega : ks.length ≤ ks.length + j), drop_eq_nil_of_le (by omega : ks.length ≤ ks.length + (j + 1))]
 have hc := gA of A (al.take j) (bX of ks A (bM of bs A made).2).2;rw [oY (by omega)] at hc;rw [bG h, kP];refine ⟨qA hc h, by rw [length_append, hc, length_drop]; omega, ?_⟩;rw [p9 hc hi]
theorem aFe (i : Nat) : (pst of A ks bs al made i).made.length ≤ made.length + bP (bs.take i) + bL (ks.take (i - bs.length)) + bI (al.take (i - bs.length - ks.length)) := by
 unfold pst;dsimp only;have h1 := kL of (bs.take i) A made;have h2 := kJ of (ks.take (i - bs.length)) A (bM of (bs.take i) A made).2;have h3 := kO of (al.take (i - bs.length - ks.length)) A (bX of (ks.take (i - bs.length)) A (bM of (bs.take i) A made).2).2;omega
theorem aCn (i : Nat) (hi : i ≤ bs.length + (ks.length + al.length)) : (pst of A ks bs al made i).bs.length = bs.length ∧ (pst of A ks bs al made i).ks.length = ks.length ∧ (pst of A ks bs al made i).al.length = al.length := by
 unfold pst;dsimp only;rw [length_append, length_append, length_append, fZ, fY, gA, length_take, length_take, length_take, length_drop, length_drop, length_drop];omega
end
theorem zY {f n : Int} {s : Str} {t : Ty} {ks : List Core} {bs : List Bind} {al : List Alt} (hf : ¬ f = 5) (hw : wfR (.mk f n s t ks bs al) = true) (of : Str) (A : Str → Bool) (made : List Sup) {i : Nat} (hi : i < (dL f s ks bs al).length) {p : List Str × Core} (hp : (bV f s ks bs al)[i]? = some p) :
  wfR p.2 = true ∧ cE p.2 ≤ cE (.mk f n s t ks bs al) ∧ (nmR (.mk f n s t ks bs al) = true → nmR p.2 = true ∧ ∀ u ∈ p.1, u ∈ nmL) ∧ (pst of A ks bs al made i).made.length + cE p.2 ≤ made.length + cE (.mk f n s t ks bs al) := by
 have hpf := @aFe of A ks bs al made i;simp only [wfR, Bool.and_eq_true] at hw;have hb0 := rT bs i;have hk0 := mX ks (i - bs.length);have ha0 := rV al (i - bs.length - ks.length);rw [cE, if_neg hf];rcases lW f s ks bs al hi with ⟨j, b, hb, _, hpa, hij⟩ | ⟨j, k, hk, _, hpa, hij⟩ | ⟨j, a, ha, _, hpa, hij⟩
 ·rw [hpa] at hp; cases hp;have hm := List.mem_of_getElem? hb;have hl := rU hb;subst hij;have hlt := (List.getElem?_eq_some_iff.1 hb).1
  have e1 : i - bs.length = 0 := by omega
  rw [e1, take_zero, Nat.zero_sub, take_zero, bL, bI] at hpf;dsimp only;refine ⟨(oW hw.2.2.1 b hm).2, by omega, fun hn => ⟨?_, vQ hn⟩, by omega⟩;simp only [nmR, Bool.and_eq_true] at hn;exact (pJ hn.2.2.1 b hm).2
 ·rw [hpa] at hp; cases hp;have hm := List.mem_of_getElem? hk;have hl := rS hk;subst hij;have hlt := (List.getElem?_eq_some_iff.1 hk).1
  have e1 : bs.length + j - bs.length = j := by omega
  have e2 : j - ks.length = 0 := by omega
  rw [e1, e2, take_zero, bI] at hpf;dsimp only;refine ⟨oV hw.2.1 k hm, by omega, fun hn => ⟨?_, vQ hn⟩, by omega⟩;simp only [nmR, Bool.and_eq_true] at hn;exact vR hn.2.1 k hm
 ·rw [hpa] at hp; cases hp;have hm := List.mem_of_getElem? ha;have hl := rW ha;subst hij;have e1 : bs.length + (ks.length + j) - bs.length = ks.length + j := by omega
  have e2 : ks.length + j - ks.length = j := by omega
  rw [e1, e2] at hpf;have hk1 := mX ks (ks.length + j);dsimp only;refine ⟨oX hw.2.2.2 a hm, by omega, fun hn => ?_, by omega⟩;have hg := vQ hn;simp only [nmR, Bool.and_eq_true] at hn;obtain ⟨h1, h2⟩ := vT hn.2.2.2 a hm;refine ⟨h2, fun u hu => ?_⟩;rcases mem_append.1 hu with hu | hu
  ·exact hg u hu
  ·exact h1 u hu
theorem aHx {f n : Int} {s : Str} {t : Ty} {ks : List Core} {bs : List Bind} {al : List Alt} (hf : ¬ f = 5) (ih : ∀ x, aG x < aG (.mk f n s t ks bs al) → tH x) (of : Str) (a : CM) (made : List Sup) (hw : wfR (.mk f n s t ks bs al) = true) (hof : of.length ≤ 1000000) (hm : ∀ u, 0 ≤ cnt a u ∧ cnt a u + aG (.mk f n s t ks bs al) ≤ 1000000000) (hsz : aG (.mk f n s t ks bs al) ≤ 400000) (h5 : aIf (.mk f n s t ks bs al) (cA a)) (hmd : made.length + cE (.mk f n s t ks bs al) ≤ 90) :
  ∃ a', mB a a' ∧ bN Tryd.prog 57 [.one (.vp 700 0), .one (.mr 801), .one (.mth 37 (.vp 810 0))] [(801, cR a), (700, .var 38 (bT (.mk f n s t ks bs al))), (810, lfO of made), (901, kQ made)] (.tup [])
   [(801, cR a'), (700, .var 38 (bT (bD of false (.mk f n s t ks bs al) (cA a) made).1)), (810, lfO of (bD of false (.mk f n s t ks bs al) (cA a) made).2), (901, kQ (bD of false (.mk f n s t ks bs al) (cA a) made).2)] := by
 have hm0 : ∀ u, 0 ≤ cnt a u := fun u => (hm u).1
 have hfp := fun {i : Nat} {p : List Str × Core} (hi : i < (dL f s ks bs al).length) (hp : (bV f s ks bs al)[i]? = some p) => zY hf hw of (ext (cA a) (gvs f s bs)) made hi hp
 have hend := aFf of (ext (cA a) (gvs f s bs)) ks bs al made;rw [← fI f s ks bs al] at hend;have hpr : bD of false (.mk f n s t ks bs al) (cA a) made = (.mk f n s t (pst of (ext (cA a) (gvs f s bs)) ks bs al made (dL f s ks bs al).length).ks (pst of (ext (cA a) (gvs f s bs)) ks bs al made (dL f s ks bs al).length).bs (pst of (ext (cA a) (gvs f s bs)) ks bs al made (dL f s ks bs al).length).al, (pst of (ext (cA a) (gvs f s bs)) ks bs al made (dL f s ks bs al).length).made) := by
  rw [bD, if_neg hf, hend]
 rw [hpr];have hp0 := aIz of (ext (cA a) (gvs f s bs)) ks bs al made;have hlen := fun i => @aCn of (ext (cA a) (gvs f s bs)) ks bs al made i
 have hN : (dL f s ks bs al).length = (bV f s ks bs al).length := by rw [fI, kI]
 have hin : ∀ p ∈ bV f s ks bs al, _ := fun p hp => @pG f n s t ks bs al p hp
 have hat := @lW f s ks bs al;have hcp := uE f n s t ks bs al hsz;have hrr : ∀ x ∈ (yL (dL f s ks bs al)).refs, x ∈ fA.refs := dI;have hpl := fI f s ks bs al;obtain ⟨hkl, hbl, hal⟩ : ks.length < 400000 ∧ bs.length < 400000 ∧ al.length < 400000 := by
  obtain ⟨_, _, _, q1, q2, q3⟩ := @gP f n s t ks bs al;omega
 have hrl : (dL f s ks bs al).length ≤ 1200000 := by omega
 obtain ⟨sq, hs0, hsP, hsR⟩ := j0 (P := fun _ x => mB a x) (R := fun i x y => i < (dL f s ks bs al).length → ∀ p, (bV f s ks bs al)[i]? = some p → ∃ m', y = decs p.1 m' ∧ mB (gE p.1 x) m' ∧
   bN Tryd.prog 37 [.one (.vp 810 0), .pa (aE p.2), .one (.mr 801)] (lH 801 of (pst of (ext (cA a) (gvs f s bs)) ks bs al made i).made (gE p.1 x)) (.pa (aE (bD of false p.2 (ext (cA a) p.1) (pst of (ext (cA a) (gvs f s bs)) ks bs al made i).made).1)) (lH 801 of (bD of false p.2 (ext (cA a) p.1) (pst of (ext (cA a) (gvs f s bs)) ks bs al made i).made).2 m')) a (fun _ => rfl) (fun i x hx => by
  by_cases hi : i < (dL f s ks bs al).length
  ·obtain ⟨p, hp⟩ := aI (l := bV f s ks bs al) (by omega : i < (bV f s ks bs al).length);obtain ⟨q1, q2⟩ := hin p (List.mem_of_getElem? hp);obtain ⟨w1, w2, w3, w4⟩ := hfp hi hp;have hx0 : ∀ u, 0 ≤ cnt x u := fun u => by rw [← hx u]; exact hm0 u
   have hga : cA (gE p.1 x) = ext (cA a) p.1 := by rw [iJ hx0, ← jZ hx]
   obtain ⟨m', g1, g2⟩ := ih p.2 q1 of (gE p.1 x) (pst of (ext (cA a) (gvs f s bs)) ks bs al made i).made w1 hof (fun u => by
    have h1 := hm u;have h2 := hx u;have h3 := cF u p.1 x;have h4 : 0 ≤ times u p.1 ∧ times u p.1 ≤ p.1.length := by
     unfold times;have := count_le_length (a := u) (l := p.1);omega
    omega) (by omega) (by
    rw [hga];rcases h5 with h5 | ⟨h5, h6⟩
    ·exact .inl (by omega)
    ·obtain ⟨w5, w6⟩ := w3 h5;refine .inr ⟨w5, fun u hu => ?_⟩;simp only [ext, Bool.or_eq_true, decide_eq_true_eq] at hu
     exact hu.elim (h6 u) (w6 u)) (by omega)
   rw [hga] at g2;exact ⟨decs p.1 m', fun u => by rw [hx u]; exact mB.decs g1 u, fun _ p' h => by rw [hp] at h; cases h; exact ⟨m', rfl, g1, g2⟩⟩
  ·exact ⟨x, hx, fun h => absurd h hi⟩)
 refine ⟨sq (dL f s ks bs al).length, hsP _, ?_⟩;have hPB := fun {i : Nat} {b : Bind} (hb : bs[i]? = some b) => aIx (of := of) (A := ext (cA a) (gvs f s bs)) (ks := ks) (al := al) (made := made) hb
 have hPK := fun {i j : Nat} {k : Core} (hij : i = bs.length + j) (hk : ks[j]? = some k) => aIw (of := of) (A := ext (cA a) (gvs f s bs)) (al := al) (made := made) hij hk
 have hPA := fun {i j : Nat} {k : Alt} (hij : i = bs.length + (ks.length + j)) (hk : al[j]? = some k) => aIy (of := of) (A := ext (cA a) (gvs f s bs)) (made := made) hij hk
 have hext : ∀ v, ext (ext (cA a) (gvs f s bs)) v = ext (cA a) (gvs f s bs ++ v) := fun v => pT _ _ _
 generalize pst of (ext (cA a) (gvs f s bs)) ks bs al made = PS at hp0 hlen hsR hPB hPK hPA hend ⊢;generalize dL f s ks bs al = rows at hN hat hcp hrr hrl hsR hend hpl ⊢;refine cT (n := 21) tok Tryd.func57 rfl rfl rfl ?_;refine a8 (ag [] rfl ?_);refine a8 (aJ mixed ?_);refine ak 1 [] rfl ?_;refine kc hcp ?_;refine ak 2 [] rfl ?_;refine az ?_;refine aB ?_;refine aL (fun i : Nat => mk [(4, .one (.vp 4 0)), (5, .one (.vp 5 0)), (9, .one (.ra 704 0 rows.length rows.length)), (10, I .i64 ((rows.length : Nat) : Int)), (11, I .i64 i)] ((704, yL rows) :: [(4, .var mT [.mr 801]), (5, .var 76 [.mth 37 (.vp 810 0)]), (700, .var 38 (iO f n s t ks.length bs.length al.length)), (701, .arr 46 15 (aP (PS i).bs) 0), (702, .arr 38 10 (bB (PS i).ks) 0), (703, .arr 65 14 (bH (PS i).al) 0), (801, cR (sq i)), (810, lfO of (PS i).made), (901, kQ (PS i).made)])) (fun i => i ≤ rows.length) (fun i => rows.length - i) 0 (zero_le _) (by rw [hs0, hp0]; exact slR fA hrr ⟨_, rfl, .rarrS rfl⟩) ?_;intro i hi;refine a8 (ag [] rfl ?_);refine a8 (aA rfl (fun hb => ?_) (fun hb => ?_))
 ·have hlt : i < rows.length := by
   have : (i : Int) < (rows.length : Int) := of_decide_eq_true hb;omega
  refine aD ?_;refine a8 (aB ?_);obtain ⟨l1, l2, l3⟩ := hlen i (by omega);rcases hat hlt with ⟨j, b, hb', hro, hpa, hij⟩ | ⟨j, k, hk', hro, hpa, hij⟩ | ⟨j, al', ha', hro, hpa, hij⟩
  ·subst hij;obtain ⟨r1, r2, r3⟩ := hPB hb';obtain ⟨m', e1, e2, e3⟩ := hsR i hlt _ hpa;obtain ⟨q1, q2⟩ := hin _ (List.mem_of_getElem? hpa);have hx := hsP i;dsimp only at e1 e3 q2;have hc0 : bN Tryd.prog 37 [.one (.vp 810 0), .pa (aE b.body), .one (.mr 800)] (lH 800 of (PS i).made (gE (gvs f s bs) (sq i))) (.pa (aE (bD of false b.body (ext (cA a) (gvs f s bs)) (PS i).made).1)) (lH 800 of (bD of false b.body (ext (cA a) (gvs f s bs)) (PS i).made).2 m') := e3.swap 801 800;have hc1 := aA1 (ks := (PS i).ks) (bs := (PS i).bs) (al := (PS i).al) (gvs f s bs) r1 hc0
   have hci := dT (gvs f s bs) (sq i) m' _ _ [800, 4, 5, 7, 701, 702, 703, 810, 901] (by omega) (fun u => by have := hm u; have := hx u; omega) (fun u => by
    have h1 := hm u;have h2 := hx u;have h3 := e2 u;dsimp only at h3;rw [cF] at h3;have h4 : 0 ≤ times u (gvs f s bs) ∧ times u (gvs f s bs) ≤ (gvs f s bs).length := by
     unfold times;have := count_le_length (a := u) (l := gvs f s bs);omega
    omega) (wfE _ _ _ _ _ _ _ (by simp [R.refs])) (wfE _ _ _ _ _ _ _ (by simp [R.refs])) rfl (by kernel_rfl) hc1
   have hcs : bN Tryd.prog 23 [.one (.mr 801), b7 (gvs f s bs), .one (.clo 70 [.vp 5 0, .vp 7 0, .vp 4 0])] ((801, cR (sq i)) :: eL 801 (.ep 701 i 5 (PS i).bs.length) (gvs f s bs) of (PS i).made (PS i).ks (PS i).bs (PS i).al) (.tup []) ((801, cR (sq (i + 1))) :: eL 801 (.ep 701 i 5 (PS i).bs.length) (gvs f s bs) of (PS (i + 1)).made (PS (i + 1)).ks (PS (i + 1)).bs (PS (i + 1)).al) := by
    rw [e1, r3];exact hci.swap 800 801
   rw [r2] at hcs;refine a8 (ag [(1, .rr (mN 701 5 bs.length (gvs f s bs) i))] rfl ?_);refine aJ mixed ?_;refine ak 4 [] rfl ?_;refine kc hcs ?_;refine az ?_;refine ag [] rfl ?_;exact ⟨i + 1, hlt, by dsimp only; omega, slR fA hrr ⟨_, rfl, .rarrS rfl⟩⟩
  ·obtain ⟨r1, r2, r3⟩ := hPK hij hk';obtain ⟨m', e1, e2, e3⟩ := hsR i hlt _ hpa;obtain ⟨q1, q2⟩ := hin _ (List.mem_of_getElem? hpa);have hx := hsP i;dsimp only at e1 e3 q2;have hc0 : bN Tryd.prog 37 [.one (.vp 810 0), .pa (aE k), .one (.mr 800)] (lH 800 of (PS i).made (gE (gvs f s bs) (sq i))) (.pa (aE (bD of false k (ext (cA a) (gvs f s bs)) (PS i).made).1)) (lH 800 of (bD of false k (ext (cA a) (gvs f s bs)) (PS i).made).2 m') := e3.swap 801 800;have hc1 := aA0 (ks := (PS i).ks) (bs := (PS i).bs) (al := (PS i).al) (gvs f s bs) r1 hc0
   have hci := dT (gvs f s bs) (sq i) m' _ _ [800, 4, 5, 7, 701, 702, 703, 810, 901] (by omega) (fun u => by have := hm u; have := hx u; omega) (fun u => by
    have h1 := hm u;have h2 := hx u;have h3 := e2 u;dsimp only at h3;rw [cF] at h3;have h4 : 0 ≤ times u (gvs f s bs) ∧ times u (gvs f s bs) ≤ (gvs f s bs).length := by
     unfold times;have := count_le_length (a := u) (l := gvs f s bs);omega
    omega) (wfE _ _ _ _ _ _ _ (by simp [R.refs])) (wfE _ _ _ _ _ _ _ (by simp [R.refs])) rfl (by kernel_rfl) hc1
   have hcs : bN Tryd.prog 23 [.one (.mr 801), b7 (gvs f s bs), .one (.clo 70 [.vp 5 0, .vp 7 0, .vp 4 0])] ((801, cR (sq i)) :: eL 801 (.ep 702 j 0 (PS i).ks.length) (gvs f s bs) of (PS i).made (PS i).ks (PS i).bs (PS i).al) (.tup []) ((801, cR (sq (i + 1))) :: eL 801 (.ep 702 j 0 (PS i).ks.length) (gvs f s bs) of (PS (i + 1)).made (PS (i + 1)).ks (PS (i + 1)).bs (PS (i + 1)).al) := by
    rw [e1, r3];exact hci.swap 800 801
   rw [r2] at hcs;refine a8 (ag [(1, .rr (mN 702 0 ks.length (gvs f s bs) j))] rfl ?_);refine aJ mixed ?_;refine ak 4 [] rfl ?_;refine kc hcs ?_;refine az ?_;refine ag [] rfl ?_;exact ⟨i + 1, hlt, by dsimp only; omega, slR fA hrr ⟨_, rfl, .rarrS rfl⟩⟩
  ·obtain ⟨r1, r2, r3⟩ := hPA hij ha';rw [hext] at r3;obtain ⟨m', e1, e2, e3⟩ := hsR i hlt _ hpa;obtain ⟨q1, q2⟩ := hin _ (List.mem_of_getElem? hpa);have hx := hsP i;dsimp only at e1 e3 q2;have hc0 : bN Tryd.prog 37 [.one (.vp 810 0), .pa (aE al'.body), .one (.mr 800)] (lH 800 of (PS i).made (gE (gvs f s bs ++ al'.vars) (sq i))) (.pa (aE (bD of false al'.body (ext (cA a) (gvs f s bs ++ al'.vars)) (PS i).made).1)) (lH 800 of (bD of false al'.body (ext (cA a) (gvs f s bs ++ al'.vars)) (PS i).made).2 m') := e3.swap 801 800;have hc1 := aA2 (ks := (PS i).ks) (bs := (PS i).bs) (al := (PS i).al) (gvs f s bs ++ al'.vars) r1 hc0
   have hci := dT (gvs f s bs ++ al'.vars) (sq i) m' _ _ [800, 4, 5, 7, 701, 702, 703, 810, 901] (by omega) (fun u => by have := hm u; have := hx u; omega) (fun u => by
    have h1 := hm u;have h2 := hx u;have h3 := e2 u;dsimp only at h3;rw [cF] at h3;have h4 : 0 ≤ times u (gvs f s bs ++ al'.vars) ∧ times u (gvs f s bs ++ al'.vars) ≤ (gvs f s bs ++ al'.vars).length := by
     unfold times;have := count_le_length (a := u) (l := gvs f s bs ++ al'.vars);omega
    omega) (wfE _ _ _ _ _ _ _ (by simp [R.refs])) (wfE _ _ _ _ _ _ _ (by simp [R.refs])) rfl (by kernel_rfl) hc1
   have hcs : bN Tryd.prog 23 [.one (.mr 801), b7 (gvs f s bs ++ al'.vars), .one (.clo 70 [.vp 5 0, .vp 7 0, .vp 4 0])] ((801, cR (sq i)) :: eL 801 (.ep 703 j 4 (PS i).al.length) (gvs f s bs ++ al'.vars) of (PS i).made (PS i).ks (PS i).bs (PS i).al) (.tup []) ((801, cR (sq (i + 1))) :: eL 801 (.ep 703 j 4 (PS i).al.length) (gvs f s bs ++ al'.vars) of (PS (i + 1)).made (PS (i + 1)).ks (PS (i + 1)).bs (PS (i + 1)).al) := by
    rw [e1, r3];exact hci.swap 800 801
   rw [r2] at hcs;refine a8 (ag [(1, .rr (mN 703 4 al.length (gvs f s bs ++ al'.vars) j))] rfl ?_);refine aJ mixed ?_;refine ak 4 [] rfl ?_;refine kc hcs ?_;refine az ?_;refine ag [] rfl ?_;exact ⟨i + 1, hlt, by dsimp only; omega, slR fA hrr ⟨_, rfl, .rarrS rfl⟩⟩
 have hge : i = rows.length := by
  have : ¬ (i : Int) < (rows.length : Int) := of_decide_eq_false hb;omega
 subst hge;obtain ⟨l1, l2, l3⟩ := hlen rows.length (by omega);have k1 : bs.length = (aP (PS rows.length).bs).length := by rw [aU, length_map]; exact l1.symm
 have k2 : ks.length = (bB (PS rows.length).ks).length := by rw [b9, length_map]; exact l2.symm
 have k3 : al.length = (bH (PS rows.length).al).length := by rw [aV, length_map]; exact l3.symm
 refine AWp.sub (Sub.freeze (id := 701) rfl) (AWp.sub (Sub.freeze (id := 702) rfl) (AWp.sub (Sub.freeze (id := 703) rfl) (AWp.sub (vp 700 (aE (.mk f n s t (PS rows.length).ks (PS rows.length).bs (PS rows.length).al))) ?_)));refine aM ?_;exact ⟨.inl rfl, ⟨_, _, .nil, .nil, rfl⟩, ⟨⟨_, rfl, .map⟩, ⟨_, rfl, .var rfl⟩, ⟨_, rfl, .var rfl⟩, ⟨_, rfl, .arr⟩, trivial⟩, rfl⟩
theorem aCr : ∀ s ∈ nmL, s.length ≤ 1000000 := by decide
theorem w9 : cA [] = fun _ => false := rfl
theorem eH (l : List Str) : cA (gE l []) = fun x => decide (x ∈ l) := by
 rw [iJ (fun _ => Int.le_refl _), w9]; rfl
theorem aAr {m m' : CM} {of : Str} {made made' : List Sup} {c c' : Core}
  (hf : bN Tryd.prog 37 [.one (.vp 810 0), .pa (aE c), .one (.mr 800)] (lH 800 of made m) (.pa (aE c')) (lH 800 of made' m')) :
  bN Tryd.prog 69 ([R.vp 3 0, R.vp 9 0, R.vp 13 0].map V.one) [(800, cR m), (3, .var 73 [.vp 810 0]), (9, .var 38 (bT c)), (13, .var mT [.mr 800]), (810, lfO of made), (901, kQ made)] (.tup []) [(800, cR m'), (3, .var 73 [.vp 810 0]), (9, .var 38 (bT c')), (13, .var mT [.mr 800]), (810, lfO of made'), (901, kQ made')] := by
 refine cT (n := 7) tok Tryd.func69 rfl rfl rfl ?_;refine aJ mixed ?_;refine ak 3 [] rfl ?_;refine kc hf ?_;refine ak 1 [] rfl ?_;refine az ?_;exact ⟨.inl rfl, ⟨_, _, .nil, .nil, rfl⟩, ⟨⟨_, rfl, .map⟩, ⟨_, rfl, .var rfl⟩, ⟨_, rfl, .var rfl⟩, ⟨_, rfl, .var rfl⟩, ⟨_, rfl, .var rfl⟩, ⟨_, rfl, .arr⟩, trivial⟩, rfl⟩
theorem aDc (c : Core) (hf : c.form = 5) (ih : ∀ x, aG x < aG c → tH x) (of : Str) (a : CM) (made : List Sup) (hw : wfR c = true) (hof : of.length ≤ 1000000) (hm : ∀ u, 0 ≤ cnt a u ∧ cnt a u + aG c ≤ 1000000000) (hsz : aG c ≤ 400000) (h5 : aIf c (cA a)) (hmd : made.length + cE c ≤ 90) :
  bN Tryd.prog 56 [.one (.vp 810 0), .pa (aE c), .one (.mr 801)] (lH 801 of made a) (.pa (aE (bD of false c (cA a) made).1)) (lH 801 of (bD of false c (cA a) made).2 a) := by
 have hM : 1000000000 ≤ maxLen := by decide
 obtain ⟨w1, w2, w3, w4, w5, w6⟩ := iR _ c (le_refl _) hw;have w6 := w6 hf;have hl1 : 1 ≤ cE c := by
  obtain ⟨f, n, s, t, ks, bs, al⟩ := c;have hf : f = 5 := hf;rw [cE, if_pos hf]; omega
 obtain ⟨h5, h6⟩ : nmR c = true ∧ ∀ s, cA a s = true → s ∈ nmL := by
  rcases h5 with h5 | h5
  ·omega
  ·exact h5
 obtain ⟨n1, n2, n3⟩ := jX _ c (le_refl _) hw h5;obtain ⟨m', hsm, hfr⟩ := aAn _ c (le_refl _) [] a [] (fun s => by show (0 : Int) ≤ 0 ∧ (0 : Int) + _ ≤ _; omega) hsz (by simp; omega);rw [w9] at hfr;have hch := wN c w1 (by omega);have hfi := iZ (cA a) c (fun _ => false) [] (fun s hs => by simp at hs);have hfo := gL (cA a) c (fun _ => false) [] nodup_nil;have hr : bD of false c (cA a) made = (let free := bZ (cA a) c (fun _ => false) []; let all := free ++ aW c; let r := bD of false (bJ c) (fun x => decide (x ∈ all)) (made ++ [⟨cX of made.length, aX all, eE⟩]); (eI (dR (cX of made.length)) free, setBody r.2 made.length r.1)) := by
  have hpc := jG of _ c (le_refl _) hw;obtain ⟨f, n, s, t, ks, bs, al⟩ := c;have hf : f = 5 := hf;rw [bD, if_pos hf, if_neg Bool.false_ne_true];have hN : aW (.mk f n s t ks bs al) = s :: cM ks := by rw [aW, if_pos hf]
  simp only [hN];have := hpc (fun x => decide (x ∈ bZ (cA a) (.mk f n s t ks bs al) (fun _ => false) [] ++ s :: cM ks)) (made ++ [⟨cX of made.length, aX (bZ (cA a) (.mk f n s t ks bs al) (fun _ => false) [] ++ s :: cM ks), eE⟩]);rw [bD, if_pos hf, if_pos rfl] at this;rw [this]
 rw [hr];dsimp only;generalize bZ (cA a) c (fun _ => false) [] = free at hfr hfi hfo ⊢;have hfn : ∀ s ∈ free, s ∈ nmL := fun s hs => h6 s (hfi s hs)
 have hfl : free.length ≤ 5 := iE nmL free hfo hfn;have hcl : (aW c).length ≤ 90 := by omega
 have hc1 : 1 ≤ (aW c).length := by
  obtain ⟨f, n, s, t, ks, bs, al⟩ := c;have hf : f = 5 := hf;rw [aW, if_pos hf]; exact Nat.le_add_left _ _
 have han : ∀ s ∈ free ++ aW c, s ∈ nmL := by
  intro s hs;rcases mem_append.1 hs with hs | hs
  ·exact hfn s hs
  ·exact n1 s hs
 have hwi := wQ free (aW c) (by omega);have hpa := wO (free ++ aW c) (by rw [length_append]; omega) fun s hs => aCr s (han s hs)
 have hdc := aEh (made.length + 1) (by omega);have hdl := jN (made.length + 1);have hal : (free ++ aW c).length ≤ 100 := by rw [length_append]; omega
 generalize hAll : free ++ aW c = all at hwi hpa hal han ⊢;have hti : ∀ s, 0 ≤ times s all ∧ times s all ≤ 100 := fun s => by
  have := gG s all all.length;rw [take_length] at this;omega
 have hca : ∀ u, cnt (gE all []) u = times u all := fun u => by rw [cF]; show (0 : Int) + _ = _; omega
 obtain ⟨m2, hs2, hpt⟩ := ih (bJ c) w6 of (gE all []) (made ++ [⟨cX of made.length, aX all, eE⟩]) w2 hof (fun u => by
  have := hti u;rw [hca u]
  omega) (by omega) (.inr ⟨n2, fun s hs => by rw [eH] at hs; exact han s (of_decide_eq_true hs)⟩) (by rw [length_append, length_singleton]; omega)
 rw [eH] at hpt;have hln := eZ of (bJ c) false (fun x => decide (x ∈ all)) (made ++ [⟨cX of made.length, aX all, eE⟩]);rw [length_append, length_singleton] at hln;generalize bD of false (bJ c) (fun x => decide (x ∈ all)) (made ++ [⟨cX of made.length, aX all, eE⟩]) = r at hpt hln ⊢;have hp1 := aAr (hpt.swap 801 800)
 have hp2 := dT all [] m2 _ _ [800, 3, 9, 13, 810, 901] (by omega) (fun u => by show (0 : Int) ≤ (0 : Int) ∧ (0 : Int) ≤ _; omega) (fun u => by
  have := hti u;have := hs2 u;rw [hca u] at this
  omega) (fun x => ⟨rfl, by kernel_rfl⟩) (fun x => ⟨rfl, by kernel_rfl⟩) rfl (by kernel_rfl) hp1
 have hp3 := hp2.swap 800 803;obtain ⟨y, hy⟩ := aI (show made.length < r.2.length by omega);have hy' := c6 aY hy;have hset := mI r.1 r.2 made.length y hy;have hset' : r.2.length = (setBody r.2 made.length r.1).length := (eN _ _ _).symm;have hlg : [R.c (.str of), .hs 901 0 r.2.length r.2.length] = R.renL (fun i => i) [R.c (.str of), .hs 901 0 (setBody r.2 made.length r.1).length (setBody r.2 made.length r.1).length] := by rw [eN]; rfl
 refine cT (n := 84) tok Tryd.func56 rfl rfl rfl ?_;refine a8 (ag [] rfl ?_);refine a8 (ag [(0, .id 802)] rfl ?_);refine AWp.sub (Sub.ownCell (x := 802) (k := 0) (id := 900) 9 1 rfl rfl rfl) ?_;refine AWp.sub (st2 := mk [(2, .one (.mr 801)), (3, .one (.vp 3 0)), (4, .one (.vp 4 0)), (6, .one (.vp 6 0)), (7, .one (.vp 802 0))] [(3, .var 73 [.vp 810 0]), (4, .var 38 (bT c)), (6, .var 38 hY), (801, cR a), (802, .var 31 [.hs 900 0 0 0]), (900, pH []), (810, lfO of made), (901, kQ made)]) sl ?_;refine a8 (aJ mixed ?_);refine ak 3 [(0, .id 800)] rfl ?_;refine kc hfr ?_;refine az ?_;refine AWp.sub (Sub.freeze (id := 900) rfl) ?_;refine AWp.sub (vp 802 [.sl 1 (free.map bF)] (hp := .hs rfl (by simp) take_map.symm .nil)) ?_;refine a8 (ag [(1, .pc (.tup [b7 (aW c), .pa (aE (bJ c))]))] rfl ?_);refine a8 (ag [(2, .all), (3, .pc (b7 all))] rfl ?_);refine a8 (ag [] rfl ?_);refine a8 (agN [(7, .pc (Go.AM.T (dec (made.length + 1))))] rfl ?_);refine a8 (ag [(8, .pc (b7 (aX all)))] rfl ?_);have hmk : made.map aY ++ [aY (Sup.mk (cX of made.length) (aX all) eE)] = (made ++ [Sup.mk (cX of made.length) (aX all) eE]).map aY := by rw [map_append]; rfl
 have hlf : [R.c (.str of), .hs 901 0 ((made.map aY).length + 1) ((made.map aY).length + 1)] = R.renL (fun i => i) [R.c (.str of), .hs 901 0 (made ++ [Sup.mk (cX of made.length) (aX all) eE]).length (made ++ [Sup.mk (cX of made.length) (aX all) eE]).length] := by rw [length_append, length_map]; rfl
 refine AWp.sub (vp 12 (aE (dR (cX of made.length)))) ?_;refine AWp.sub (st2 := mk [(2, .one (.mr 801)), (3, .one (.vp 3 0)), (6, .one (.vp 6 0)), (7, .one (.vp 802 0)), (9, .one (.vp 9 0)), (10, b7 all), (11, I .i64 ((made.length : Nat) : Int)), (12, .one (.vp 12 0))] [(3, .var 73 [.vp 810 0]), (6, .var 38 hY), (9, .var 38 (bT (bJ c))), (12, .var 38 (bT (dR (cX of made.length)))), (801, cR a), (802, .var 31 [.c (.sl 1 (free.map bF))]), (810, lfO of (made ++ [Sup.mk (cX of made.length) (aX all) eE])), (901, kQ (made ++ [Sup.mk (cX of made.length) (aX all) eE]))]) (sl (hh := ⟨⟨_, rfl, .var rfl⟩, ⟨_, rfl, .var rfl⟩, ⟨_, rfl, .var rfl⟩, ⟨_, rfl, .var rfl⟩, ⟨_, rfl, .map⟩, ⟨_, rfl, .var rfl⟩, ⟨_, rfl, .var hlf⟩, ⟨_, rfl, .arrS hmk⟩, trivial⟩)) ?_;refine a8 (ag [(0, .id 803)] rfl ?_);refine a8 (aJ mixed ?_);refine ak 3 [] rfl ?_;refine kc hp3 ?_;refine az ?_;refine a8 (ag [(8, .row made.length (aY y))] rfl ?_);refine a8 (a8 (ag [] rfl ?_));have hkf : (free.map bF).length = free.length := length_map _;refine aB ?_
 refine aL (fun i : Nat => mk [(6, .one (.vp 6 0)), (12, .one (.vp 12 0)), (71, b7 free), (72, I .i64 ((free.map bF).length : Int)), (73, I .i64 i)] [(6, .var 38 hY), (12, .var 38 (bT (eI (dR (cX of made.length)) (free.take i)))), (801, cR a), (810, lfO of (setBody r.2 made.length r.1)), (901, kQ (setBody r.2 made.length r.1))]) (fun i => i ≤ free.length) (fun i => free.length - i) 0 (zero_le _) (by
  exact sl (hh := ⟨⟨_, rfl, .var rfl⟩, ⟨_, rfl, .var rfl⟩, ⟨_, rfl, .map⟩, ⟨_, rfl, .var hlg⟩, ⟨_, rfl, .arrS hset.symm⟩, trivial⟩)) ?_
 intro i hi;refine a8 (ag [] rfl ?_);refine a8 (aA rfl (fun hb => ?_) (fun hb => ?_))
 ·have hlt := ltD hb hkf;obtain ⟨s, hs⟩ := aI hlt;have hs' := c6 bF hs;refine aD ?_;refine a8 (aB (a8 (ag [(0, .row i (bF s))] rfl ?_)));refine ag [(3, .all)] rfl ?_;refine ag [] rfl ?_;refine ⟨i + 1, hlt, by dsimp only; omega, Sub.trans ?_ (vp 12 (aE (tG (eI (dR (cX of made.length)) (free.take i)) (dR s))))⟩;dsimp only;rw [bG hs, iQ];exact sl
 have hge := geD hb hkf hi;subst hge;rw [take_length];refine aM ?_;refine a8 (ag [] rfl ?_);refine aF ?_;exact rtC trw
theorem sM (c : Core) (ih : ∀ x, aG x < aG c → tH x) : tH c := by
 intro of a made hw hof hm hsz h5 hmd;have hm0 : ∀ s, 0 ≤ cnt a s := fun s => (hm s).1
 by_cases hf : c.form = 5
 ·have h := aDc c hf ih of a made hw hof hm hsz h5 hmd;refine ⟨a, fun _ => rfl, ?_⟩;generalize bD of false c (cA a) made = r at h ⊢;refine cT (n := 19) tok Tryd.func37 rfl rfl rfl ?_;refine a8 (ag [] rfl ?_);refine a8 (a8 (ag [] rfl ?_));refine aA rfl (fun _ => ?_) (fun hb => absurd hf (of_decide_eq_false hb));refine a8 (aJ mixed ?_);refine ak 3 [] rfl ?_;refine kc h ?_;refine ak 1 [] rfl ?_;refine az ?_;refine aF ?_;exact rtC trw
 ·obtain ⟨f, n, s, t, ks, bs, al⟩ := c;have hf' : ¬ f = 5 := hf;obtain ⟨a', ha, h⟩ := aHx hf' ih of a made hw hof hm hsz h5 hmd;refine ⟨a', ha, ?_⟩;generalize bD of false (.mk f n s t ks bs al) (cA a) made = r at h ⊢;refine cT (n := 19) tok Tryd.func37 rfl rfl rfl ?_;refine a8 (ag [(0, .id 700)] rfl ?_);refine a8 (a8 (ag [] rfl ?_));refine aA rfl (fun hb => absurd (of_decide_eq_true hb) hf) (fun _ => ?_);refine aD ?_;refine a8 (aJ mixed ?_);refine ak 3 [] rfl ?_;refine kc h ?_;refine az ?_;refine a8 (ag [] rfl ?_);refine aF ?_;exact rtC trw
theorem aAm : ∀ (n : Nat) (c : Core), aG c ≤ n → tH c
 | 0, c, h => by have := cO c; omega
 | n + 1, c, h => sM c fun x hx => aAm n x (by omega)
end Go.Proofs.YtlegeikmepnmcaaDoor
