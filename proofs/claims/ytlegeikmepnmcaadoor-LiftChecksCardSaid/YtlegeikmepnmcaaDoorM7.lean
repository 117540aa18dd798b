/-
  Texts La18 to La21 in one.
-/
import Derived.Test.YtlegeikmepnmcaaDoorM6
import Derived.Shelf.Spec.SlicesGrow
open List (all_eq_true append_assoc append_nil cons_append drop_drop drop_eq_getElem_cons drop_zero eq_nil_of_length_eq_zero flatten_append flatten_cons length_append length_cons length_drop length_map length_nil length_singleton length_take map_append map_cons map_take mem_append mem_cons mem_cons_of_mem mem_cons_self mem_map mem_of_mem_take mem_singleton nil_append nodup_append nodup_cons nodup_nil set_eq_take_append_cons_drop take_length take_of_length_le take_zero)
open Nat (add_mul beq_refl eq_of_beq_eq_true le_of_ble_eq_true le_refl min_eq_left mul_le_mul_right sub_self sub_zero zero_add zero_le)
namespace Go.Proofs.YtlegeikmepnmcaaDoor
open Go Go.AM
set_option maxRecDepth 20000
theorem j2 {α : Type} (p : α → Bool) {l : List α} {i : Nat} {x : α} (h : l[i]? = some x) : (l.take (i + 1)).all p = ((l.take i).all p && p x) := by
 rw [bG h, List.all_append]; simp
theorem all_false {α : Type} {p : α → Bool} {l : List α} {x : α} (h : x ∈ l) (hp : p x = false) : l.all p = false := by
 cases hl : l.all p with
 | false => rfl
 | true => have := all_eq_true.1 hl x h; rw [hp] at this; cases this
def aBr (c : Core) : Prop := ∀ ns : List Str, aG c ≤ 400000 → ns.length + aG c ≤ 1000000 → bN Tryd.prog 33 [.pa (aE c), b7 ns] [] (B (bK c (fun s => decide (s ∈ ns)))) []
theorem l7 (b : Bind) : aG b.body + 1 ≤ bsize b := by obtain ⟨s', t', c'⟩ := b; rw [bsize]; show aG c' + 1 ≤ _; omega
theorem gO (a : Alt) : aG a.body + 1 + (a.vars.map fun v => 1 + v.length).sum ≤ fT a := by obtain ⟨f', n', s', v', c'⟩ := a; rw [fT]; show aG c' + 1 + (v'.map fun v => 1 + v.length).sum ≤ _; omega
theorem uL (c : Core) (ih : ∀ x, aG x < aG c → aBr x) : aBr c := by
 intro ns hsz hln;obtain ⟨f, n, s, t, ks, bs, al⟩ := c;obtain ⟨ihk, ihb, iha, hkl, hbl, hal⟩ := @gP f n s t ks bs al;have hh := nE ns s (by unfold Fits; omega);have hgi := uK (.mk f n s t ks bs al) (by omega);have hgl := pO f s bs;have hwi := lJ ns (gvs f s bs) (by omega);have hsz2 := hsz;have hln2 := hln;rw [aG] at hsz2 hln2;have hbl2 := cC bs;have hil : (ns ++ gvs f s bs).length ≤ ns.length + 1 + bs.length := by rw [length_append]; omega
 have hkB : (aP bs).length = bs.length := by rw [aU, length_map]
 have hkK : (bB ks).length = ks.length := by rw [b9, length_map]
 have hkA : (bH al).length = al.length := by rw [aV, length_map]
 refine cT (n := 109) tok Tryd.func33 rfl rfl rfl ?_;refine a8 (ag [] rfl ?_);refine a8 (a8 (agF 4 [] rfl rfl rfl ?_));refine aA rfl (fun hb => ?_) (fun hb => ?_)
 ·have h0 : f = 5 ∨ f = 7 ∨ f = 6 ∨ t.form ≠ 0 := by
   by_cases a : f = 5
   ·exact .inl a
   by_cases b : f = 7
   ·exact .inr (.inl b)
   by_cases d : f = 6
   ·exact .inr (.inr (.inl d))
   by_cases e : t.form = 0
   ·simp [Core.form, Core.ty, a, b, d, e] at hb
   ·exact .inr (.inr (.inr e))
  rw [show bK (.mk f n s t ks bs al) (fun s => decide (s ∈ ns)) = false by rw [bK, if_pos h0]];refine a8 (ag [] rfl ?_);exact aF (rtT (hc := .refl))
 have h0 : ¬ (f = 5 ∨ f = 7 ∨ f = 6 ∨ t.form ≠ 0) := by
  intro h;by_cases a : f = 5
  ·simp [Core.form, Core.ty, a] at hb
  by_cases b : f = 7
  ·simp [Core.form, Core.ty, b] at hb
  by_cases d : f = 6
  ·simp [Core.form, Core.ty, d] at hb
  by_cases e : t.form = 0
  ·omega
  ·simp [Core.form, Core.ty, a, b, d, e] at hb
 refine aD ?_;refine a8 (a8 (ag [] rfl ?_));refine aA rfl (fun hb => ?_) (fun hb => ?_)
 ·have h1 : f = 1 := of_decide_eq_true hb;rw [show bK (.mk f n s t ks bs al) (fun s => decide (s ∈ ns)) = decide (s ∈ ns) by rw [bK, if_neg h0, if_pos h1]];refine a8 (ag [(3, .pc (B (decide (s ∈ ns))))] rfl ?_);exact aF (rtT (hc := .refl))
 have h1 : ¬ f = 1 := of_decide_eq_false hb;rw [show bK (.mk f n s t ks bs al) (fun s => decide (s ∈ ns)) = (oH bs (fun x => decide (x ∈ ns ++ gvs f s bs)) && (oG ks (fun x => decide (x ∈ ns ++ gvs f s bs)) && oI al (fun x => decide (x ∈ ns ++ gvs f s bs)))) by rw [bK, if_neg h0, if_neg h1, aCx]];refine aD ?_;refine a8 (ag [(2, .pc (b7 (gvs f s bs))), (3, .pc (b7 (ns ++ gvs f s bs)))] rfl ?_);generalize ns ++ gvs f s bs = ins at hil ⊢;generalize hAd : (fun x => decide (x ∈ ins)) = A;rw [kX, kW, kY];refine a8 (a8 (ag [] rfl ?_));refine aB ?_;refine aL (fun i : Nat => mk [(2, .one (.vp 2 0)), (5, b7 ins), (6, I .i64 i)] [(2, .var 38 (bT (.mk f n s t ks bs al)))]) (fun i => i ≤ bs.length ∧ (bs.take i).all (fun c => bK c.body A && decide (c.ty.form = 0)) = true) (fun i => bs.length - i) 0 ⟨zero_le _, rfl⟩ sl ?_;intro i ⟨hi, hall⟩;refine a8 (a8 (ag [] rfl ?_));refine aA rfl (fun hb => ?_) (fun hb => ?_)
 ·have hlt := ltD hb hkB;obtain ⟨b, hbi⟩ := aI hlt;have hbi' := cB hbi;have h2 := cW hbi;have h3 := l7 b;have hbl3 := cC (bs.take i);rw [length_take] at hbl3;have hc := ih b.body (ihb b (List.mem_of_getElem? hbi)) ins (by omega) (by omega);rw [hAd] at hc;have hst := j2 (fun c : Bind => bK c.body A && decide (c.ty.form = 0)) hbi;refine aD ?_;refine a8 (aB ?_);refine a8 (ag [(3, .row i (aK b)), (7, .pc (B (bK b.body A)))] rfl ?_);refine a8 (agF 3 [(6, .row i (aK b))] rfl rfl rfl ?_);refine aA rfl (fun hb => ?_) (fun hb => ?_)
  ·have hp : (bK b.body A && decide (b.ty.form = 0)) = false := by
    cases h5 : bK b.body A
    ·rfl
    ·simp [h5] at hb;simp [hb]
   rw [all_false (p := fun c : Bind => bK c.body A && decide (c.ty.form = 0)) (List.mem_of_getElem? hbi) hp, Bool.false_and];refine a8 (ag [] rfl ?_);exact aF (rtT (hc := .refl))
  ·have hp : (bK b.body A && decide (b.ty.form = 0)) = true := by
    cases h5 : bK b.body A
    ·simp [h5] at hb
    ·simp [h5] at hb;simp [hb]
   refine aD ?_;refine ag [] rfl ?_;exact ⟨i + 1, ⟨hlt, by rw [hst, hall, hp]; rfl⟩, by dsimp only; omega, sl⟩
 have hge := geD hb hkB hi;subst hge;rw [take_length] at hall;rw [hall, Bool.true_and];refine aM ?_;refine a8 (a8 (ag [] rfl ?_));refine aB ?_;refine aL (fun i : Nat => mk [(2, .one (.vp 2 0)), (5, b7 ins), (8, I .i64 i)] [(2, .var 38 (bT (.mk f n s t ks bs al)))]) (fun i => i ≤ ks.length ∧ (ks.take i).all (fun c => bK c A) = true) (fun i => ks.length - i) 0 ⟨zero_le _, rfl⟩ sl ?_;intro i ⟨hi, hall⟩;refine a8 (a8 (ag [] rfl ?_));refine aA rfl (fun hb => ?_) (fun hb => ?_)
 ·have hlt := ltD hb hkK;obtain ⟨k, hki⟩ := aI hlt;have hki' := cU hki;have h2 := dP hki;have hc := ih k (ihk k (List.mem_of_getElem? hki)) ins (by omega) (by omega);rw [hAd] at hc;have hst := j2 (fun c : Core => bK c A) hki;refine aD ?_;refine a8 (aB ?_);refine a8 (ag [(3, .row i (aE k)), (6, .pc (B (bK k A)))] rfl ?_);refine a8 (ag [] rfl ?_);refine aA rfl (fun hb => ?_) (fun hb => ?_)
  ·have hp : bK k A = false := by simpa using hb
   rw [all_false (p := fun c : Core => bK c A) (List.mem_of_getElem? hki) hp, Bool.false_and];refine a8 (ag [] rfl ?_);exact aF (rtT (hc := .refl))
  ·have hp : bK k A = true := by simpa using hb
   refine aD ?_;refine ag [] rfl ?_;exact ⟨i + 1, ⟨hlt, by rw [hst, hall, hp]; rfl⟩, by dsimp only; omega, sl⟩
 have hge := geD hb hkK hi;subst hge;rw [take_length] at hall;rw [hall, Bool.true_and];refine aM ?_;refine a8 (a8 (ag [] rfl ?_));refine aB ?_;refine aL (fun i : Nat => mk [(2, .one (.vp 2 0)), (5, b7 ins), (10, I .i64 i)] [(2, .var 38 (bT (.mk f n s t ks bs al)))]) (fun i => i ≤ al.length ∧ (al.take i).all (fun c => bK c.body (ext A c.vars)) = true) (fun i => al.length - i) 0 ⟨zero_le _, rfl⟩ sl ?_;intro i ⟨hi, hall⟩;refine a8 (a8 (ag [] rfl ?_));refine aA rfl (fun hb => ?_) (fun hb => ?_)
 ·have hlt := ltD hb hkA;obtain ⟨a, hai⟩ := aI hlt;have hai' := cV hai;have h2 := dQ hai;have h3 := gO a;have h4 := fX a.vars;have hc := ih a.body (iha a (List.mem_of_getElem? hai)) (ins ++ a.vars) (by omega) (by rw [length_append]; omega);have hw := lJ ins a.vars (by omega);rw [aCx, hAd] at hc;have hst := j2 (fun c : Alt => bK c.body (ext A c.vars)) hai;refine aD ?_;refine a8 (aB ?_);refine a8 (ag [(3, .row i (cL a)), (10, .row i (cL a)), (13, .pc (b7 (ins ++ a.vars))), (14, .pc (B (bK a.body (ext A a.vars))))] rfl ?_);refine a8 (ag [] rfl ?_);refine aA rfl (fun hb => ?_) (fun hb => ?_)
  ·have hp : bK a.body (ext A a.vars) = false := by simpa using hb
   rw [all_false (p := fun c : Alt => bK c.body (ext A c.vars)) (List.mem_of_getElem? hai) hp];refine a8 (ag [] rfl ?_);exact aF (rtT (hc := .refl))
  ·have hp : bK a.body (ext A a.vars) = true := by simpa using hb
   refine aD ?_;refine ag [] rfl ?_;exact ⟨i + 1, ⟨hlt, by rw [hst, hall, hp]; rfl⟩, by dsimp only; omega, sl⟩
 have hge := geD hb hkA hi;subst hge;rw [take_length] at hall;rw [hall];refine aM ?_;refine a8 (ag [] rfl ?_);exact aF (rtT (hc := .refl))
theorem aEi : ∀ (n : Nat) (c : Core), aG c ≤ n → aBr c
 | 0, c, h => by have := cO c; omega
 | n + 1, c, h => uL c fun x hx => aEi n x (by omega)
theorem aHt : bN Tryd.prog 66 [.pa (n9 zTy), .pa (n9 zTy)] [] (B true) [] := by
 refine cT (n := 55) tok Tryd.func66 rfl rfl rfl ?_;refine a8 (ag [] rfl ?_);refine a8 (a8 (ag [] rfl ?_));refine aA rfl (fun hb => by cases hb) (fun _ => ?_);refine aD ?_;refine a8 (a8 (ag [] rfl ?_));refine aB ?_;refine aL (fun _ : Unit => mk [(2, .one (.vp 2 0)), (3, .one (.vp 3 0)), (5, I .i64 0)] [(2, .var 34 ((n9 zTy).map .c)), (3, .var 34 ((n9 zTy).map .c))]) (fun _ => True) (fun _ => 0) () trivial sl ?_;intro _ _;refine a8 (a8 (ag [] rfl ?_));refine aA rfl (fun hb => by cases hb) (fun _ => ?_);refine aM ?_;refine a8 (ag [] rfl ?_);exact aF (rtT (hc := .refl))
mutual
def z0R : Core → Bool
 | .mk _ _ _ t ks bs al => tz t && (aEq ks && (aEr bs && aEs al))
def aEq : List Core → Bool
 | [] => true
 | c :: l => z0R c && aEq l
def aEr : List Bind → Bool
 | [] => true
 | .mk _ t c :: l => (tz t && z0R c) && aEr l
def aEs : List Alt → Bool
 | [] => true
 | .mk _ _ _ _ c :: l => z0R c && aEs l
end
theorem v5 : ∀ {l : List Core}, aEq l = true → ∀ x ∈ l, z0R x = true
 | c :: l, h, x, hx => by
  rw [aEq, Bool.and_eq_true] at h;rcases mem_cons.1 hx with rfl | hx
  ·exact h.1
  ·exact v5 h.2 x hx
theorem v7 : ∀ {l : List Bind}, aEr l = true → ∀ x ∈ l, x.ty = zTy ∧ z0R x.body = true
 | .mk s t c :: l, h, x, hx => by
  simp only [aEr, Bool.and_eq_true] at h;rcases mem_cons.1 hx with rfl | hx
  ·exact ⟨aEu h.1.1, h.1.2⟩
  ·exact v7 h.2 x hx
theorem v8 : ∀ {l : List Alt}, aEs l = true → ∀ x ∈ l, z0R x.body = true
 | .mk f n s v c :: l, h, x, hx => by
  rw [aEs, Bool.and_eq_true] at h;rcases mem_cons.1 hx with rfl | hx
  ·exact h.1
  ·exact v8 h.2 x hx
def aBv (c : Core) : Prop := z0R c = true → aG c ≤ 4000000 → bN Tryd.prog 48 [.pa (aE c), .pa (aE c)] [] (B true) []
theorem y9 (c : Core) (ih : ∀ x, aG x < aG c → aBv x) : aBv c := by
 intro hz hsz;obtain ⟨f, n, s, t, ks, bs, al⟩ := c;obtain ⟨ihk, ihb, iha, hkl, hbl, hal⟩ := @gP f n s t ks bs al;simp only [z0R, Bool.and_eq_true] at hz;obtain ⟨ht, hzk, hzb, hza⟩ := hz;have ht := aEu ht;subst ht;have hte := aHt;have hkB : (aP bs).length = bs.length := by rw [aU, length_map]
 have hkK : (bB ks).length = ks.length := by rw [b9, length_map]
 have hkA : (bH al).length = al.length := by rw [aV, length_map]
 refine cT (n := 187) tok Tryd.func48 rfl rfl rfl ?_;refine a8 (ag [] rfl ?_);refine a8 (a8 (ag [(5, .bv false), (11, .bv false), (12, .bv false), (18, .bv false), (19, .bv false), (27, .bv false), (28, .bv false), (36, .bv false), (37, .bv false), (45, .bv false), (46, .bv false), (51, .pc (B true)), (53, .bv false)] rfl ?_));refine aA rfl (fun hb => by simp at hb) (fun _ => ?_);refine aD ?_;refine a8 (a8 (ag [] rfl ?_));refine aB ?_;refine aL (fun i : Nat => mk [(2, .one (.vp 2 0)), (3, .one (.vp 3 0)), (5, I .i64 i)] [(2, .var 38 (bT (.mk f n s zTy ks bs al))), (3, .var 38 (bT (.mk f n s zTy ks bs al)))]) (fun i => i ≤ ks.length) (fun i => ks.length - i) 0 (zero_le _) sl ?_;intro i hi;refine a8 (a8 (ag [] rfl ?_));refine aA rfl (fun hb => ?_) (fun hb => ?_)
 ·have hlt := ltD hb hkK;obtain ⟨k, hki⟩ := aI hlt;have hki' := cU hki;have hm := List.mem_of_getElem? hki;have hc := ih k (ihk k hm) (v5 hzk k hm) (by have := ihk k hm; omega);refine aD ?_;refine a8 (aB ?_);refine a8 (ag [(3, .row i (aE k)), (8, .row i (aE k)), (10, .pc (B true))] rfl ?_);refine aA rfl (fun hb => by simp at hb) (fun _ => ?_);refine aD ?_;refine ag [] rfl ?_;exact ⟨i + 1, hlt, by dsimp only; omega, sl⟩
 refine aM ?_;refine a8 (a8 (ag [] rfl ?_));refine aB ?_;refine aL (fun i : Nat => mk [(2, .one (.vp 2 0)), (3, .one (.vp 3 0)), (6, I .i64 i)] [(2, .var 38 (bT (.mk f n s zTy ks bs al))), (3, .var 38 (bT (.mk f n s zTy ks bs al)))]) (fun i => i ≤ bs.length) (fun i => bs.length - i) 0 (zero_le _) sl ?_;intro i hi;refine a8 (a8 (ag [] rfl ?_));refine aA rfl (fun hb => ?_) (fun hb => ?_)
 ·have hlt := ltD hb hkB;obtain ⟨b, hbi⟩ := aI hlt;have hbi' := cB hbi;have hm := List.mem_of_getElem? hbi;obtain ⟨hty, hzb1⟩ := v7 hzb b hm;have hc := ih b.body (ihb b hm) hzb1 (by have := ihb b hm; omega);obtain ⟨s', t', c'⟩ := b;have hty : t' = zTy := hty;subst hty;refine aD ?_;refine a8 (aB ?_);refine a8 (ag [(3, .row i (aK (.mk s' zTy c'))), (9, .row i (aK (.mk s' zTy c'))), (13, .bv false), (17, .row i (aK (.mk s' zTy c'))), (23, .row i (aK (.mk s' zTy c'))), (26, .pc (B true)), (28, .bv false), (29, .bv false), (33, .row i (aK (.mk s' zTy c'))), (39, .row i (aK (.mk s' zTy c'))), (42, .pc (B true)), (44, .bv false)] rfl ?_);refine aA rfl (fun hb => by simp at hb) (fun _ => ?_);refine aD ?_;refine ag [] rfl ?_;exact ⟨i + 1, hlt, by dsimp only; omega, sl⟩
 refine aM ?_;refine a8 (a8 (ag [] rfl ?_));refine aB ?_;refine aL (fun i : Nat => mk [(2, .one (.vp 2 0)), (3, .one (.vp 3 0)), (7, I .i64 i)] [(2, .var 38 (bT (.mk f n s zTy ks bs al))), (3, .var 38 (bT (.mk f n s zTy ks bs al)))]) (fun i => i ≤ al.length) (fun i => al.length - i) 0 (zero_le _) sl ?_;intro i hi;refine a8 (a8 (ag [] rfl ?_));refine aA rfl (fun hb => ?_) (fun hb => ?_)
 ·have hlt := ltD hb hkA;obtain ⟨a, hai⟩ := aI hlt;have hai' := cV hai;have hm := List.mem_of_getElem? hai;have hc := ih a.body (iha a hm) (v8 hza a hm) (by have := iha a hm; omega);have hav := gN hm;have hab := gO a;have hvl := fX a.vars;have hst := nC a.vars a.vars (by rw [aG] at hsz; omega);rw [decide_eq_true rfl] at hst;obtain ⟨f', n', s', v', c'⟩ := a;refine aD ?_;refine a8 (aB ?_);refine a8 (ag [(3, .row i (cL (.mk f' n' s' v' c')))] rfl ?_);refine a8 (ag [(3, .row i (cL (.mk f' n' s' v' c')))] rfl ?_);refine a8 (ag [(5, .bv false), (11, .bv false), (12, .bv false), (18, .bv false), (19, .bv false), (24, .pc (B true)), (26, .bv false), (27, .bv false), (32, .pc (B true)), (34, .bv false)] rfl ?_);refine aA rfl (fun hb => by simp at hb) (fun _ => ?_);refine aD ?_;refine ag [] rfl ?_;exact ⟨i + 1, hlt, by dsimp only; omega, sl⟩
 refine aM ?_;refine a8 (ag [] rfl ?_);exact aF (rtT (hc := .refl))
theorem aH0 : ∀ (n : Nat) (c : Core), aG c ≤ n → aBv c
 | 0, c, h => by have := cO c; omega
 | n + 1, c, h => y9 c fun x hx => aH0 n x (by omega)
def qG (l : List Sup) : V := .one (.c (.sl 12 (l.map aY)))
theorem aI6 (l : List Sup) (hl : l.length ≤ 1000000) (h : ∀ x ∈ l, z0R x.body = true ∧ aG x.body ≤ 4000000 ∧ x.params.length ≤ 4000000) : bN Tryd.prog 28 [qG l, qG l] [] (B true) [] := by
 refine cT (n := 56) tok Tryd.func28 rfl rfl rfl ?_;refine a8 (ag [] rfl ?_);refine a8 (a8 (ag [] rfl ?_));refine aA rfl (fun hb => by simp at hb) (fun _ => ?_);refine aD ?_;refine a8 (a8 (ag [] rfl ?_));refine aB ?_;have hkl : (l.map aY).length = l.length := length_map _;refine aL (fun i : Nat => mk [(0, qG l), (1, qG l), (5, I .i64 i)] []) (fun i => i ≤ l.length) (fun i => l.length - i) 0 (zero_le _) sl ?_;intro i hi;refine a8 (a8 (ag [] rfl ?_));refine aA rfl (fun hb => ?_) (fun hb => ?_)
 ·have hlt := ltD hb hkl;obtain ⟨x, hx⟩ := aI hlt;have hx' := c6 aY hx;obtain ⟨h1, h2, h3⟩ := h x (List.mem_of_getElem? hx);have hc := aH0 _ x.body (le_refl _) h1 h2;have hst := nC x.params x.params (by omega);rw [decide_eq_true rfl] at hst;refine aD ?_;refine a8 (aB ?_);refine a8 (ag [(2, .row i (aY x)), (7, .row i (aY x)), (11, .bv false), (14, .row i (aY x)), (19, .row i (aY x)), (22, .pc (B true)), (24, .bv false), (25, .bv false), (28, .row i (aY x)), (33, .row i (aY x)), (36, .pc (B true)), (38, .bv false)] rfl ?_);refine aA rfl (fun hb => by simp at hb) (fun _ => ?_);refine aD ?_;refine ag [] rfl ?_;exact ⟨i + 1, hlt, by dsimp only; omega, sl⟩
 refine aM ?_;refine a8 (ag [] rfl ?_);exact aF (rtT (hc := .refl))
structure BOk (b : Bind) : Prop where
 wf : wfR b.body = true
 sz : aG b.body ≤ 400000
 nm : b.name.length ≤ 1000000
def aFk (l : List Sup) : V := .one (.hs 500 0 l.length l.length)
def aI1 (l : List Sup) : AObj := .arr 40 12 (l.map aY) 0
theorem oA {l : List Bind} {i : Nat} {b : Bind} (h : l[i]? = some b) : fC (l.take (i + 1)) = fC (l.take i) ++ tX b := by
 unfold fC; rw [bG h]; simp
theorem jY {b : Bind} (h : wfR b.body = true) : tX b = ⟨b.name, aX (aW b.body), (bD b.name false (bJ b.body) (fun x => decide (x ∈ aW b.body)) []).1⟩ :: (bD b.name false (bJ b.body) (fun x => decide (x ∈ aW b.body)) []).2 := by
 unfold tX; rw [jG _ _ b.body (le_refl _) h]
theorem zO {b : Bind} (h : wfR b.body = true) : (tX b).length ≤ 1 + aG b.body := by
 rw [jY h, length_cons];obtain ⟨w1, w2, w3, w4, w5, w6⟩ := iR _ b.body (le_refl _) h;have := eZ b.name (bJ b.body) false (fun x => decide (x ∈ aW b.body)) [];simp only [length_nil] at this;omega
theorem iI : ∀ {l : List Bind}, (∀ b ∈ l, BOk b) → (fC l).length ≤ l.length * 400001
 | [], _ => by simp [fC]
 | b :: l, h => by
  have ih := iI (l := l) fun x hx => h x (mem_cons_of_mem _ hx)
  have h1 := h b mem_cons_self;have h2 := zO h1.wf;have h3 := h1.sz;rw [fC, List.flatMap_cons, length_append, length_cons];unfold fC at ih;omega
def nM (s : Str) (c : Core) : Core := .mk 5 0 s zTy [c] [] []
end Go.Proofs.YtlegeikmepnmcaaDoor
namespace Go.AM
open Go Go.Proofs Go.Shelf
theorem wV {ro : Option Nat} {P : Program} {n : Nat} {kf : List Nat} {c : Code} {st : St} {Q : Exit → St → Prop} (t : Nat) {es : Nat} {l : List (List C)} (h : st.e t = some (.one (.c (.sl es l)))) (h1 : l = [] → AWp ro P n kf c ⟨upd st.e t (some (.one (.c .nl))), st.h, st.d⟩ Q)
  (h2 : AWp ro P n kf c ⟨upd st.e t (some (.one (.c (.sn es l)))), st.h, st.d⟩ Q) : AWp ro P n kf c st Q := by
 intro G S μ a w Q' hg hs hQ;have hv := hs.env t _ h
 have key : ∀ x : V, aQ S μ st.h x (a.tmps.getD t undef) → Sim G n S μ ⟨upd st.e t (some x), st.h, st.d⟩ a w := fun x hx => ⟨hs.inv, hs.size, hs.defers, fun s u e => by
  by_cases hst : s = t
  ·subst hst;have : some x = some u := by rw [← e]; exact (aC _ _ _).symm
   cases this;exact hx
  ·exact hs.env s u (by rw [← e]; exact (aT _ _ _ hst).symm)⟩
 simp only [aQ, b5, Rep] at hv;obtain ⟨ad, len, cap, e1, e2, e3, e4, e5, e6, b, o, e7, e8⟩ := hv;cases ad with
 | none =>
  obtain ⟨e9, e10⟩ := e5 rfl;have hl : l = [] := eq_nil_of_length_eq_zero (by omega);exact h1 hl G S μ a w Q' hg (key _ (by simp only [aQ, b5, Rep]; rw [e1, e9, e10])) hQ
 | some ad =>
  obtain ⟨b', o', sp⟩ := ad;have h6 := e6 _ rfl;obtain ⟨h7, h8⟩ := e7 _ rfl;dsimp only at h6 h7 h8;subst h7 h8;exact h2 G S μ a w Q' hg (key _ (by simp only [aQ, b5, Rep]; exact ⟨b', o', sp, len, cap, e1, e2, e3, e4, h6, e8⟩)) hQ
theorem aC1 {P : Program} {ρ : Ren} {T : TT} {ei : TI} (L : Lays8.n4 P ρ) (hT : Tok P T) (hei : T[ρ.t 25]? = some (some ei)) (hes : Nat.ble 1 ei.size = true) (k : Nat) (hk : k * ei.bytes ≤ 140737488355328) (hk2 : k ≤ 140737488355328) :
  bN P (ρ.f 4) [.one (.c .nl), I .i64 (k : Int)] [] (.one (.hs 720 0 0 0)) [(720, .arr (ρ.t 25) ei.size [] 0)] := by
 intro S μ w vals hI hv;simp only [bO, aQ, b5, Rep] at hv;obtain ⟨v1, vs1, rfl, rfl, v2, vs2, rfl, rfl, rfl⟩ := hv;obtain ⟨inf, dd, z, g1, g2, g3, g4, g5, g6, g7, g8⟩ := (hT.get hei).ex;have hzs : z.cells.size = ei.size := by
  have h1 := (fE (S := S) g7).length;rw [(hT.get hei).len] at h1;simpa using h1
 have hid : look ([] : List (Nat × AObj)) 720 = none := rfl;by_cases h0 : k = 0
 ·subst h0;refine Calls.mono (Any8.slices_Grow_room L none 0 0 0 w (by omega) (by omega) (by omega) (by omega)) ?_;rintro e w' ⟨rfl, rfl⟩;obtain ⟨hi, hE⟩ := hI.empty (ρ.t 25) ei.size hid;refine ⟨S, upd μ 720 none, _, rfl, ?_, ?_⟩
  ·rw [fB]; exact hi
  ·rw [fB];simp only [aQ, b5];exact ⟨⟨_, _, _, rfl⟩, .inr ⟨_, _, [], 0, aC _ _ _, le_refl _, fun _ => ⟨le_refl _, .inl ⟨aC _ _ _, rfl, by first | rfl | trivial⟩⟩⟩⟩
 ·refine Calls.mono (Any8.slices_Grow_grow L inf z g1 g6 (by rw [g3]; exact le_of_ble_eq_true hes) none 0 0 k [] w (by omega) (by omega) (by rw [g4, zero_add]; exact hk) (by omega) (by simp) (fun _ => rfl) (fun a h => by cases h)) ?_;rintro e w' ⟨rfl, rfl⟩;simp only [zero_add, sub_zero];have hG1 := grownCap_ge w k 0 (ρ.t 25);have hG2 := grownCap_le_maxLen w k 0 (ρ.t 25) (by unfold maxLen; omega);generalize grownCap w k 0 (ρ.t 25) = G at hG1 hG2 ⊢;have hO : j6 S (upd μ 720 (some (w.heap.size, 0, G))) (upd (look []) 720 (some (.arr (ρ.t 25) ei.size [] 0))) (w.drew.alloc (.cells ((([] : List Value).toArray) ++ Builtin.zeroCells z.cells k ++ Builtin.zeroCells z.cells (G - k)) (ρ.t 25))) 720 (.arr (ρ.t 25) ei.size [] 0) := by
   refine ⟨by simp, .inr ⟨w.heap.size, 0, G, (([] : List Value).toArray ++ Builtin.zeroCells z.cells k ++ Builtin.zeroCells z.cells (G - k)).toList, aC _ _ _, heap_alloc_new w.drew _, ?_, zero_le _, ⟨hG2, lG hI⟩, ?_, fun _ o _ => dY hI o, fun o _ => dY hI o, fun e => by cases e⟩⟩
   ·simp only [Array.toList_append, length_append, Array.length_toList, size_zeroCells, hzs, zero_add, length_nil];rw [← add_mul];exact mul_le_mul_right _ (by omega)
   ·simp [bR]
  have hE : Evolve S μ (look []) S (upd μ 720 (some (w.heap.size, 0, G))) (upd (look []) 720 (some (.arr (ρ.t 25) ei.size [] 0))) := eB hid _ _;have hi := hI.chg (id := 720) (cap := (0, G)) (WChg.alloc_drew w _) (.inl (le_refl _)) hE hO (fun o v e => by rw [dY hI] at e; cases e) (fun m e => le_refl _);refine ⟨S, upd μ 720 (some (w.heap.size, 0, G)), _, rfl, ?_, ?_⟩
  ·rw [fB]; exact hi
  ·rw [fB];simp only [aQ, b5];exact ⟨⟨_, _, _, rfl⟩, .inr ⟨_, _, [], 0, aC _ _ _, le_refl _, fun _ => ⟨le_refl _, .inr ⟨w.heap.size, 0, G, aC _ _ _, by simp⟩⟩⟩⟩
end Go.AM
namespace Go.AM
open Go
def AObj.ren (σ : Nat → Nat) : AObj → AObj
 | .var t cells => .var t (R.renL σ cells)
 | .lp st j i e => .lp st j i (yK σ e)
 | .rarr te es l => .rarr te es (qN σ l)
 | .tok r k => .tok (r.ren σ) k
 | o => o
def renH (σ : Nat → Nat) (hl : List (Nat × AObj)) : List (Nat × AObj) := hl.map fun p => (σ p.1, p.2.ren σ)
section
mutual
theorem R.ren_ren {σ : Nat → Nat} (hσ : ∀ i, σ (σ i) = i) : ∀ r : R, (r.ren σ).ren σ = r
 | .c _ => rfl
 | .hs .. => by simp [R.ren, hσ]
 | .tl .. => by simp [R.ren, hσ]
 | .vp .. => by simp [R.ren, hσ]
 | .ep .. => by simp [R.ren, hσ]
 | .mr _ => by simp [R.ren, hσ]
 | .clo f caps => by simp [R.ren, R.renL_renL hσ caps]
 | .mth f r => by simp [R.ren, R.ren_ren hσ r]
 | .yl _ => by simp [R.ren, hσ]
 | .ra .. => by simp [R.ren, hσ]
 | .rp .. => by simp [R.ren, hσ]
 | .ras n es l => by simp [R.ren, R.renL_renL hσ l]
 | .pas l => by simp [R.ren, R.renL_renL hσ l]
theorem R.renL_renL {σ : Nat → Nat} (hσ : ∀ i, σ (σ i) = i) : ∀ l : List R, R.renL σ (R.renL σ l) = l
 | [] => rfl
 | r :: l => by simp [R.renL, R.ren_ren hσ r, R.renL_renL hσ l]
end
mutual
theorem V.ren_ren {σ : Nat → Nat} (hσ : ∀ i, σ (σ i) = i) : ∀ r : V, (r.ren σ).ren σ = r
 | .one r => by simp [V.ren, R.ren_ren hσ r]
 | .pa _ => rfl
 | .ma l => by simp [V.ren, R.renL_renL hσ l]
 | .tup l => by simp [V.ren, V.renL_renL hσ l]
theorem V.renL_renL {σ : Nat → Nat} (hσ : ∀ i, σ (σ i) = i) : ∀ l : List V, V.renL σ (V.renL σ l) = l
 | [] => rfl
 | r :: l => by simp [V.renL, V.ren_ren hσ r, V.renL_renL hσ l]
end
variable {σ : Nat → Nat} (hσ : ∀ i, σ (σ i) = i)
include hσ
theorem qO : ∀ l : List (Nat × V), yK σ (yK σ l) = l
 | [] => rfl
 | (t, v) :: l => by simp [yK, V.ren_ren hσ v, qO l]
theorem qL : ∀ l : List (List R), qN σ (qN σ l) = l
 | [] => rfl
 | r :: l => by simp [qN, R.renL_renL hσ r, qL l]
theorem Ole.to_ren (o : AObj) : Ole σ o (o.ren σ) := by
 cases o with
 | var t cells => exact .var (R.renL_renL hσ cells).symm
 | lp st j i e => exact .lp (qO hσ e).symm
 | rarr te es l => exact .rarr (qL hσ l).symm
 | tok r k => exact .tok (R.ren_ren hσ r).symm
 | arr => exact .arr
 | map => exact .map
 | dead => exact .dead
 | dfr => exact .dfr
end
theorem Ole.of_ren {σ : Nat → Nat} (o : AObj) : Ole σ (o.ren σ) o := by
 cases o with
 | var t cells => exact .var rfl
 | lp st j i e => exact .lp rfl
 | rarr te es l => exact .rarr rfl
 | tok r k => exact .tok rfl
 | arr => exact .arr
 | map => exact .map
 | dead => exact .dead
 | dfr => exact .dfr
mutual
theorem R.refs_ren {σ : Nat → Nat} : ∀ r : R, (r.ren σ).refs = r.refs.map σ
 | .c _ => rfl
 | .hs .. => rfl
 | .tl .. => rfl
 | .vp .. => rfl
 | .ep .. => rfl
 | .mr _ => rfl
 | .clo f caps => by simp [R.ren, R.refs, R.refsL_ren caps]
 | .mth f r => by simp [R.ren, R.refs, R.refs_ren r]
 | .yl _ => rfl
 | .ra .. => rfl
 | .rp .. => rfl
 | .ras n es l => by simp [R.ren, R.refs, R.refsL_ren l]
 | .pas l => by simp [R.ren, R.refs, R.refsL_ren l]
theorem R.refsL_ren {σ : Nat → Nat} : ∀ l : List R, R.refsL (R.renL σ l) = (R.refsL l).map σ
 | [] => rfl
 | r :: l => by simp [R.renL, R.refsL, R.refs_ren r, R.refsL_ren l]
end
mutual
theorem V.refs_ren {σ : Nat → Nat} : ∀ r : V, (r.ren σ).refs = r.refs.map σ
 | .one r => by simp [V.ren, V.refs, R.refs_ren r]
 | .pa _ => rfl
 | .ma l => by simp [V.ren, V.refs, R.refsL_ren l]
 | .tup l => by simp [V.ren, V.refs, V.refsL_ren l]
theorem V.refsL_ren {σ : Nat → Nat} : ∀ l : List V, V.refsL (V.renL σ l) = (V.refsL l).map σ
 | [] => rfl
 | r :: l => by simp [V.renL, V.refsL, V.refs_ren r, V.refsL_ren l]
end
theorem qS {σ : Nat → Nat} : ∀ l : List (Nat × V), jF (yK σ l) = (jF l).map σ
 | [] => rfl
 | (t, v) :: l => by simp [yK, jF, V.refs_ren v, qS l]
theorem qP {σ : Nat → Nat} : ∀ l : List (List R), gT (qN σ l) = (gT l).map σ
 | [] => rfl
 | r :: l => by simp [qN, gT, R.refsL_ren r, qP l]
theorem AObj.refs_ren {σ : Nat → Nat} (o : AObj) : (o.ren σ).refs = o.refs.map σ := by
 cases o with
 | var t cells => exact R.refsL_ren cells
 | lp st j i e => exact qS e
 | rarr te es l => exact qP l
 | tok r k => exact R.refs_ren r
 | _ => rfl
structure RenH (σ : Nat → Nat) (H H' : cH) : Prop where
 to : ∀ i o, H (σ i) = some o → ∃ o', H' i = some o' ∧ Ole σ o o'
 of : ∀ i o', H' i = some o' → ∃ o, H (σ i) = some o ∧ Ole σ o o'
 cl : ∀ i o', H' i = some o' → ∀ j ∈ o'.refs, ∃ x, H' j = some x
theorem RenH.good {σ : Nat → Nat} {H H' : cH} (h : RenH σ H H') {i : Nat} (hi : ∃ x, H' i = some x) : Good H H' σ i := by
 obtain ⟨x, hx⟩ := hi;obtain ⟨o, h1, h2⟩ := h.of i x hx;exact ⟨o, x, h1, hx, h2⟩
theorem aB5 {σ : Nat → Nat} {P : Prop} {a b c d : AObj} (h1 : Ole σ a b) (h2 : Ole σ c d) (h : a.succ P c) : b.succ P d := by
 cases h1 <;> cases h2 <;> simp only [AObj.succ] at h ⊢ <;> try exact h
 ·rename_i e1 _ _ _ _ e2;subst e1 e2;simpa [dJ] using h
theorem Inv.renH {σ : Nat → Nat} (hσ : ∀ i, σ (σ i) = i) {G : Ctx} {h0' H H' : cH} {S : Sto} {μ : Mu} {w : World} (h : Inv G S μ H w) (h0 : RenH σ G.h0 h0') (hH : RenH σ H H') :
  Inv { G with μ0 := fun i => G.μ0 (σ i), h0 := h0' } S (fun i => μ (σ i)) H' w := by
 refine ⟨h.holds, fun id o ho => ?_, fun i j o o' b c c' hi hj hm hm' => ?_, fun i o b c hi hm => ?_, h.frame, h.sle, h.sto, ⟨h.evo.le, fun id o ho => ?_⟩, h.fre⟩
 ·obtain ⟨x, h1, h2⟩ := hH.of id o ho;exact (h.obj _ _ h1).ren h2 fun j hj => hH.good (hH.cl id o ho j hj)
 ·obtain ⟨x, h1, _⟩ := hH.of i o hi;obtain ⟨y, h2, _⟩ := hH.of j o' hj;have := h.inj _ _ _ _ b c c' h1 h2 hm hm';rw [← hσ i, ← hσ j, this]
 ·obtain ⟨x, h1, _⟩ := hH.of i o hi;exact h.own _ _ b c h1 hm
 ·obtain ⟨x, h1, h2⟩ := h0.of id o ho;obtain ⟨y, h3, h4⟩ := h.evo.obj _ _ h1;obtain ⟨z, h5, h6⟩ := hH.to id y h3;exact ⟨z, h5, aB5 h2 h6 h4⟩
section
variable {σ : Nat → Nat} (hσ : ∀ i, σ (σ i) = i)
include hσ
theorem aF3 (i k : Nat) : Nat.beq (σ i) (σ k) = Nat.beq i k := by
 cases h : Nat.beq i k with
 | true => rw [eq_of_beq_eq_true h]; exact beq_refl _
 | false =>
  cases h' : Nat.beq (σ i) (σ k) with
  | false => rfl
  | true =>
   have := eq_of_beq_eq_true h';have e : i = k := by rw [← hσ i, ← hσ k, this]
   rw [e, beq_refl] at h;cases h
theorem iG (i : Nat) : ∀ hl : List (Nat × AObj), look (Go.AM.renH σ hl) (σ i) = (look hl i).map (AObj.ren σ)
 | [] => rfl
 | (k, o) :: hl => by
  have ih := iG i hl;simp only [Go.AM.renH, map_cons, look, aF3 hσ] at ih ⊢;split
  ·rfl
  ·exact ih
theorem RenH.a {hl : List (Nat × AObj)} (hc : subset (eS hl) (keys hl) = true) : RenH σ (look (Go.AM.renH σ hl)) (look hl) := by
 refine ⟨fun i o h => ?_, fun i o h => ?_, fun i o h j hj => ?_⟩
 ·rw [iG hσ] at h;cases hx : look hl i with
  | none => rw [hx] at h; cases h
  | some x => rw [hx] at h; cases h; exact ⟨x, rfl, .of_ren x⟩
 ·exact ⟨o.ren σ, by rw [iG hσ, h]; rfl, .of_ren o⟩
 ·exact gC (c9 hc j (gI (bW h) j hj))
theorem RenH.b {hl : List (Nat × AObj)} (hc : subset (eS hl) (keys hl) = true) : RenH σ (look hl) (look (Go.AM.renH σ hl)) := by
 have key : ∀ i, look (Go.AM.renH σ hl) i = (look hl (σ i)).map (AObj.ren σ) := fun i => by
  have := iG hσ (σ i) hl;rwa [hσ] at this
 refine ⟨fun i o h => ⟨o.ren σ, by rw [key, h]; rfl, .to_ren hσ o⟩, fun i o h => ?_, fun i o h j hj => ?_⟩
 ·rw [key] at h;cases hx : look hl (σ i) with
  | none => rw [hx] at h; cases h
  | some x => rw [hx] at h; cases h; exact ⟨x, rfl, .to_ren hσ x⟩
 ·rw [key] at h;cases hx : look hl (σ i) with
  | none => rw [hx] at h; cases h
  | some x =>
   rw [hx] at h; cases h;rw [AObj.refs_ren] at hj;obtain ⟨k, hk, rfl⟩ := mem_map.1 hj;obtain ⟨y, hy⟩ := gC (c9 hc k (gI (bW hx) k hk));exact ⟨y.ren σ, by rw [key, hσ, hy]; rfl⟩
theorem bN.ren {P : Program} {f : FuncId} {args : List V} {hin hout : List (Nat × AObj)} {res : V} (h : bN P f args hin res hout) (h1 : subset (eS hin) (keys hin) = true) (h2 : subset (V.refsL args) (keys hin) = true) (h3 : subset (eS hout) (keys hout) = true) (h4 : subset res.refs (keys hout) = true) :
  bN P f (V.renL σ args) (Go.AM.renH σ hin) (res.ren σ) (Go.AM.renH σ hout) := by
 intro S μ w vals hI hv;have ra := RenH.a hσ h1;have hI' := hI.renH hσ ra ra;have hF : nL μ (look (Go.AM.renH σ hin)) = nL (fun i => μ (σ i)) (look hin) := by
  funext b;refine propext ⟨?_, ?_⟩
  ·rintro ⟨j, o, c, g1, g2⟩;obtain ⟨o', g3, _⟩ := ra.to (σ j) o (by rw [hσ]; exact g1);exact ⟨σ j, o', c, g3, by show μ (σ (σ j)) = _; rw [hσ]; exact g2⟩
  ·rintro ⟨j, o, c, g1, g2⟩;obtain ⟨o', g3, _⟩ := ra.of j o g1;exact ⟨σ j, o', c, g3, g2⟩
 rw [hF] at hI';have hv' : bO S (fun i => μ (σ i)) (look hin) args vals := bO.ren args vals (fun i hi => ra.good (gC (c9 h2 i hi))) hv;refine Calls.mono (h S (fun i => μ (σ i)) w vals hI' hv') ?_;rintro e w' ⟨S', μ', v, g1, g2, g3⟩;refine ⟨S', fun i => μ' (σ i), v, g1, ?_, ?_⟩
 ·have := g2.renH hσ (RenH.b hσ h1) (RenH.b hσ h3);dsimp only at this;rw [hF];simpa only [hσ] using this
 ·refine aQ.ren (res.ren σ) v (fun i hi => (RenH.b hσ h3).good ?_) (by rw [V.ren_ren hσ]; exact g3);rw [V.refs_ren] at hi;obtain ⟨k, hk, rfl⟩ := mem_map.1 hi;obtain ⟨y, hy⟩ := gC (c9 h4 k hk);exact ⟨y.ren σ, by rw [iG hσ, hy]; rfl⟩
end
def swp (a b i : Nat) : Nat := bif Nat.beq i a then b else bif Nat.beq i b then a else i
theorem aEw (a b i : Nat) : swp a b (swp a b i) = i := by
 have hb : ∀ x y : Nat, (Nat.beq x y = true) ↔ x = y := fun x y => ⟨eq_of_beq_eq_true, fun h => by subst h; exact beq_refl _⟩
 unfold swp;cases h1 : Nat.beq i a <;> cases h2 : Nat.beq i b <;> simp only [cond_true, cond_false]
 ·rw [h1, h2]; rfl
 ·cases h3 : Nat.beq a a with
  | true => simp only [cond_true]; exact ((hb _ _).1 h2).symm
  | false => rw [beq_refl] at h3; cases h3
 ·cases h3 : Nat.beq b a with
  | true => simp only [cond_true]; rw [(hb _ _).1 h3, (hb _ _).1 h1]
  | false => rw [beq_refl]; simp only [cond_true, cond_false]; exact ((hb _ _).1 h1).symm
 ·have e1 := (hb _ _).1 h1;have e2 := (hb _ _).1 h2;have e3 : b = a := by rw [← e2, e1]
  rw [e3, beq_refl]; simp only [cond_true]; exact e1.symm
theorem bN.swap (a b : Nat) {P : Program} {f : FuncId} {args : List V} {hin hout : List (Nat × AObj)} {res : V} (h : bN P f args hin res hout) (h1 : subset (eS hin) (keys hin) = true := by rfl) (h2 : subset (V.refsL args) (keys hin) = true := by rfl) (h3 : subset (eS hout) (keys hout) = true := by rfl) (h4 : subset res.refs (keys hout) = true := by rfl) :
  bN P f (V.renL (swp a b) args) (renH (swp a b) hin) (res.ren (swp a b)) (renH (swp a b) hout) := h.ren (aEw a b) h1 h2 h3 h4
end Go.AM
namespace Go.AM
open Go Go.Proofs
section
variable {P : Program} {n : Nat} {ops : Array Oper} {draw : Bool} {k d : Nat} {st : St} {pre : REs} {Q : St → Prop} {o : Oper} {f : FuncId} {xs : Array Operand} {ts : Array TypeId} {ids : List Nat} {args : List V} {res : V} {hin hout : List (Nat × AObj)}
theorem kcG {j t : Nat} {want b : Bool} (hf : bN P f args hin res hout)
  (hk : lC P n ops draw (k + 1) ⟨upd st.e d (some res), jD st.h (outs hout), st.d⟩ ((⟨t :: cG xs.toList, ids ++ keys hin ++ keys hout⟩, ⟨some (d, some res), outs hout⟩) :: pre) Q)
  (hb : kC P f := by exact aGg (by kernel_rfl)) (ho : ops[k]? = some o := by rfl) (hg : o.guard = some (j, want) := by rfl) (hj : (ops[j]?).bind (·.dst) = some t := by rfl) (hbv : st.e t = some (.one (.c (.bool b))) := by rfl) (hw : b = want := by first | rfl | assumption) (hop : o.op = .call { callee := .value (.func f), args := xs, argTypes := ts } := by rfl) (hd : o.dst = some d := by rfl) (hdn : Nat.blt d n = true := by rfl)
  (ha : ArgsV st ids xs.toList args := by repeat (first | exact .nil | (apply Go.AM.ArgsV.cons rfl; (first | exact .refl | exact .one (.c .nl .nil) | exact .one (.c .sn .nil) | exact .one (.hs rfl (by first | rfl | simp) (by first | rfl | (simp; done) | (simp [Go.AM.take_map]; done) | exact Go.AM.take_map.symm) .nil) | exact Go.AM.hs_all rfl rfl (by first | rfl | assumption | (simp; done) | (simp; omega)) (by first | rfl | assumption | (simp; done)) | ((first | apply Go.AM.Conv.pa | apply Go.AM.Conv.agg); repeat (first | exact .nil | apply Go.AM.PureL.c .refl | apply Go.AM.PureL.c .nl | apply Go.AM.PureL.c .sn | (apply Go.AM.PureL.hs; rfl; (first | rfl | simp); (first | rfl | (simp; done) | (simp [Go.AM.take_map]; done) | exact Go.AM.take_map.symm))))))))
  (hin' : fU (fun p => st.h p.1 = some p.2) hin := by repeat (first | exact trivial | refine ⟨rfl, ?_⟩)) (hout' : fU (fun p => p.1 ∈ keys hin ∨ st.h p.1 = none) hout := by repeat (first | exact trivial | refine ⟨.inr rfl, ?_⟩ | refine ⟨.inl (by decide), ?_⟩ | refine ⟨.inl (by repeat (first | exact List.Mem.head _ | apply List.Mem.tail)), ?_⟩)) (hok : callOk args hin = true := by rfl) : lC P n ops draw k st pre Q :=
 k_ (GStep.yes ho hg hj hbv hw (zF hin hout hb hop hd (lK hdn) hf ha hin' hout' hok)) hk
end
end Go.AM
namespace Go.AM
open Go
inductive CsLe : List C → List C → Prop
 | nil : CsLe [] []
 | cons {c c' : C} {l l' : List C} (h0 : Cle c c') (h : CsLe l l') : CsLe (c :: l) (c' :: l')
inductive RowsLe : List (List C) → List (List C) → Prop
 | nil : RowsLe [] []
 | cons {r r' : List C} {l l' : List (List C)} (h : CsLe r r') (k : RowsLe l l') : RowsLe (r :: l) (r' :: l')
theorem CsLe.refl : ∀ l : List C, CsLe l l
 | [] => .nil
 | _ :: l => .cons .refl (CsLe.refl l)
theorem CsLe.length {l l' : List C} (h : CsLe l l') : l'.length = l.length := by
 induction h with
 | nil => rfl
 | cons h0 h ih => simp [ih]
theorem CsLe.rep {S : Sto} {l l' : List C} (h : CsLe l l') : ∀ {vs : List Value}, bR S l vs → bR S l' vs := by
 induction h with
 | nil => exact fun k => k
 | cons h0 h ih =>
  intro vs k;simp only [bR] at k ⊢;obtain ⟨v, vs', rfl, h1, h2⟩ := k;exact ⟨v, vs', rfl, h0.rep h1, ih h2⟩
theorem CsLe.app {a a' b b' : List C} (h : CsLe a a') (k : CsLe b b') : CsLe (a ++ b) (a' ++ b') := by
 induction h with
 | nil => exact k
 | cons h0 h ih => exact .cons h0 ih
theorem RowsLe.flat {l l' : List (List C)} (h : RowsLe l l') : CsLe l.flatten l'.flatten := by
 induction h with
 | nil => exact .nil
 | cons h k ih => simp only [flatten_cons]; exact h.app ih
theorem RowsLe.length {l l' : List (List C)} (h : RowsLe l l') : l'.length = l.length := by
 induction h with
 | nil => rfl
 | cons h k ih => simp [ih]
theorem RowsLe.rows {l l' : List (List C)} (h : RowsLe l l') {n : Nat} : (∀ r ∈ l, r.length = n) → ∀ r ∈ l', r.length = n := by
 induction h with
 | nil => exact fun h => h
 | cons h k ih =>
  intro hl r hr;rcases mem_cons.1 hr with rfl | hr
  ·rw [h.length]; exact hl _ mem_cons_self
  ·exact ih (fun x hx => hl x (mem_cons_of_mem _ hx)) r hr
theorem Sub.arrWeak {kf : List Nat} {st : St} {x te es fz : Nat} {rows rows' : List (List C)} (h : st.h x = some (.arr te es rows fz)) (hp : RowsLe rows rows') : Sub kf ⟨st.e, upd st.h x (some (.arr te es rows' fz)), st.d⟩ st := by
 intro G n S μ a w _ hs;have hi := hs.inv;have ho := hi.obj x _ h
 have hE2 : Evolve S μ st.h S μ (upd st.h x (some (.arr te es rows' fz))) := ⟨S.le_refl, fun j y hj => by
  by_cases hjx : j = x
  ·subst hjx;rw [h] at hj; cases hj;exact ⟨_, aC _ _ _, by simp [AObj.succ, hp.length]⟩
  ·exact ⟨y, by rw [aT _ _ _ hjx]; exact hj, y.succ_refl rfl⟩⟩
 have hold : ∀ j y, upd st.h x (some (.arr te es rows' fz)) j = some y → ∃ y', st.h j = some y' := fun j y hj => by
  by_cases hjx : j = x
  ·subst hjx; exact ⟨_, h⟩
  ·rw [aT _ _ _ hjx] at hj; exact ⟨_, hj⟩
 refine ⟨S, μ, ⟨⟨hi.holds, fun j y hj => ?_, fun i j y y' b c c' hi' hj hm hm' => ?_, fun i y b c hi' hm => ?_, hi.frame, hi.sle, hi.sto, hi.evo.trans hE2, hi.fre⟩, hs.size, hs.defers.evolve hE2, fun s v e => aQ.evolve hE2 v _ (hs.env s v e)⟩⟩
 ·by_cases hjx : j = x
  ·subst hjx;have hj' : some (AObj.arr te es rows' fz) = some y := by rw [← hj]; exact (aC _ _ _).symm
   cases hj';obtain ⟨g0, g⟩ := ho;refine ⟨hp.rows g0, ?_⟩;rcases g with ⟨g1, g2⟩ | ⟨b, base, cap, vs, g1, g2, g3, g4, g5, g6, g7, g8, g9⟩
   ·subst g2;cases hp;exact .inl ⟨g1, rfl⟩
   ·refine .inr ⟨b, base, cap, vs, g1, g2, g3, by rw [hp.length]; exact g4, g5, ?_, g7, ?_, ?_⟩
    ·rw [hp.length]; exact hp.flat.rep g6
    ·rw [hp.length]; exact g8
    ·rw [hp.length]; exact g9
  ·have hj' : st.h j = some y := by rw [← hj]; exact (aT _ _ _ hjx).symm
   exact (hi.obj j y hj').evolve hE2 rfl fun _ _ _ => ⟨rfl, fun _ => rfl, rfl⟩
 ·obtain ⟨_, h1⟩ := hold _ _ hi';obtain ⟨_, h2⟩ := hold _ _ hj;exact hi.inj i j _ _ b c c' h1 h2 hm hm'
 ·obtain ⟨_, h1⟩ := hold _ _ hi';exact hi.own i _ b c h1 hm
theorem Sub.sgive {kf : List Nat} {st : St} {t id te es n sz fz : Nat} {rows : List (List C)} (h : st.e t = some (.one (.hs id 0 n sz))) (hh : st.h id = some (.arr te es rows fz)) (hn : n = rows.length) (hsz : sz = rows.length) :
  Sub kf ⟨upd st.e t (some (.one (.c (.sg te es rows)))), upd st.h id (some .dead), st.d⟩ st := by
 intro G nn S μ a w _ hs;obtain ⟨h1, h2, h3, h4, h5, h6, h7, h8, hfr⟩ := hs.inv;have hv := hs.env t _ h;simp only [aQ, b5] at hv;obtain ⟨_, hv | ⟨te', es', elems', fz', p1, p2, p3⟩⟩ := hv
 ·rw [hh] at hv; cases hv
 rw [hh] at p1; cases p1;obtain ⟨p4, p5⟩ := p3 hsz;have hold : ∀ j x, upd st.h id (some .dead) j = some x → j ≠ id → st.h j = some x := fun j x hj hne => by rw [aT _ _ _ hne] at hj; exact hj
 have fin : ∀ S', S.le S' → tI S' w → S'.free → (∀ j x, st.h j = some x → j ≠ id → ∀ b c, μ j = some (b, c) → (∀ o, S'.cell b o = S.cell b o) ∧ S'.mapo b = S.mapo b) →
   (∀ b, b < G.w0.heap.size → ¬ G.F b → (∀ o, S'.cell b o = S.cell b o) ∧ S'.mapo b = S.mapo b) → Rep S' (.sg te es rows) (a.tmps.getD t undef) →
   Sim G nn S' (upd μ id none) ⟨upd st.e t (some (.one (.c (.sg te es rows)))), upd st.h id (some .dead), st.d⟩ a w := by
  intro S' hle hH hF ho hb hr
  have hE : Evolve S μ st.h S' (upd μ id none) (upd st.h id (some .dead)) := ⟨hle, fun j x hj => by
   by_cases e : j = id
   ·subst e;rw [hh] at hj; cases hj;exact ⟨.dead, aC _ _ _, by simp [AObj.succ]⟩
   ·exact ⟨x, by rw [aT _ _ _ e]; exact hj, x.succ_refl (aT _ _ _ e)⟩⟩
  refine ⟨⟨hH, fun j x hj => ?_, fun i j x x' b c c' hi hj hm hm' => ?_, fun i x b c hi hm => ?_, h5, Sto.le_trans h6 hle, fun b hb1 hb2 => ?_, h8.trans hE, hF⟩, hs.size, hs.defers.evolve hE, fun s v e => ?_⟩
  ·by_cases hne : j = id
   ·subst hne;have hj' : some AObj.dead = some x := by rw [← hj]; exact (aC _ _ _).symm
    cases hj';exact aC _ _ _
   ·have hj' := hold j x hj hne;exact (h2 j x hj').evolve hE (aT _ _ _ hne) fun b c hm => ⟨rfl, (ho j x hj' hne b c hm).1, (ho j x hj' hne b c hm).2⟩
  ·have e1 : i ≠ id := fun e => by subst e; rw [aC] at hm; cases hm
   have e2 : j ≠ id := fun e => by subst e; rw [aC] at hm'; cases hm'
   rw [aT _ _ _ e1] at hm;rw [aT _ _ _ e2] at hm';exact h3 i j x x' b c c' (hold i x hi e1) (hold j x' hj e2) hm hm'
  ·have e1 : i ≠ id := fun e => by subst e; rw [aC] at hm; cases hm
   rw [aT _ _ _ e1] at hm;exact h4 i x b c (hold i x hi e1) hm
  ·obtain ⟨q1, q2⟩ := hb b hb1 hb2;exact ⟨fun o => (q1 o).trans ((h7 b hb1 hb2).1 o), q2.trans (h7 b hb1 hb2).2⟩
  ·by_cases hst : s = t
   ·subst hst;have e' : v = .one (.c (.sg te es rows)) := by
     have : some v = some (V.one (.c (.sg te es rows))) := by rw [← e]; exact aC _ _ _
     cases this; rfl
    subst e';simp only [aQ, b5];exact hr
   ·have e' : st.e s = some v := by rw [← e]; exact (aT _ _ _ hst).symm
    exact aQ.evolve hE v _ (hs.env s v e')
 rcases p5 with ⟨q1, q2, q3⟩ | ⟨b, base, cap, q1, q2⟩
 ·refine ⟨S, _, fin S S.le_refl h1 hfr (fun _ _ _ _ _ _ _ => ⟨fun _ => rfl, rfl⟩) (fun _ _ _ => ⟨fun _ => rfl, rfl⟩) ?_⟩;simp only [Rep];refine ⟨none, 0, 0, q3, by rw [q2]; rfl, le_refl _, zero_le _, .inl ⟨rfl, rfl, rfl⟩⟩
 ·obtain ⟨g0, vs, g2, g3, g4, g5, g6, g7, g8, g9⟩ := (h2 id _ hh).arr q1;have hle1 : rows.length * es ≤ cap * es := mul_le_mul_right _ g4
  let S' : Sto := ⟨fun b' o => if b' = b ∧ base ≤ o ∧ o < base + rows.length * es then vs[o]? else S.cell b' o, fun b' => if b' = b then some (.top te (base + rows.length * es) (base + cap * es)) else S.mapo b'⟩
  have hcell : ∀ o v, S.cell b o = some v → vs[o]? = some v := fun o v e => by
   obtain ⟨vs0, t0, fr0, r1, r2⟩ := h1.1 b o v e;rw [g2] at r1; cases r1;simpa using r2
  have hsame : ∀ b' o, b' ≠ b → S'.cell b' o = S.cell b' o := fun b' o hne => if_neg fun hc => hne hc.1
  have hsam2 : ∀ b', b' ≠ b → S'.mapo b' = S.mapo b' := fun b' hne => if_neg hne
  have hSb : S'.mapo b = some (.top te (base + rows.length * es) (base + cap * es)) := if_pos rfl
  have hle : S.le S' := ⟨fun b' o v e => by
   show (if b' = b ∧ base ≤ o ∧ o < base + rows.length * es then vs[o]? else S.cell b' o) = some v;by_cases hc : b' = b ∧ base ≤ o ∧ o < base + rows.length * es
   ·rw [if_pos hc];obtain ⟨rfl, _⟩ := hc;exact hcell o v e
   ·rw [if_neg hc]; exact e, fun b' m e => by
   by_cases hb : b' = b
   ·subst hb; rw [g5.2] at e; cases e
   ·exact ⟨m, by rw [hsam2 b' hb]; exact e, m.le_refl⟩⟩
  have hCA : dF S' b base ((vs.drop base).take (rows.length * es)) := fun i v hi => by
   rw [List.getElem?_take] at hi;split at hi
   ·rw [List.getElem?_drop] at hi;show (if b = b ∧ base ≤ base + i ∧ base + i < base + rows.length * es then vs[base + i]? else S.cell b (base + i)) = some v;rw [if_pos ⟨rfl, by omega, by omega⟩];exact hi
   ·cases hi
  refine ⟨S', _, fin S' hle ⟨fun b' o v e => ?_, fun b' m e => ?_⟩ (fun b' te' lo hi e o ho => ?_) (fun j x hj hne b' c' hm => ?_) (fun b' hb1 hb2 => ?_) ?_⟩
  ·by_cases hc : b' = b ∧ base ≤ o ∧ o < base + rows.length * es
   ·have e' : vs[o]? = some v := by rw [← e]; exact (if_pos hc).symm
    obtain ⟨rfl, _⟩ := hc;exact ⟨⟨vs⟩, te, (0, 0), g2, by simpa using e'⟩
   ·have e' : S.cell b' o = some v := by rw [← e]; exact (if_neg hc).symm
    exact h1.1 b' o v e'
  ·by_cases hb : b' = b
   ·subst hb;rw [hSb] at e; cases e;exact ⟨vs, g2, g3⟩
   ·rw [hsam2 b' hb] at e;exact h1.2 b' m e
  ·by_cases hb : b' = b
   ·subst hb;rw [hSb] at e; cases e;show (if b' = b' ∧ base ≤ o ∧ o < base + rows.length * es then vs[o]? else S.cell b' o) = none;rw [if_neg (by omega)];exact g8 o ho
   ·rw [hsam2 b' hb] at e;rw [hsame b' o hb];exact hfr b' te' lo hi e o ho
  ·have hne' : b' ≠ b := by
    rintro rfl;exact hne (h3 j id x _ b' c' _ hj hh hm q1)
   exact ⟨fun o => hsame b' o hne', hsam2 b' hne'⟩
  ·have hne' : b' ≠ b := by
    rintro rfl;rcases h4 id _ b' _ hh q1 with h9 | h9
    ·omega
    ·exact hb2 h9
   exact ⟨fun o => hsame b' o hne', hsam2 b' hne'⟩
  ·simp only [Rep];refine ⟨some ⟨b, base, none⟩, n, cap, by rw [q2]; simp, hn, by omega, g5.1, .inr ⟨b, base, rfl, aR.of_flat g0 (bR.mono hle _ _ g6) hCA, hSb⟩⟩
mutual
def C.nsg : C → Bool
 | .sg _ _ _ => false
 | .sl _ l => C.nsgs l
 | .sn _ l => C.nsgs l
 | .pt l => C.nsgL l
 | .mp _ l => C.nsgs l
 | .clo _ l => C.nsgL l
 | .int _ _ => true
 | .bool _ => true
 | .str _ => true
 | .nl => true
 | .np => true
 | .zv _ => true
 | .any => true
 | .fn _ => true
def C.nsgL : List C → Bool
 | [] => true
 | c :: l => c.nsg && C.nsgL l
def C.nsgs : List (List C) → Bool
 | [] => true
 | r :: l => C.nsgL r && C.nsgs l
end
structure Sto.drop (S S' : Sto) : Prop where
 cell : ∀ b o, S'.cell b o = S.cell b o
 all : ∀ b es clk, S.mapo b = some (.all es clk) → S'.mapo b = some (.all es clk)
theorem dF.drop {S S' : Sto} (h : S.drop S') {b o : Nat} {vs : List Value} (k : dF S b o vs) : dF S' b o vs := fun i v e => by rw [h.cell]; exact k i v e
mutual
theorem Rep.drop {S S' : Sto} (h : S.drop S') : ∀ (c : C) (v : Value), c.nsg = true → Rep S c v → Rep S' c v
 | .int _ _, _, _, k => by simpa [Rep] using k
 | .bool _, _, _, k => by simpa [Rep] using k
 | .str _, _, _, k => by simpa [Rep] using k
 | .nl, _, _, k => by simpa [Rep] using k
 | .np, _, _, k => by simpa [Rep] using k
 | .zv _, _, _, k => by simpa [Rep] using k
 | .any, _, _, k => by simp only [Rep] at k ⊢; exact k
 | .fn _, _, _, k => by simpa [Rep] using k
 | .sg _ _ _, _, n, _ => by simp [C.nsg] at n
 | .clo _ l, v, n, k => by
  simp only [Rep] at k ⊢;obtain ⟨vs, h1, h2⟩ := k;exact ⟨vs, h1, bR.drop' h l vs (by simpa [C.nsg] using n) h2⟩
 | .sl es l, v, n, k => by
  simp only [Rep] at k ⊢;obtain ⟨a, len, cap, h1, h2, h3, h4, h5, h6, b, o, h7, h8⟩ := k;exact ⟨a, len, cap, h1, h2, h3, h4, h5, h6, b, o, h7, aR.drop' h es b l o (by simpa [C.nsg] using n) h8⟩
 | .sn es l, v, n, k => by
  simp only [Rep] at k ⊢;obtain ⟨b, o, sp, len, cap, h1, h2, h3, h4, h5, h6⟩ := k;exact ⟨b, o, sp, len, cap, h1, h2, h3, h4, h5, aR.drop' h es b l o (by simpa [C.nsg] using n) h6⟩
 | .pt l, v, n, k => by
  simp only [Rep] at k ⊢;obtain ⟨b, o, h1, vs, h2, h3⟩ := k;exact ⟨b, o, h1, vs, bR.drop' h l vs (by simpa [C.nsg] using n) h2, h3.drop h⟩
 | .mp agg l, v, n, k => by
  simp only [Rep] at k ⊢;obtain ⟨b, es, clk, h1, h2, h3⟩ := k;have n' : C.nsgs l = true := by simpa [C.nsg] using n
  exact ⟨b, es, clk, h1, h.all _ _ _ h2, h3.elim (fun h3 => .inl (aZ.drop' h agg l es.toList n' h3)) fun h3 => .inr (uX.drop' h agg l es n' h3)⟩
theorem bR.drop' {S S' : Sto} (h : S.drop S') : ∀ (c : List C) (v : List Value), C.nsgL c = true → bR S c v → bR S' c v
 | [], _, _, k => by simpa [bR] using k
 | c :: cs, vs, n, k => by
  simp only [bR, C.nsgL, Bool.and_eq_true] at k n ⊢;obtain ⟨v, vs', h1, h2, h3⟩ := k;exact ⟨v, vs', h1, Rep.drop h c v n.1 h2, bR.drop' h cs vs' n.2 h3⟩
theorem aR.drop' {S S' : Sto} (h : S.drop S') (es b : Nat) : ∀ (l : List (List C)) (o : Nat), C.nsgs l = true → aR S es b l o → aR S' es b l o
 | [], _, _, _ => by simp [aR]
 | r :: rs, o, n, k => by
  simp only [aR, C.nsgs, Bool.and_eq_true] at k n ⊢;obtain ⟨h1, ⟨vs, h2, h3⟩, h4⟩ := k;exact ⟨h1, ⟨vs, bR.drop' h r vs n.1 h2, h3.drop h⟩, aR.drop' h es b rs (o + es) n.2 h4⟩
theorem aZ.drop' {S S' : Sto} (h : S.drop S') (agg : Bool) : ∀ (l : List (List C)) (es : List MapEntry), C.nsgs l = true → aZ S agg l es → aZ S' agg l es
 | [], _, _, k => by simpa [aZ] using k
 | r :: rs, es, n, k => by
  simp only [aZ, C.nsgs, Bool.and_eq_true] at k n ⊢;obtain ⟨e, es', h1, ⟨vs, h2, h3⟩, h4⟩ := k;exact ⟨e, es', h1, ⟨vs, bR.drop' h r _ n.1 h2, h3⟩, aZ.drop' h agg rs es' n.2 h4⟩
theorem eM.drop' {S S' : Sto} (h : S.drop S') (agg : Bool) : ∀ (l : List (List C)) (e : MapEntry), C.nsgs l = true → eM S agg l e → eM S' agg l e
 | [], _, _, k => by simp only [eM] at k
 | r :: rs, e, n, k => by
  simp only [eM, C.nsgs, Bool.and_eq_true] at k n ⊢;rcases k with ⟨vs, h2, h3⟩ | k
  ·exact .inl ⟨vs, bR.drop' h r _ n.1 h2, h3⟩
  ·exact .inr (eM.drop' h agg rs e n.2 k)
theorem uX.drop' {S S' : Sto} (h : S.drop S') (agg : Bool) : ∀ (l : List (List C)) (es : Array MapEntry), C.nsgs l = true → uX S agg l es → uX S' agg l es
 | [], _, _, k => by simp only [uX] at k
 | r :: rs, es, n, k => by
  simp only [uX, C.nsgs, Bool.and_eq_true] at k n ⊢;exact ⟨k.1, fun e he => eM.drop' h agg rs e n.2 (k.2.1 e he), k.2.2⟩
end
theorem gV : ∀ {l m : List C}, C.nsgL l = true → C.nsgL m = true → C.nsgL (l ++ m) = true
 | [], m, _, h => h
 | x :: l, m, h, h2 => by
  simp only [C.nsgL, Bool.and_eq_true, cons_append] at h ⊢;exact ⟨h.1, gV h.2 h2⟩
theorem jV : ∀ {l : List (List C)}, C.nsgs l = true → C.nsgL l.flatten = true
 | [], _ => rfl
 | r :: l, h => by
  simp only [C.nsgs, Bool.and_eq_true] at h;rw [flatten_cons];exact gV h.1 (jV h.2)
theorem aR.lie {S : Sto} {w : World} {b es te : Nat} {vs : List Value} (hH : tI S w) (hb : w.heap[b]? = some (.cells ⟨vs⟩ te (0, 0))) : ∀ {l : List (List C)} {o : Nat}, aR S es b l o → (∀ r ∈ l, r.length = es) ∧ bR S l.flatten ((vs.drop o).take (l.length * es)) ∧ dF S b o ((vs.drop o).take (l.length * es))
 | [], o, _ => ⟨by simp, by simp [bR], fun i v e => by simp at e⟩
 | r :: rs, o, k => by
  simp only [aR] at k;obtain ⟨h1, ⟨us, h2, h3⟩, h4⟩ := k;obtain ⟨g1, g2, g3⟩ := aR.lie hH hb h4;have hul : us.length = es := by rw [h2.length, h1]
  have hcell : ∀ i v, us[i]? = some v → vs[o + i]? = some v := fun i v e => by
   obtain ⟨vs0, t0, fr0, q1, q2⟩ := hH.1 b (o + i) v (h3 i v e);rw [hb] at q1; cases q1;simpa using q2
  have hus : (vs.drop o).take es = us := by
   apply List.ext_getElem?;intro i;by_cases hi : i < es
   ·obtain ⟨u, hu⟩ : ∃ u, us[i]? = some u := ⟨us[i]'(by omega), List.getElem?_eq_getElem (by omega)⟩
    rw [List.getElem?_take, if_pos hi, List.getElem?_drop, hu, hcell i u hu]
   ·rw [List.getElem?_take, if_neg hi, List.getElem?_eq_none (by omega)]
  have hsp : (vs.drop o).take ((r :: rs).length * es) = us ++ (vs.drop (o + es)).take (rs.length * es) := by
   rw [length_cons, add_mul, Nat.one_mul, Nat.add_comm (rs.length * es) es, List.take_add, hus, drop_drop]
  rw [hsp];refine ⟨fun q hq => ?_, ?_, fun i v e => ?_⟩
  ·rcases mem_cons.1 hq with rfl | hq
   ·exact h1
   ·exact g1 q hq
  ·rw [flatten_cons];exact h2.append g2
  ·by_cases hi : i < us.length
   ·rw [List.getElem?_append_left hi] at e;exact h3 i v e
   ·rw [List.getElem?_append_right (by omega)] at e;have := g3 _ v e;rwa [show o + es + (i - us.length) = o + i by omega] at this
theorem bR.split {S : Sto} : ∀ {a b : List C} {vs : List Value}, bR S (a ++ b) vs → ∃ x y, vs = x ++ y ∧ bR S a x ∧ bR S b y
 | [], b, vs, h => ⟨[], vs, rfl, by simp [bR], h⟩
 | c :: a, b, vs, h => by
  simp only [cons_append, bR] at h ⊢;obtain ⟨v, vs', rfl, h1, h2⟩ := h;obtain ⟨x, y, rfl, h3, h4⟩ := bR.split h2;exact ⟨v :: x, y, rfl, ⟨v, x, rfl, h1, h3⟩, h4⟩
theorem bR.toRc {S : Sto} {μ : Mu} {H : cH} : ∀ {a : List C} {vs : List Value}, bR S a vs → aO S μ H (a.map R.c) vs
 | [], vs, h => by simpa [bR, aO] using h
 | c :: a, vs, h => by
  simp only [map_cons, bR, aO] at h ⊢;obtain ⟨v, vs', rfl, h1, h2⟩ := h;exact ⟨v, vs', rfl, by simpa only [b5] using h1, bR.toRc h2⟩
theorem aO.app {S : Sto} {μ : Mu} {H : cH} : ∀ {a b : List R} {x y : List Value}, aO S μ H a x → aO S μ H b y → aO S μ H (a ++ b) (x ++ y)
 | [], b, x, y, h, k => by simp only [aO] at h; subst h; simpa using k
 | r :: a, b, x, y, h, k => by
  simp only [cons_append, aO] at h ⊢;obtain ⟨v, vs', rfl, h1, h2⟩ := h;exact ⟨v, vs' ++ y, rfl, h1, aO.app h2 k⟩
def rcs (l : List (List C)) : List (List R) := l.map (·.map R.c)
theorem lU : ∀ l : List (List C), (rcs l).flatten = l.flatten.map R.c
 | [] => rfl
 | r :: l => by
  show (r.map R.c ++ (rcs l).flatten) = _;rw [lU l, flatten_cons, map_append]
theorem Sub.sgRow {kf : List Nat} {st : St} {t id te es N tp ep : Nat} {pre post : List (List C)} {ra rb : List C} {l : List (List C)}
  (h : st.e t = some (.one (.hs id 0 N N))) (hh : st.h id = some (.arr te es (pre ++ (ra ++ .sg tp ep l :: rb) :: post) 0)) (hN : N = (pre ++ (ra ++ .sg tp ep l :: rb) :: post).length)
  (hpre : C.nsgs pre = true) (hpost : C.nsgs post = true) (hra : C.nsgL ra = true) (hrb : C.nsgL rb = true) (hl : C.nsgs l = true)
  (ho : ∀ j o, st.h j = some o → j = id) (hid : id ≠ 998) (he : ∀ s v, st.e s = some v → s = t ∨ ∃ c, v = .one (.c c) ∧ c.nsg = true) (hkf : id ∉ kf) (h997 : 997 ∈ kf) (hk2 : ∀ j ∈ kf, j = 997) (hd : st.d = []) :
  Sub kf ⟨upd st.e t (some (.one (.ra id 0 N N))), upd (upd st.h id (some (.rarr te es (rcs pre ++ (ra.map R.c ++ .hs 998 0 l.length l.length :: rb.map R.c) :: rcs post)))) 998 (some (.arr tp ep l 2)), st.d⟩ st := by
 intro G nn S μ a w hg hs
 have hnt : G.S0.noTop := hg.2 h997 (by
  cases hx : G.h0 997 with
  | none => rfl
  | some o =>
   obtain ⟨o', g1, _⟩ := hs.inv.evo.obj 997 o hx;have e1 := ho 997 o' g1
   exact absurd (hg.1 997 o hx) (by rw [e1]; exact hkf))
 have hh0 : ∀ j o, G.h0 j = some o → False := fun j o hj => by
  obtain ⟨o', g1, _⟩ := hs.inv.evo.obj j o hj;have e1 := ho j o' g1;exact hkf (by rw [← e1]; exact hg.1 j o hj)
 obtain ⟨h1, h2, h3, h4, h5, h6, h7, h8, hfr⟩ := hs.inv;have hv := hs.env t _ h;simp only [aQ, b5] at hv;obtain ⟨hshape, hv | ⟨te', es', elems', fz', p1, p2, p3⟩⟩ := hv
 ·rw [hh] at hv; cases hv
 rw [hh] at p1; cases p1;obtain ⟨p4, ⟨q1, q2, _⟩ | ⟨b, base, cap, q1, q2⟩⟩ := p3 hN
 ·simp at q2
 obtain ⟨g0, vs, g2, g3, g4, g5, g6, g7, g8, g9⟩ := (h2 id _ hh).arr q1;have hflat : (pre ++ (ra ++ .sg tp ep l :: rb) :: post).flatten = (pre.flatten ++ ra) ++ (.sg tp ep l :: (rb ++ post.flatten)) := by simp
 rw [hflat] at g6;obtain ⟨xa, xb, hx, r1, r2⟩ := bR.split g6;have r2' := r2;simp only [bR] at r2';obtain ⟨u, xc, hxb, r3, r4⟩ := r2';have r3' := r3;simp only [Rep] at r3';obtain ⟨sa, slen, scap, s1, s2, s3, s4, s5⟩ := r3';have hA : C.nsgL (pre.flatten ++ ra) = true := gV (jV hpre) hra;have hB : C.nsgL (rb ++ post.flatten) = true := gV hrb (jV hpost);have hes : ∀ r ∈ rcs pre ++ (ra.map R.c ++ .hs 998 0 l.length l.length :: rb.map R.c) :: rcs post, r.length = es := by
  intro r hr;rcases mem_append.1 hr with hr | hr
  ·obtain ⟨r0, hr0, rfl⟩ := mem_map.1 hr;rw [length_map]; exact g0 r0 (mem_append.2 (.inl hr0))
  ·rcases mem_cons.1 hr with rfl | hr
   ·have := g0 (ra ++ .sg tp ep l :: rb) (by simp);simpa using this
   ·obtain ⟨r0, hr0, rfl⟩ := mem_map.1 hr;rw [length_map]; exact g0 r0 (by simp [hr0])
 have hlen : (rcs pre ++ (ra.map R.c ++ R.hs 998 0 l.length l.length :: rb.map R.c) :: rcs post).length = (pre ++ (ra ++ .sg tp ep l :: rb) :: post).length := by simp [rcs]
 have hflat2 : (rcs pre ++ (ra.map R.c ++ R.hs 998 0 l.length l.length :: rb.map R.c) :: rcs post).flatten = ((pre.flatten ++ ra).map R.c) ++ (.hs 998 0 l.length l.length :: ((rb ++ post.flatten).map R.c)) := by
  simp [lU]
 have fin : ∀ (S' : Sto) (m8 : Option (Nat × Nat × Nat)), S.drop S' → tI S' w → S'.free → G.S0.le S' → (∀ b', b' < G.w0.heap.size → ¬ G.F b' → S'.mapo b' = S.mapo b') → S'.mapo b = none →
   (∀ b8 c8, m8 = some (b8, c8) → b8 ≠ b ∧ (G.w0.heap.size ≤ b8 ∨ G.F b8)) → j6 S' (upd μ 998 m8) (upd (upd st.h id (some (.rarr te es (rcs pre ++ (ra.map R.c ++ .hs 998 0 l.length l.length :: rb.map R.c) :: rcs post)))) 998 (some (.arr tp ep l 2))) w 998 (.arr tp ep l 2) →
   b5 S' (upd μ 998 m8) (upd (upd st.h id (some (.rarr te es (rcs pre ++ (ra.map R.c ++ .hs 998 0 l.length l.length :: rb.map R.c) :: rcs post)))) 998 (some (.arr tp ep l 2))) (.hs 998 0 l.length l.length) u →
   Sim G nn S' (upd μ 998 m8) ⟨upd st.e t (some (.one (.ra id 0 N N))), upd (upd st.h id (some (.rarr te es (rcs pre ++ (ra.map R.c ++ .hs 998 0 l.length l.length :: rb.map R.c) :: rcs post)))) 998 (some (.arr tp ep l 2)), st.d⟩ a w := by
  intro S' m8 hdr hH hF hle hsto hSb hm8 hO8 hu8;generalize hH' : upd (upd st.h id (some (.rarr te es (rcs pre ++ (ra.map R.c ++ R.hs 998 0 l.length l.length :: rb.map R.c) :: rcs post)))) 998 (some (.arr tp ep l 2)) = H' at *;have e8 : H' 998 = some (.arr tp ep l 2) := by rw [← hH']; exact aC _ _ _
  have eid : H' id = some (.rarr te es (rcs pre ++ (ra.map R.c ++ .hs 998 0 l.length l.length :: rb.map R.c) :: rcs post)) := by rw [← hH', aT _ _ _ hid]; exact aC _ _ _
  have eo : ∀ j o, H' j = some o → j = 998 ∨ j = id := fun j o hj => by
   by_cases e1 : j = 998
   ·exact .inl e1
   ·by_cases e2 : j = id
    ·exact .inr e2
    ·rw [← hH', aT _ _ _ e1, aT _ _ _ e2] at hj;exact .inr (ho j o hj)
  have m1 : upd μ 998 m8 id = some (b, base, cap) := by rw [aT _ _ _ hid]; exact q1
  have m2 : upd μ 998 m8 998 = m8 := aC _ _ _;have hrel : aO S' (upd μ 998 m8) H' (rcs pre ++ (ra.map R.c ++ .hs 998 0 l.length l.length :: rb.map R.c) :: rcs post).flatten (xa ++ xb) := by
   rw [hflat2];refine aO.app (bR.toRc (bR.drop' hdr _ _ hA r1)) ?_;rw [hxb];simp only [aO];exact ⟨u, xc, rfl, hu8, bR.toRc (bR.drop' hdr _ _ hB r4)⟩
  refine ⟨⟨hH, fun j x hj => ?_, fun i j x x' b' c c' hi hj hm hm' => ?_, fun i x b' c hi hm => ?_, h5, hle, fun b' hb1 hb2 => ⟨fun o => (hdr.cell b' o).trans ((h7 b' hb1 hb2).1 o), (hsto b' hb1 hb2).trans (h7 b' hb1 hb2).2⟩, ⟨hle, fun j x hj => (hh0 j x hj).elim⟩, hF⟩, hs.size, ?_, fun s v e => ?_⟩
  ·replace hj : H' j = some x := hj
   rcases eo j x hj with rfl | rfl
   ·rw [e8] at hj; cases hj; exact hO8
   ·rw [eid] at hj; cases hj;refine ⟨hes, .inr ⟨b, base, cap, vs, m1, g2, g3, by rw [hlen]; exact g4, ⟨g5.1, hSb⟩, ?_, fun o ho' => by rw [hdr.cell]; exact g7 rfl o ho'⟩⟩;rw [hlen, hx];exact hrel
  ·rcases eo i x hi with rfl | rfl <;> rcases eo j x' hj with rfl | rfl
   ·rfl
   ·rw [m2] at hm; rw [m1] at hm'; cases hm';exact absurd rfl (hm8 _ _ hm).1
   ·rw [m1] at hm; rw [m2] at hm'; cases hm;exact absurd rfl (hm8 _ _ hm').1
   ·rfl
  ·rcases eo i x hi with rfl | rfl
   ·rw [m2] at hm; exact (hm8 _ _ hm).2
   ·rw [m1] at hm; cases hm;exact h4 _ _ _ _ hh q1
  ·rw [hd]; have := hs.defers; rw [hd] at this; exact this
  ·by_cases hst : s = t
   ·subst hst;have e' : v = .one (.ra id 0 N N) := by
     have : some v = some (V.one (.ra id 0 N N)) := by rw [← e]; exact aC _ _ _
     cases this; rfl
    subst e';simp only [aQ, b5];refine ⟨hshape, .inr ⟨te, es, _, eid, by rw [hlen, hN]; exact le_refl _, fun _ => ⟨p4, .inr ⟨b, base, cap, m1, q2⟩⟩⟩⟩
   ·have e' : st.e s = some v := by rw [← e]; exact (aT _ _ _ hst).symm
    rcases he s v e' with rfl | ⟨c, rfl, hc⟩
    ·exact absurd rfl hst
    ·have := hs.env s _ e';simp only [aQ, b5] at this ⊢;exact Rep.drop hdr c _ hc this
 rcases s5 with ⟨rfl, rfl, rfl⟩ | ⟨b0, o0, rfl, s6, s7⟩
 ·have hl0 : l = [] := eq_nil_of_length_eq_zero s2.symm;subst hl0;refine ⟨S, upd μ 998 none, fin S none ⟨fun _ _ => rfl, fun _ _ _ e => e⟩ h1 hfr h6 (fun _ _ _ => rfl) g5.2 (fun _ _ e => by cases e) ⟨by simp, .inl ⟨aC _ _ _, rfl⟩⟩ ?_⟩;simp only [b5];refine ⟨⟨_, _, _, s1⟩, .inr ⟨tp, ep, [], 2, aC _ _ _, le_refl _, fun _ => ⟨le_refl _, .inl ⟨aC _ _ _, rfl, s1⟩⟩⟩⟩
 ·obtain ⟨vs0, t1, t2⟩ := h1.2 b0 _ s7;obtain ⟨f1, f2, f3⟩ := aR.lie h1 t1 s6
  let S' : Sto := ⟨S.cell, fun b' => if b' = b0 then none else S.mapo b'⟩
  have hmo : ∀ b', b' ≠ b0 → S'.mapo b' = S.mapo b' := fun b' e => if_neg e
  have hm0 : S'.mapo b0 = none := if_pos rfl
  have hdr : S.drop S' := ⟨fun _ _ => rfl, fun b' es' clk e => by
   have hne : b' ≠ b0 := by rintro rfl; rw [s7] at e; cases e
   rw [hmo b' hne]; exact e⟩
  have hbb : b0 ≠ b := by rintro rfl; rw [g5.2] at s7; cases s7
  have hold : ∀ b', b' < G.w0.heap.size → ¬ G.F b' → b' ≠ b0 := fun b' hb1 hb2 e => by
   subst e;have := (h7 b' hb1 hb2).2
   rw [s7] at this;obtain ⟨_, _, h⟩ := hnt b' _ this.symm;cases h
  have hlle : l.length * ep ≤ scap * ep := mul_le_mul_right _ (by omega);refine ⟨S', upd μ 998 (some (b0, o0, scap)), fin S' _ hdr ⟨h1.1, fun b' m e => ?_⟩ (fun b' te' lo hi e o ho' => ?_) ⟨h6.1, fun b' m e => ?_⟩ (fun b' hb1 hb2 => hmo b' (hold b' hb1 hb2)) (by rw [hmo b (fun e => hbb e.symm)]; exact g5.2) (fun b8 c8 e => ?_) ⟨f1, .inr ⟨b0, o0, scap, vs0, aC _ _ _, t1, t2, by omega, ⟨s4, hm0⟩, bR.drop' hdr _ _ (jV hl) f2, (fun e => by cases e), fun o ho' => hfr b0 tp _ _ s7 o ho', fun _ => f3.drop hdr⟩⟩ ?_⟩
  ·have hne : b' ≠ b0 := by rintro rfl; rw [hm0] at e; cases e
   rw [hmo b' hne] at e;exact h1.2 b' m e
  ·have hne : b' ≠ b0 := by rintro rfl; rw [hm0] at e; cases e
   rw [hmo b' hne] at e;exact hfr b' te' lo hi e o ho'
  ·obtain ⟨m', k1, k2⟩ := h6.2 b' m e;have hne : b' ≠ b0 := by
    rintro rfl;rw [s7] at k1; cases k1;obtain ⟨_, _, rfl⟩ := hnt b' m e;simp only [MK.le] at k2;cases k2
   exact ⟨m', by rw [hmo b' hne]; exact k1, k2⟩
  ·cases e;refine ⟨hbb, ?_⟩;by_cases k1 : G.w0.heap.size ≤ b0
   ·exact .inl k1
   ·by_cases k2 : G.F b0
    ·exact .inr k2
    ·exact absurd rfl (hold b0 (by omega) k2)
  ·simp only [b5];refine ⟨⟨_, _, _, s1⟩, .inr ⟨tp, ep, l, 2, aC _ _ _, le_refl _, fun _ => ⟨by omega, .inr ⟨b0, o0, scap, aC _ _ _, by rw [s1, s2]; simp⟩⟩⟩⟩
theorem Sub.rpure {kf : List Nat} {st : St} {t id te es N : Nat} {rows : List (List R)} {rows' : List (List C)} {ids : List Nat} (h : st.e t = some (.one (.ra id 0 N N))) (hh : st.h id = some (.rarr te es rows)) (hN : N = rows.length) (hlen : rows'.length = rows.length) (hpos : 1 ≤ N)
  (hes : ∀ r ∈ rows', r.length = es) (hp : PureL st.h ids rows.flatten rows'.flatten) (hkf : id ∉ kf) (hd : st.d = []) (he : ∀ s v, st.e s = some v → s = t ∨ ∃ c, v = .one (.c c)) (ho : ∀ j o, st.h j = some o → j = id ∨ ∃ te es l fz, o = .arr te es l fz) :
  Sub kf ⟨upd st.e t (some (.one (.hs id 0 N N))), upd st.h id (some (.arr te es rows' 0)), st.d⟩ st := by
 intro G nn S μ a w hg hs;have hv := hs.env t _ h;simp only [aQ, b5] at hv;obtain ⟨hshape, hv | ⟨te', es', elems', p1, p2, p3⟩⟩ := hv
 ·rw [hh] at hv; cases hv
 rw [hh] at p1; cases p1;obtain ⟨p4, p5⟩ := p3 hN;have hi := hs.inv;have hold : ∀ j x, upd st.h id (some (.arr te es rows' 0)) j = some x → ∃ x', st.h j = some x' ∧ (j ≠ id → x' = x) := fun j x hj => by
  by_cases e : j = id
  ·subst e; exact ⟨_, hh, fun h => absurd rfl h⟩
  ·rw [aT _ _ _ e] at hj; exact ⟨x, hj, fun _ => rfl⟩
 have hG : ∀ j o, G.h0 j = some o → j ≠ id := fun j o hj e => hkf (by rw [← e]; exact hg.1 j o hj)
 refine ⟨S, μ, ⟨⟨hi.holds, fun j x hj => ?_, fun i j x x' b c c' h1 h2 hm hm' => ?_, fun i x b c h1 hm => ?_, hi.frame, hi.sle, hi.sto, ⟨hi.evo.le, fun j x hj => ?_⟩, hi.fre⟩, hs.size, ?_, fun s v e => ?_⟩⟩
 ·by_cases e : j = id
  ·subst e;have hj' : some (AObj.arr te es rows' 0) = some x := by rw [← hj]; exact (aC _ _ _).symm
   cases hj';rcases p5 with ⟨q1, q2, _⟩ | ⟨b, base, cap, q1, q2⟩
   ·rw [q2] at hN; simp at hN; omega
   ·obtain ⟨g0, vs, g1, g2, g3, g4, g5, g6⟩ := (hi.obj j _ hh).rarr q1;have hrep : bR S rows'.flatten ((vs.drop base).take (rows.length * es)) := hp.rel (fun _ _ => rfl) hi.obj g5;exact ⟨hes, .inr ⟨b, base, cap, vs, q1, g1, g2, by rw [hlen]; exact g3, g4, by rw [hlen]; exact hrep, fun _ o ho' => g6 o ho', fun o ho' => g6 o (by omega), fun e => by cases e⟩⟩
  ·obtain ⟨x', k1, k2⟩ := hold j x hj;have := k2 e;subst this;have hO := hi.obj j x' k1;rcases ho j x' k1 with k3 | ⟨te1, es1, l1, fz1, rfl⟩
   ·exact absurd k3 e
   ·exact hO
 ·obtain ⟨_, k1, _⟩ := hold i x h1;obtain ⟨_, k2, _⟩ := hold j x' h2;exact hi.inj i j _ _ b c c' k1 k2 hm hm'
 ·obtain ⟨_, k1, _⟩ := hold i x h1;exact hi.own i _ b c k1 hm
 ·obtain ⟨o', k1, k2⟩ := hi.evo.obj j x hj;exact ⟨o', by show upd st.h id _ j = some o'; rw [aT _ _ _ (hG j x hj)]; exact k1, k2⟩
 ·have := hs.defers;rw [hd] at this ⊢;exact this
 ·by_cases hst : s = t
  ·subst hst;have e' : v = .one (.hs id 0 N N) := by
    have : some v = some (V.one (.hs id 0 N N)) := by rw [← e]; exact aC _ _ _
    cases this; rfl
   subst e';simp only [aQ, b5];refine ⟨hshape, .inr ⟨te, es, rows', 0, aC _ _ _, by omega, fun _ => ⟨p4, ?_⟩⟩⟩;rcases p5 with ⟨q1, q2, q3⟩ | q
   ·rw [q2] at hN; simp at hN; omega
   ·exact .inr q
  ·have e' : st.e s = some v := by rw [← e]; exact (aT _ _ _ hst).symm
   rcases he s v e' with rfl | ⟨c, rfl⟩
   ·exact absurd rfl hst
   ·have := hs.env s _ e';simp only [aQ, b5] at this ⊢;exact this
theorem Sub.flag {a b : St} (h : Sub [] a b) (hn : b.h 997 = none := by rfl) : Sub [997] a b := fun G n S μ x w hg hs => by
 refine h G n S μ x w ⟨fun id o ho => ?_, fun h => (by cases h)⟩ hs;obtain ⟨o', e, _⟩ := hs.inv.evo.obj id o ho;have h1 : id = 997 := by simpa using hg.1 id o ho
 rw [h1, hn] at e;cases e
end Go.AM
namespace Go.Proofs.YtlegeikmepnmcaaDoor
open Go Go.AM
set_option maxRecDepth 20000
def bQ (x : Sup) : List C := [.str x.name, .sg 9 1 (x.params.map bF)] ++ aE x.body
theorem nD (l : List Str) (hl : l.length ≤ 1000000) (hs : ∀ s ∈ l, s.length ≤ 1000000) : bN Tryd.prog 18 [b7 l] [] (.one (.c (.sg 9 1 ((aX l).map bF)))) [] := by
 have hM : 1000000000 ≤ maxLen := by decide
 refine cT (n := 32) tok Tryd.func18 rfl rfl rfl ?_;refine a8 (ag [] rfl ?_);refine a8 (ag [] rfl ?_);refine a8 (a8 (ag [] rfl ?_));refine AWp.sub (Sub.own (t := 3) (id := 500) 9 1 rfl rfl) ?_;have hka : (l.map bF).length = l.length := length_map _;refine aB ?_;refine aL (fun i : Nat => mk [(0, b7 l), (3, .one (.hs 500 0 i i)), (4, I .i64 i)] [(500, .arr 9 1 (((aX l).take i).map bF) 0)]) (fun i => i ≤ l.length) (fun i => l.length - i) 0 (zero_le _) sl ?_;intro i hi;have hpl : (aX l).length = l.length := eA l 0;have hrl : (((aX l).take i).map bF).length = i := by rw [length_map, length_take]; omega
 refine a8 (a8 (ag [] rfl ?_));refine aA rfl (fun hb => ?_) (fun hb => ?_)
 ·have hlt := ltD hb hka;obtain ⟨s, hs'⟩ := aI hlt;have hsr := c6 bF hs';have hsl := hs s (List.mem_of_getElem? hs');have hp := jT l i 0 s hs';rw [zero_add] at hp;have hh := nE (l.drop (i + 1)) s (by unfold Fits; rw [length_drop]; omega);have hd := aHy i (by omega);have hdl := jN i;have hrows := mF bF hp;have hh' : bN Tryd.prog 20 [.one (.c (.sl 1 ((l.map bF).drop (i + 1)))), Go.AM.T s] [] (B (decide (s ∈ l.drop (i + 1)))) [] := by rw [← List.map_drop]; exact hh
  refine aD ?_;refine a8 (aB ?_);refine a8 (ag [(2, .row i (bF s))] rfl ?_);refine a8 (AWp.cut (mk [(0, b7 l), (3, .one (.hs 500 0 i i)), (4, I .i64 i), (5, Go.AM.T (if s ∈ l.drop (i + 1) then s ++ [64, 112] ++ dec i else s))] [(500, .arr 9 1 (((aX l).take i).map bF) 0)]) ?_ ?_)
  ·refine a8 (agN [(5, .pc (B (decide (s ∈ l.drop (i + 1)))))] rfl ?_);refine aA rfl (fun hb => ?_) (fun hb => ?_)
   ·have hm : s ∈ l.drop (i + 1) := of_decide_eq_true hb;rw [if_pos hm];refine ag [(3, .pc (Go.AM.T (dec i)))] rfl ?_;exact sl
   ·have hm : ¬ s ∈ l.drop (i + 1) := of_decide_eq_false hb;rw [if_neg hm];exact aD sl
  refine ag [] rfl ?_;refine ag [] rfl ?_;exact ⟨i + 1, hlt, by dsimp only; omega, sl⟩
 have hge := geD hb hka hi;subst hge;refine aM ?_;rw [show (aX l).take l.length = aX l by rw [← hpl]; exact take_length];refine a8 (ag [] rfl ?_);have hlg : l.length = ((aX l).map bF).length := by rw [length_map]; exact (eA l 0).symm
 refine AWp.sub (Sub.sgive (t := 2) (id := 500) rfl rfl hlg hlg) ?_;exact aF rtT
theorem lE (c : Core) : ∀ (l : List Sup) (k : Nat) (y : Sup), l[k]? = some y → (setBody l k c).map bQ = (l.map bQ).set k ([.str y.name, .sg 9 1 (y.params.map bF)] ++ aE c)
 | [], k, y, h => by simp at h
 | x :: l, 0, y, h => by simp at h; subst h; rfl
 | x :: l, k + 1, y, h => by
  have := lE c l k y (by simpa using h);simp only [setBody, map_cons, List.set_cons_succ, this]
def lI (l : List Sup) : AObj := .arr 40 12 (l.map bQ) 0
def nK (c : Core) : Prop := ∀ (of : Str) (ar : List Str) (made : List Sup), wfR c = true → of.length ≤ 1000000 → uW ar → aG c ≤ 400000 → made.length + aG c ≤ 1000000 → ar.length + aG c ≤ 1000000 →
 bN Tryd.prog 17 [.pa (aE c), Go.AM.T of, b7 ar, rK made] [(901, lI made)] (.tup [.pa (aE (bD of false c (fun s => decide (s ∈ ar)) made).1), rK (bD of false c (fun s => decide (s ∈ ar)) made).2]) [(901, lI (bD of false c (fun s => decide (s ∈ ar)) made).2)]
theorem uH (c : Core) (hf : c.form = 5) (ih : ∀ x, aG x < aG c → nK x) : nK c := by
 intro of ar made hw hof har hsz hmd hln;have hM : 1000000000 ≤ maxLen := by decide
 obtain ⟨w1, w2, w3, w4, w5, w6⟩ := iR _ c (le_refl _) hw;have w6 := w6 hf;have hfr := aDf c ar (by omega) hsz;have hch := aA4 c w1 (by omega);have hfl := iL (fun s => decide (s ∈ ar)) c (fun _ => false) [];have hfi := iZ (fun s => decide (s ∈ ar)) c (fun _ => false) [] (fun s hs => by simp at hs);have hr : bD of false c (fun s => decide (s ∈ ar)) made = (let free := bZ (fun s => decide (s ∈ ar)) c (fun _ => false) []; let all := free ++ aW c; let r := bD of false (bJ c) (fun x => decide (x ∈ all)) (made ++ [⟨cX of made.length, aX all, eE⟩]); (eI (dR (cX of made.length)) free, setBody r.2 made.length r.1)) := by
  have hpc := jG of _ c (le_refl _) hw;obtain ⟨f, n, s, t, ks, bs, al⟩ := c;have hf : f = 5 := hf;rw [bD, if_pos hf, if_neg Bool.false_ne_true];have hN : aW (.mk f n s t ks bs al) = s :: cM ks := by rw [aW, if_pos hf]
  simp only [hN];have := hpc (fun x => decide (x ∈ bZ (fun s => decide (s ∈ ar)) (.mk f n s t ks bs al) (fun _ => false) [] ++ s :: cM ks)) (made ++ [⟨cX of made.length, aX (bZ (fun s => decide (s ∈ ar)) (.mk f n s t ks bs al) (fun _ => false) [] ++ s :: cM ks), eE⟩]);rw [bD, if_pos hf, if_pos rfl] at this;rw [this]
 rw [hr];dsimp only;generalize bZ (fun s => decide (s ∈ ar)) c (fun _ => false) [] = free at hfr hfl hfi ⊢;simp only [length_nil] at hfl;have hall : uW (free ++ aW c) := by
  intro s hs;rcases mem_append.1 hs with hs | hs
  ·exact har s (of_decide_eq_true (hfi s hs))
  ·have := w5 s hs; omega
 have hwi := lJ free (aW c) (by omega);have hpa := nD (free ++ aW c) (by rw [length_append]; omega) hall;have hdc := aHy (made.length + 1) (by omega);have hdl := jN (made.length + 1);have hal : (free ++ aW c).length ≤ aG c + (aW c).length := by rw [length_append]; omega
 generalize hAll : free ++ aW c = all at hall hwi hpa hal ⊢;have hpt := ih (bJ c) w6 of all (made ++ [⟨cX of made.length, aX all, eE⟩]) w2 hof hall (by omega) (by rw [length_append, length_singleton]; omega) (by omega);have hln := eZ of (bJ c) false (fun x => decide (x ∈ all)) (made ++ [⟨cX of made.length, aX all, eE⟩]);rw [length_append, length_singleton] at hln;generalize bD of false (bJ c) (fun x => decide (x ∈ all)) (made ++ [⟨cX of made.length, aX all, eE⟩]) = r at hpt hln ⊢;obtain ⟨y, hy⟩ := aI (show made.length < r.2.length by omega);have hy' := c6 bQ hy;have hset := lE r.1 r.2 made.length y hy;have hset' : r.2.length = (setBody r.2 made.length r.1).length := (eN _ _ _).symm;refine cT (n := 193) tok Tryd.func17 rfl rfl rfl ?_;refine a8 (ag [] rfl ?_);refine a8 (a8 (ag [] rfl ?_));refine aA rfl (fun _ => ?_) (fun hb => by have := of_decide_eq_false hb; exact absurd hf this);refine a8 (aJ mixed ?_);refine ak 2 [] rfl ?_;refine kc hfr ?_;refine ak 1 [] rfl ?_;refine az ?_;refine a8 (ag [(1, .pc (.tup [b7 (aW c), .pa (aE (bJ c))]))] rfl ?_);refine a8 (ag [(2, .pc (b7 all))] rfl ?_);refine a8 (ag [] rfl ?_);refine a8 (agN [(4, .pc (Go.AM.T (dec (made.length + 1))))] rfl ?_);refine a8 (ag [(3, .pc (.one (.c (.sg 9 1 ((aX all).map bF)))))] rfl ?_);have hmk : made.map bQ ++ [bQ (Sup.mk (cX of made.length) (aX all) eE)] = (made ++ [Sup.mk (cX of made.length) (aX all) eE]).map bQ := by rw [map_append]; rfl
 refine AWp.sub (st2 := mk [(1, Go.AM.T of), (3, rK (made ++ [⟨cX of made.length, aX all, eE⟩])), (8, .one (.vp 8 0)), (10, b7 free), (12, .one (.vp 12 0)), (13, b7 all), (14, I .i64 ((made.length : Nat) : Int)), (15, Go.AM.T (cX of made.length))] [(8, .var 38 hY), (12, .var 38 (bT (bJ c))), (901, lI (made ++ [⟨cX of made.length, aX all, eE⟩]))]) sl ?_;refine a8 (aJ mixed ?_);refine ak 4 [] rfl ?_;refine kc hpt ?_;refine ak 6 [] rfl ?_;refine az ?_;refine a8 (ag [(5, .row made.length (bQ y))] rfl ?_);refine a8 (ag [] rfl ?_);refine AWp.sub (vp 18 (aE (dR (cX of made.length)))) ?_;refine a8 (a8 (ag [] rfl ?_));have hkf : (free.map bF).length = free.length := length_map _;refine aB ?_
 refine aL (fun i : Nat => mk [(8, .one (.vp 8 0)), (10, b7 free), (17, rK (setBody r.2 made.length r.1)), (18, .one (.vp 18 0)), (19, I .i64 i)] [(8, .var 38 hY), (18, .var 38 (bT (eI (dR (cX of made.length)) (free.take i)))), (901, lI (setBody r.2 made.length r.1))]) (fun i => i ≤ free.length) (fun i => free.length - i) 0 (zero_le _) (by
  refine sl (he := ⟨rfl, rfl, ?_, rfl, rfl, trivial⟩) (hh := ⟨⟨_, rfl, .var rfl⟩, ⟨_, rfl, .var rfl⟩, ⟨_, rfl, .arrS hset.symm⟩, trivial⟩)
  exact Go.AM.hs_ren hset' hset') ?_
 intro i hi;refine a8 (a8 (ag [] rfl ?_));refine aA rfl (fun hb => ?_) (fun hb => ?_)
 ·have hlt := ltD hb hkf;obtain ⟨s, hs⟩ := aI hlt;have hs' := c6 bF hs;refine aD ?_;refine a8 (aB ?_);refine ag [(3, .row i (bF s)), (6, .all)] rfl ?_;refine ag [] rfl ?_;refine ⟨i + 1, hlt, by dsimp only; omega, Sub.trans ?_ (vp 18 (aE (tG (eI (dR (cX of made.length)) (free.take i)) (dR s))))⟩;dsimp only;rw [bG hs, iQ];exact sl
 have hge := geD hb hkf hi;subst hge;rw [take_length];refine aM ?_;refine a8 (ag [] rfl ?_);refine aF ?_;exact ⟨.inr rfl, ⟨_, _, .cell rfl (tg rfl) rfl rfl rfl (.tmp rfl .nil), .cons .refl (.cons .refl .nil), rfl⟩, ⟨⟨_, rfl, .arr⟩, trivial⟩, rfl⟩
theorem uF (c : Core) (hf : c.form ≠ 5) (ih : ∀ x, aG x < aG c → nK x) : nK c := by
 intro of ar made hw hof har hsz hmd hln;obtain ⟨f, n, s, t, ks, bs, al⟩ := c;have hf : ¬ f = 5 := hf;obtain ⟨ihk, ihb, iha, hkl, hbl, hal⟩ := @gP f n s t ks bs al;have hw' := hw;simp only [wfR, Bool.and_eq_true] at hw';obtain ⟨_, hwk, hwb, hwa⟩ := hw';have hgi := uK (.mk f n s t ks bs al) (by omega);have hgl := pO f s bs;have hwi := lJ ar (gvs f s bs) (by omega);have hsz2 := hsz;have hmd2 := hmd;have hln2 := hln;rw [aG] at hsz2 hmd2 hln2;have hbl2 := cC bs;have hins : uW (ar ++ gvs f s bs) := by
  intro x hx;rcases mem_append.1 hx with hx | hx
  ·exact har x hx
  ·have := aFp (n := n) (t := t) (ks := ks) (al := al) x hx; omega
 have hil : (ar ++ gvs f s bs).length ≤ ar.length + 1 + bs.length := by rw [length_append]; omega
 have hkB : (aP bs).length = bs.length := by rw [aU, length_map]
 have hkK : (bB ks).length = ks.length := by rw [b9, length_map]
 have hkA : (bH al).length = al.length := by rw [aV, length_map]
 rw [show bD of false (.mk f n s t ks bs al) (fun s => decide (s ∈ ar)) made = (let rb := bM of bs (fun x => decide (x ∈ ar ++ gvs f s bs)) made; let rk := bX of ks (fun x => decide (x ∈ ar ++ gvs f s bs)) rb.2; let ra := c0 of al (fun x => decide (x ∈ ar ++ gvs f s bs)) rk.2; (.mk f n s t rk.1 rb.1 ra.1, ra.2)) by rw [bD, if_neg hf, aCx]];dsimp only;refine cT (n := 193) tok Tryd.func17 rfl rfl rfl ?_;refine a8 (ag [] rfl ?_);refine a8 (a8 (ag [] rfl ?_));refine aA rfl (fun hb => absurd (of_decide_eq_true hb) hf) (fun _ => ?_);refine aD ?_;refine a8 (ag [(2, .pc (b7 (gvs f s bs))), (3, .pc (b7 (ar ++ gvs f s bs)))] rfl ?_);generalize ar ++ gvs f s bs = ins at hins hil ⊢;generalize hAd : (fun x => decide (x ∈ ins)) = A;refine a8 (ag [] rfl ?_);refine AWp.sub (Sub.own (t := 21) (id := 600) 46 15 rfl rfl) ?_;refine a8 (a8 (ag [] rfl ?_));refine aB ?_;refine aL (fun i : Nat => mk [(1, Go.AM.T of), (3, rK (bM of (bs.take i) A made).2), (4, .one (.vp 4 0)), (8, .one (.vp 8 0)), (20, b7 ins), (21, .one (.hs 600 0 i i)), (22, I .i64 i)] [(4, .var 38 (bT (.mk f n s t ks bs al))), (8, .var 38 hY), (600, .arr 46 15 ((bM of (bs.take i) A made).1.map aK) 0), (901, lI (bM of (bs.take i) A made).2)]) (fun i => i ≤ bs.length) (fun i => bs.length - i) 0 (zero_le _) (by rw [take_zero, bM]; exact sl) ?_;intro i hi;have hct := fZ of A (bs.take i) made;rw [length_take, min_eq_left hi] at hct;refine a8 (a8 (ag [] rfl ?_));refine aA rfl (fun hb => ?_) (fun hb => ?_)
 ·have hlt := ltD hb hkB;obtain ⟨b, hbi⟩ := aI hlt;have hbi' := cB hbi;have hst := kM of A b (bs.take i) made;rw [← bG hbi] at hst;have hml := iT of (bs.take i) A made;have h1 := cW hbi;have h3 : aG b.body + 1 ≤ bsize b := by obtain ⟨s', t', c'⟩ := b; rw [bsize]; show aG c' + 1 ≤ _; omega
  have h4 : 1 ≤ bsize b := by obtain ⟨s', t', c'⟩ := b; rw [bsize]; omega
  have hbl3 := cC (bs.take i);rw [length_take] at hbl3;obtain ⟨hty, hwb1⟩ := oW hwb b (List.mem_of_getElem? hbi);have hc := ih b.body (ihb b (List.mem_of_getElem? hbi)) of ins (bM of (bs.take i) A made).2 hwb1 hof hins (by omega) (by omega) (by omega);rw [hAd] at hc;generalize bM of (bs.take i) A made = Mi at hct hst hml hc ⊢;refine aD ?_;refine a8 (aB ?_);refine a8 (aJ mixed ?_);refine ak 9 [(3, .row i (aK b))] rfl ?_;refine kc hc ?_;refine ak 6 [] rfl ?_;refine az ?_;refine a8 (ag [] rfl ?_);refine ag [(4, .row i (aK b))] rfl ?_;refine ag [] rfl ?_;refine ⟨i + 1, hlt, by dsimp only; omega, ?_⟩;dsimp only;rw [hst];have hrows : Mi.1.map aK ++ [aK (Bind.mk b.name zTy (bD of false b.body A Mi.2).1)] = (Mi.1 ++ [Bind.mk b.name b.ty (bD of false b.body A Mi.2).1]).map aK := by rw [hty, map_append]; rfl
  exact sl
 have hge := geD hb hkB hi;subst hge;rw [take_length] at hct ⊢;have hbm := iT of bs A made;generalize bM of bs A made = RB at hct hbm ⊢;refine aM ?_;refine AWp.sub (Sub.freeze (id := 600) rfl) (AWp.sub (cv 21 (aP RB.1) (h3 := (aU _).symm)) ?_);refine a8 (ag [] rfl ?_);refine AWp.sub (Sub.own (t := 25) (id := 601) 38 10 rfl rfl) ?_;refine a8 (a8 (ag [] rfl ?_));refine aB ?_;refine aL (fun i : Nat => mk [(1, Go.AM.T of), (3, rK (bX of (ks.take i) A RB.2).2), (4, .one (.vp 4 0)), (8, .one (.vp 8 0)), (20, b7 ins), (21, .one (.c (.sl 15 (aP RB.1)))), (25, .one (.hs 601 0 i i)), (26, I .i64 i)] [(4, .var 38 (bT (.mk f n s t ks bs al))), (8, .var 38 hY), (601, .arr 38 10 ((bX of (ks.take i) A RB.2).1.map aE) 0), (901, lI (bX of (ks.take i) A RB.2).2)]) (fun i => i ≤ ks.length) (fun i => ks.length - i) 0 (zero_le _) (by rw [take_zero, bX]; exact sl) ?_;intro i hi;have hct2 := fY of A (ks.take i) RB.2;rw [length_take, min_eq_left hi] at hct2;refine a8 (a8 (ag [] rfl ?_));refine aA rfl (fun hb => ?_) (fun hb => ?_)
 ·have hlt := ltD hb hkK;obtain ⟨k, hki⟩ := aI hlt;have hki' := cU hki;have hst := kK of A k (ks.take i) RB.2;rw [← bG hki] at hst;have hml := iS of (ks.take i) A RB.2;have h1 := dP hki;have hwk1 := oV hwk k (List.mem_of_getElem? hki);have hc := ih k (ihk k (List.mem_of_getElem? hki)) of ins (bX of (ks.take i) A RB.2).2 hwk1 hof hins (by omega) (by omega) (by omega);rw [hAd] at hc;generalize bX of (ks.take i) A RB.2 = Mi at hct2 hst hml hc ⊢;refine aD ?_;refine a8 (aB ?_);refine a8 (aJ mixed ?_);refine ak 8 [(3, .row i (aE k))] rfl ?_;refine kc hc ?_;refine ak 6 [] rfl ?_;refine az ?_;refine a8 (ag [] rfl ?_);refine ag [] rfl ?_;refine ag [] rfl ?_;refine ⟨i + 1, hlt, by dsimp only; omega, ?_⟩;dsimp only;rw [hst];have hrows : Mi.1.map aE ++ [aE (bD of false k A Mi.2).1] = (Mi.1 ++ [(bD of false k A Mi.2).1]).map aE := by rw [map_append]; rfl
  exact sl
 have hge := geD hb hkK hi;subst hge;rw [take_length] at hct2 ⊢;have hkm := iS of ks A RB.2;generalize bX of ks A RB.2 = RK at hct2 hkm ⊢;refine aM ?_;refine AWp.sub (Sub.freeze (id := 601) rfl) (AWp.sub (cv 25 (bB RK.1) (h3 := (b9 _).symm)) ?_);refine a8 (ag [] rfl ?_);refine AWp.sub (Sub.own (t := 29) (id := 602) 65 14 rfl rfl) ?_;refine a8 (a8 (ag [] rfl ?_));refine aB ?_;refine aL (fun i : Nat => mk [(1, Go.AM.T of), (3, rK (c0 of (al.take i) A RK.2).2), (4, .one (.vp 4 0)), (8, .one (.vp 8 0)), (20, b7 ins), (21, .one (.c (.sl 15 (aP RB.1)))), (25, .one (.c (.sl 10 (bB RK.1)))), (29, .one (.hs 602 0 i i)), (30, I .i64 i)] [(4, .var 38 (bT (.mk f n s t ks bs al))), (8, .var 38 hY), (602, .arr 65 14 ((c0 of (al.take i) A RK.2).1.map cL) 0), (901, lI (c0 of (al.take i) A RK.2).2)]) (fun i => i ≤ al.length) (fun i => al.length - i) 0 (zero_le _) (by rw [take_zero, c0]; exact sl) ?_;intro i hi;have hct3 := gA of A (al.take i) RK.2;rw [length_take, min_eq_left hi] at hct3;refine a8 (a8 (ag [] rfl ?_));refine aA rfl (fun hb => ?_) (fun hb => ?_)
 ·have hlt := ltD hb hkA;obtain ⟨a, hai⟩ := aI hlt;have hai' := cV hai;have hst := kP of A a (al.take i) RK.2;rw [← bG hai] at hst;have hml := kN of (al.take i) A RK.2;have h1 := dQ hai;have h3 : aG a.body + (a.vars.map fun v => 1 + v.length).sum ≤ fT a := by obtain ⟨f', n', s', v', c'⟩ := a; rw [fT]; show aG c' + (v'.map fun v => 1 + v.length).sum ≤ _; omega
  have h4 := fX a.vars;have hwa1 := oX hwa a (List.mem_of_getElem? hai);have hins2 : uW (ins ++ a.vars) := by
   intro x hx;rcases mem_append.1 hx with hx | hx
   ·exact hins x hx
   ·have := vA hx; omega
  have hc := ih a.body (iha a (List.mem_of_getElem? hai)) of (ins ++ a.vars) (c0 of (al.take i) A RK.2).2 hwa1 hof hins2 (by omega) (by omega) (by rw [length_append]; omega);have hwa2 := lJ ins a.vars (by omega);rw [aCx, hAd] at hc;generalize c0 of (al.take i) A RK.2 = Mi at hct3 hst hml hc ⊢;obtain ⟨f', n', s', v', c'⟩ := a;refine aD ?_;refine a8 (aB ?_);refine a8 (ag [(3, .row i (cL (.mk f' n' s' v' c')))] rfl ?_);refine a8 (aJ mixed ?_);refine ak 8 [(6, .pc (b7 (ins ++ v')))] rfl ?_;refine kc hc ?_;refine ak 6 [] rfl ?_;refine az ?_;refine a8 (ag [] rfl ?_);refine a8 (ag [] rfl ?_);refine ag [] rfl ?_;refine ag [] rfl ?_;refine ⟨i + 1, hlt, by dsimp only; omega, ?_⟩;dsimp only;rw [hst];have hrows : Mi.1.map cL ++ [cL (Alt.mk f' n' s' v' (bD of false c' (ext A v') Mi.2).1)] = (Mi.1 ++ [Alt.mk f' n' s' v' (bD of false c' (ext A v') Mi.2).1]).map cL := by rw [map_append]; rfl
  exact sl
 have hge := geD hb hkA hi;subst hge;rw [take_length] at hct3 ⊢;generalize c0 of al A RK.2 = RA at hct3 ⊢;refine aM ?_;refine AWp.sub (Sub.freeze (id := 602) rfl) (AWp.sub (cv 29 (bH RA.1) (h3 := (aV _).symm)) ?_);refine a8 (ag [] rfl ?_);refine a8 (ag [] rfl ?_);refine a8 (ag [] rfl ?_);refine a8 (ag [] rfl ?_);refine aF ?_;exact ⟨.inr rfl, ⟨_, _, .cell rfl (tg rfl) rfl rfl rfl (.tmp rfl .nil), .cons .refl (.cons .refl .nil), rfl⟩, ⟨⟨_, rfl, .arr⟩, trivial⟩, rfl⟩
theorem uI : ∀ (n : Nat) (c : Core), aG c ≤ n → nK c
 | 0, c, h => by have := cO c; omega
 | n + 1, c, h => by
  by_cases hf : c.form = 5
  ·exact uH c hf fun x hx => uI n x (by omega)
  ·exact uF c hf fun x hx => uI n x (by omega)
theorem uG (c : Core) (of : Str) (ar : List Str) (hw : wfR c = true) (hof : of.length ≤ 1000000) (har : uW ar) (hsz : aG c ≤ 400000) (hln : ar.length + aG c ≤ 1000000) :
  bN Tryd.prog 17 [.pa (aE c), Go.AM.T of, b7 ar, .one (.c .nl)] [] (.tup [.pa (aE (bD of false c (fun s => decide (s ∈ ar)) []).1), rK (bD of false c (fun s => decide (s ∈ ar)) []).2]) [(901, lI (bD of false c (fun s => decide (s ∈ ar)) []).2)] := by
 have h := uI _ c (le_refl _) of ar [] hw hof har hsz (by simp; omega) hln;exact bN.nilArg (pre := [.pa (aE c), Go.AM.T of, b7 ar]) (post := []) (hin := []) h rfl
def aFl (l : List Sup) : AObj := .arr 40 12 (l.map bQ) 0
theorem aAq (l : List Bind) (hl : l.length ≤ 100) (h : ∀ b ∈ l, BOk b) : bN Tryd.prog 5 [.one (.c (.sl 15 (l.map aK)))] [] (aFk (fC l)) [(500, aFl (fC l))] := by
 have hll := iI h;refine cT (n := 51) tok Tryd.func5 rfl rfl rfl ?_;refine a8 (ag [] rfl ?_);refine a8 (ag [] rfl ?_);refine a8 (a8 (ag [] rfl ?_));refine AWp.sub (Sub.own (t := 3) (id := 500) 40 12 rfl rfl) ?_;refine aB ?_;have hkl : (l.map aK).length = l.length := length_map _;refine aL (fun i : Nat => mk [(0, .one (.c (.sl 15 (l.map aK)))), (3, aFk (fC (l.take i))), (4, I .i64 i)] [(500, aFl (fC (l.take i)))]) (fun i => i ≤ l.length) (fun i => l.length - i) 0 (zero_le _) sl ?_;intro i hi;refine a8 (a8 (ag [] rfl ?_));refine aA rfl (fun hb => ?_) (fun hb => ?_)
 ·have hlt := ltD hb hkl;obtain ⟨b, hbi⟩ := aI hlt;have hbi' := c6 aK hbi;have hm := List.mem_of_getElem? hbi;obtain ⟨hw, hs, hn⟩ := h b hm;obtain ⟨w1, w2, w3, w4, w5, w6⟩ := iR _ b.body (le_refl _) hw;have hch := aA4 b.body w1 (by omega);have hsh : uW (aW b.body) := fun s hs' => by have := w5 s hs'; omega
  have hpt := uG (bJ b.body) b.name (aW b.body) w2 hn hsh (by omega) (by omega);have hpa := nD (aW b.body) (by omega) hsh;have hst := oA hbi;rw [jY hw] at hst;have hlm := iI (l := l.take i) fun x hx => h x (mem_of_mem_take hx)
  rw [length_take] at hlm;have hpl := eZ b.name (bJ b.body) false (fun x => decide (x ∈ aW b.body)) [];simp only [length_nil] at hpl;generalize bD b.name false (bJ b.body) (fun x => decide (x ∈ aW b.body)) [] = r at hpt hst hpl;generalize fC (l.take i) = X at hst hlm ⊢;refine aD ?_;refine a8 (aB ?_);refine a8 (ag [(2, .row i (aK b)), (5, .pc (.tup [b7 (aW b.body), .pa (aE (bJ b.body))]))] rfl ?_);refine a8 (aJ mixed ?_);refine ak 7 [(3, .row i (aK b))] rfl ?_;refine kc hpt ?_;refine ak 6 [] rfl ?_;refine az ?_;refine a8 (ag [(3, .row i (aK b)), (7, .pc (.one (.c (.sg 9 1 ((aX (aW b.body)).map bF)))))] rfl ?_);refine ag [(2, .all)] rfl ?_;refine ag [] rfl ?_;refine ⟨i + 1, hlt, by dsimp only; omega, ?_⟩;dsimp only;rw [hst];have hrows : X.map bQ ++ [bQ (Sup.mk b.name (aX (aW b.body)) r.1)] ++ r.2.map bQ = (X ++ Sup.mk b.name (aX (aW b.body)) r.1 :: r.2).map bQ := by
   rw [map_append, append_assoc]; rfl
  refine sl (he := ⟨rfl, Go.AM.hs_ren (by simp; omega) (by simp; omega), rfl, trivial⟩) (hh := ⟨⟨_, rfl, .arrS hrows⟩, trivial⟩)
 have hge := geD hb hkl hi;subst hge;rw [take_length];refine aM ?_;refine a8 (ag [] rfl ?_);exact aF (rtT (hc := .refl))
mutual
theorem iU : ∀ t : Ty, C.nsgs (eV t) = true
 | .mk _ _ _ a => by rw [eV]; exact zK a
theorem zK : ∀ l : List Ty, C.nsgs (sG l) = true
 | [] => by rw [sG]; rfl
 | t :: l => by rw [sG, C.nsgs, zK l]; simp [C.nsgL, C.nsg, iU t]
end
theorem lZ : ∀ l : List Str, C.nsgs (l.map bF) = true
 | [] => rfl
 | s :: l => by rw [map_cons, C.nsgs, lZ l]; rfl
mutual
theorem m5 : ∀ c : Core, C.nsgs (iM c) = true
 | .mk _ _ _ _ l _ _ => by rw [iM]; exact rB l
theorem m0 : ∀ c : Core, C.nsgs (kZ c) = true
 | .mk _ _ _ _ _ l _ => by rw [kZ]; exact rC l
theorem jW : ∀ c : Core, C.nsgs (j1 c) = true
 | .mk _ _ _ _ _ _ l => by rw [j1]; exact vP l
theorem rB : ∀ l : List Core, C.nsgs (bB l) = true
 | [] => by rw [bB]; rfl
 | c :: l => by rw [bB, C.nsgs, rB l]; simp [C.nsgL, C.nsg, iU, m5 c, m0 c, jW c]
theorem aCq : ∀ b : Bind, C.nsgL (uB b) = true
 | .mk _ _ c => by rw [uB]; simp [C.nsgL, C.nsg, iU, m5 c, m0 c, jW c]
theorem rC : ∀ l : List Bind, C.nsgs (aP l) = true
 | [] => by rw [aP]; rfl
 | b :: l => by rw [aP, C.nsgs, rC l, gV (by simp [C.nsgL, C.nsg, iU]) (aCq b)]; rfl
theorem aCp : ∀ a : Alt, C.nsgL (uA a) = true
 | .mk _ _ _ _ c => by rw [uA]; simp [C.nsgL, C.nsg, iU, m5 c, m0 c, jW c]
theorem vP : ∀ l : List Alt, C.nsgs (bH l) = true
 | [] => by rw [bH]; rfl
 | a :: l => by rw [bH, C.nsgs, vP l, gV (by simp [C.nsgL, C.nsg, lZ]) (aCp a)]; rfl
end
theorem vO (c : Core) : C.nsgL (aE c) = true := by
 unfold aE;simp [C.nsgL, C.nsg, iU, m5 c, m0 c, jW c]
theorem pI : ∀ l : List Sup, C.nsgs (l.map aY) = true
 | [] => rfl
 | x :: l => by
  rw [map_cons, C.nsgs, pI l];unfold aY;rw [gV (by simp [C.nsgL, C.nsg, lZ]) (vO x.body)]; rfl
theorem RowsLe.app {a a' b b' : List (List C)} (h : RowsLe a a') (k : RowsLe b b') : RowsLe (a ++ b) (a' ++ b') := by
 induction h with
 | nil => exact k
 | cons h _ ih => exact .cons h ih
theorem sup_le (x : Sup) : CsLe (bQ x) (aY x) := .cons .refl (.cons .sg (CsLe.refl _))
theorem kH : ∀ l : List Sup, RowsLe (l.map bQ) (l.map aY)
 | [] => .nil
 | x :: l => .cons (sup_le x) (kH l)
theorem aFj {α : Type} {l : List α} {k : Nat} {x : α} (h : l[k]? = some x) : l = l.take k ++ x :: l.drop (k + 1) := by
 have hk : k < l.length := (List.getElem?_eq_some_iff.1 h).1
 have := drop_eq_getElem_cons hk;rw [(List.getElem?_eq_some_iff.1 h).2] at this;rw [← this, List.take_append_drop]
theorem yR {α : Type} {l : List α} {k : Nat} {x : α} (y : α) (h : l[k]? = some x) : l.set k y = l.take k ++ y :: l.drop (k + 1) := by
 have hk : k < l.length := (List.getElem?_eq_some_iff.1 h).1
 rw [set_eq_take_append_cons_drop, if_pos hk]
theorem aHe {S : List Sup} {k : Nat} {x : Sup} (h : S[k]? = some x) : RowsLe (S.map bQ) ((S.take k).map aY ++ bQ x :: (S.drop (k + 1)).map aY) := by
 conv => lhs; rw [aFj h]
 rw [map_append, map_cons];exact RowsLe.app (kH _) (.cons (CsLe.refl _) (kH _))
theorem nU {S : List Sup} {k : Nat} {x y : Sup} {r : List C} (h : S[k]? = some x) (hr : CsLe r (aY y)) : RowsLe ((S.map bQ).set k r) ((S.set k y).map aY) := by
 rw [yR r (show (S.map bQ)[k]? = some (bQ x) by rw [List.getElem?_map, h]; rfl), yR y h, map_append, map_cons, ← map_take, ← List.map_drop];exact RowsLe.app (kH _) (.cons hr (kH _))
theorem aHf {α : Type} {a b : Nat} {x y v : α} {i : Nat} (h : Go.AM.look [(a, x), (b, y)] i = some v) : (i = a ∧ v = x) ∨ (i = b ∧ v = y) := by
 simp only [Go.AM.look] at h;split at h
 ·rename_i hb;cases h;exact .inl ⟨eq_of_beq_eq_true hb, rfl⟩
 ·split at h
  ·rename_i hb;cases h;exact .inr ⟨eq_of_beq_eq_true hb, rfl⟩
  ·cases h
theorem aHg {α : Type} {a : Nat} {x v : α} {i : Nat} (h : Go.AM.look [(a, x)] i = some v) : i = a ∧ v = x := by
 simp only [Go.AM.look] at h;split at h
 ·rename_i hb;cases h;exact ⟨eq_of_beq_eq_true hb, rfl⟩
 ·cases h
theorem pC : ∀ l : List (List C), gT (rcs l) = []
 | [] => rfl
 | r :: l => by
  show R.refsL (r.map R.c) ++ gT (rcs l) = [];rw [pC l];have : ∀ r : List C, R.refsL (r.map R.c) = [] := fun r => by
   induction r with
   | nil => rfl
   | cons c r ih => simp [R.refsL, R.refs, ih]
  rw [this]; rfl
theorem vJ : ∀ l m : List (List R), gT (l ++ m) = gT l ++ gT m
 | [], _ => rfl
 | r :: l, m => by
  show R.refsL r ++ gT (l ++ m) = _;rw [vJ l m, ← append_assoc]; rfl
def aDw (x : Sup) (n : Nat) : List R := .c (.str x.name) :: .hs 998 0 n n :: (aE x.body).map R.c
def j3 (S : List Sup) (k : Nat) (x : Sup) (n : Nat) : List (List R) := rcs ((S.take k).map aY) ++ aDw x n :: rcs ((S.drop (k + 1)).map aY)
theorem qK {S : List Sup} {k : Nat} {x y : Sup} {n : Nat} (h : S[k]? = some y) : (j3 S k x n).length = S.length := by
 have hk : k < S.length := (List.getElem?_eq_some_iff.1 h).1
 simp [j3, rcs];omega
theorem aB9 {S : List Sup} {k : Nat} {x y : Sup} {n : Nat} (h : S[k]? = some y) : (j3 S k x n)[k]? = some (aDw x n) := by
 have hk : k < S.length := (List.getElem?_eq_some_iff.1 h).1
 have hl : (rcs ((S.take k).map aY)).length = k := by simp [rcs]; omega
 unfold j3;rw [List.getElem?_append_right (by omega), hl, sub_self]; rfl
theorem yX {S : List Sup} {k : Nat} {x y : Sup} {n m : Nat} (h : S[k]? = some y) : (j3 S k x n).set k (bU (aDw x n) 1 [.hs 998 0 m m]) = j3 S k x m := by
 have hk : k < S.length := (List.getElem?_eq_some_iff.1 h).1
 have hl : (rcs ((S.take k).map aY)).length = k := by simp [rcs]; omega
 unfold j3;rw [List.set_append_right _ _ (by omega), hl, sub_self, List.set_cons_zero];rfl
theorem nX {S : List Sup} {k : Nat} {x : Sup} {n : Nat} : gT (j3 S k x n) = [998] := by
 unfold j3;rw [vJ, pC, nil_append];show R.refsL (aDw x n) ++ gT (rcs ((S.drop (k + 1)).map aY)) = [998];rw [pC, append_nil];unfold aDw;have : ∀ r : List C, R.refsL (r.map R.c) = [] := fun r => by
  induction r with
  | nil => rfl
  | cons c r ih => simp [R.refsL, R.refs, ih]
 simp [R.refsL, R.refs, this]
theorem PureL.app {h : cH} : ∀ {i1 i2 : List Nat} {r1 r2 : List R} {c1 c2 : List C}, PureL h i1 r1 c1 → PureL h i2 r2 c2 → PureL h (i1 ++ i2) (r1 ++ r2) (c1 ++ c2) := by
 intro i1 i2 r1 r2 c1 c2 p q
 induction p with
 | nil => exact q
 | c e _ ih => exact .c e ih
 | hs a b c _ ih => exact .hs a b c ih
 | any _ ih => exact .any ih
 | fn _ ih => exact .fn ih
 | ras e p1 e2 e3 e4 _ _ ih => exact .ras (by rw [e, append_assoc]) p1 e2 e3 e4 ih
theorem yV {h : cH} {S : List Sup} {k m : Nat} {x y : Sup} (hx : S[k]? = some x) (hn : y.name = x.name) (hb : y.body = x.body) (h8 : h 998 = some (.arr 9 1 (y.params.map bF) 2)) (hm : m = y.params.length) : PureL h [998] (j3 S k x m).flatten ((S.set k y).map aY).flatten := by
 rw [yR y hx, map_append, map_cons, flatten_append, flatten_cons];unfold j3;rw [flatten_append, flatten_cons, lU, lU];refine PureL.app (i1 := []) PureL.of_pure (PureL.app (i1 := [998]) (i2 := []) ?_ PureL.of_pure);unfold aDw aY;rw [hn, hb];exact .c .refl (.hs h8 (by simp [hm]) (by rw [hm, drop_zero, take_of_length_le (by simp)]) PureL.of_pure)
theorem aEx (x : Sup) : (aY x).length = 12 := rfl
theorem rA {l : List Str} {i : Nat} {s : Str} (h : l[i]? = some s) : cN (l.take (i + 1)) = (cN (l.take i) && !decide (s ∈ l.take i)) := by
 rw [bG h];have e : cN (l.take i ++ [s]) = true ↔ (cN (l.take i) && !decide (s ∈ l.take i)) = true := by
  rw [jU, nodup_append, Bool.and_eq_true, jU];simp only [mem_singleton, forall_eq, Bool.not_eq_true', decide_eq_false_iff_not, nodup_cons, List.not_mem_nil, not_false_eq_true, nodup_nil, and_self, true_and];constructor
  ·rintro ⟨h1, h2⟩;exact ⟨h1, fun h => h2 s h rfl⟩
  ·rintro ⟨h1, h2⟩;exact ⟨h1, fun a ha e => h2 (e ▸ ha)⟩
 exact Bool.eq_iff_iff.2 e
theorem o8 {l : List Str} {i : Nat} {s : Str} (h : l[i]? = some s) (hm : s ∈ l.take i) : cN l = false := by
 cases hl : cN l with
 | false => rfl
 | true =>
  have h1 := (jU l).1 hl;have h2 := (List.take_append_drop i l) ▸ h1;rw [nodup_append] at h2;have hk : i < l.length := (List.getElem?_eq_some_iff.1 h).1
  have : s ∈ l.drop i := by
   rw [drop_eq_getElem_cons hk, (List.getElem?_eq_some_iff.1 h).2];exact mem_cons_self
  exact absurd rfl (h2.2.2 s hm s this)
theorem aA3 (l : List Sup) (hl : l.length ≤ 100000) (h : ∀ x ∈ l, aG x.body ≤ 400000 ∧ x.params.length ≤ 100000) : bN Tryd.prog 14 [qG l] [] (B (oM l)) [] := by
 refine cT (n := 76) tok Tryd.func14 rfl rfl rfl ?_;refine a8 (ag [] rfl ?_);refine a8 (ag [] rfl ?_);refine a8 (a8 (ag [] rfl ?_));refine AWp.sub (Sub.own (t := 3) (id := 500) 9 1 rfl rfl) (AWp.sub (Sub.freeze (id := 500) rfl) ?_);have hkl : (l.map aY).length = l.length := length_map _;rw [show oM l = (cN (l.map (·.name)) && l.all fun x => cN x.params && bK x.body (ext (fun s => decide (s ∈ l.map (·.name))) x.params)) from rfl];refine aB ?_;refine aL (fun i : Nat => mk [(0, qG l), (3, .one (.hs 500 0 i i)), (4, I .i64 i)] [(500, .arr 9 1 (((l.map (·.name)).take i).map bF) 2)]) (fun i => i ≤ l.length ∧ cN ((l.map (·.name)).take i) = true) (fun i => l.length - i) 0 ⟨zero_le _, rfl⟩ sl ?_;intro i ⟨hi, ho⟩;have hnl : ((l.map (·.name)).take i).length = i := by rw [length_take, length_map]; omega
 refine a8 (a8 (ag [] rfl ?_));refine aA rfl (fun hb => ?_) (fun hb => ?_)
 ·have hlt := ltD hb hkl;obtain ⟨x, hx⟩ := aI hlt;have hx' := c6 aY hx;have hxn : (l.map (·.name))[i]? = some x.name := by rw [List.getElem?_map, hx]; rfl
  have hst := rA hxn;have hh := nE ((l.map (·.name)).take i) x.name (by unfold Fits; omega);refine aD ?_;refine a8 (aB ?_);refine a8 (a8 (ag [(3, .row i (aY x)), (6, .pc (B (decide (x.name ∈ (l.map (·.name)).take i))))] rfl ?_));refine aA rfl (fun hb => ?_) (fun hb => ?_)
  ·have hm : x.name ∈ (l.map (·.name)).take i := of_decide_eq_true hb;rw [o8 hxn hm, Bool.false_and];refine a8 (ag [] rfl ?_);exact aF (rtT (hc := .refl))
  ·have hm : ¬ x.name ∈ (l.map (·.name)).take i := of_decide_eq_false hb;refine aD ?_;refine ag [(3, .row i (aY x)), (7, .fz)] rfl ?_;refine ag [] rfl ?_;have hrows : ((l.map (·.name)).take i).map bF ++ [bF x.name] = ((l.map (·.name)).take (i + 1)).map bF := by rw [bG hxn]; simp
   exact ⟨i + 1, ⟨hlt, by rw [hst, ho, decide_eq_false hm]; rfl⟩, by dsimp only; omega, sl⟩
 have hge := geD hb hkl hi;subst hge;rw [show (l.map (·.name)).take l.length = l.map (·.name) by rw [take_of_length_le]; simp] at ho ⊢;rw [ho, Bool.true_and];have hnl2 : (l.map (·.name)).length = l.length := length_map _;generalize l.map (·.name) = N at hnl2 ⊢;refine aM ?_;refine AWp.sub (cv 3 (N.map bF)) ?_;refine a8 (a8 (ag [] rfl ?_));refine aB ?_;refine aL (fun i : Nat => mk [(0, qG l), (3, b7 N), (5, I .i64 i)] []) (fun i => i ≤ l.length ∧ (l.take i).all (fun x => cN x.params && bK x.body (ext (fun s => decide (s ∈ N)) x.params)) = true) (fun i => l.length - i) 0 ⟨zero_le _, rfl⟩ sl ?_;intro i ⟨hi, hall⟩;refine a8 (a8 (ag [] rfl ?_));refine aA rfl (fun hb => ?_) (fun hb => ?_)
 ·have hlt := ltD hb hkl;obtain ⟨x, hx⟩ := aI hlt;have hx' := c6 aY hx;have hm := List.mem_of_getElem? hx;obtain ⟨hxs, hxp⟩ := h x hm;have hst := j2 (fun x : Sup => cN x.params && bK x.body (ext (fun s => decide (s ∈ N)) x.params)) hx;have hw := lJ N x.params (by omega);have hf := aEi _ x.body (le_refl _) (N ++ x.params) hxs (by rw [length_append]; omega);rw [aCx] at hf;have hkp : (x.params.map bF).length = x.params.length := length_map _;refine aD ?_;refine a8 (aB ?_);refine a8 (a8 (ag [] rfl ?_));refine aB ?_;refine aL (fun k : Nat => mk [(0, qG l), (3, b7 N), (5, I .i64 i), (6, I .i64 k)] []) (fun k => k ≤ x.params.length ∧ cN (x.params.take k) = true) (fun k => x.params.length - k) 0 ⟨zero_le _, rfl⟩ sl ?_;intro k ⟨hk, hok⟩;refine a8 (a8 (ag [(3, .row i (aY x))] rfl ?_));refine aA rfl (fun hb => ?_) (fun hb => ?_)
  ·have hlt2 := ltD hb hkp;obtain ⟨s, hs⟩ := aI hlt2;have hs' := c6 bF hs;have hst2 := rA hs;have hh := nE (x.params.take k) s (by unfold Fits; rw [length_take]; omega);have hh' : bN Tryd.prog 20 [.one (.c (.sl 1 ((x.params.map bF).take k))), Go.AM.T s] [] (B (decide (s ∈ x.params.take k))) [] := by rw [← map_take]; exact hh
   refine aD ?_;refine a8 (aB ?_);refine a8 (agN [(2, .row i (aY x)), (9, .row i (aY x)), (13, .row k (bF s)), (15, .pc (B (decide (s ∈ x.params.take k))))] rfl ?_);refine aA rfl (fun hb => ?_) (fun hb => ?_)
   ·have hm2 : s ∈ x.params.take k := of_decide_eq_true hb;rw [all_false (p := fun x : Sup => cN x.params && bK x.body (ext (fun s => decide (s ∈ N)) x.params)) hm (by rw [o8 hs hm2]; rfl)];refine a8 (ag [] rfl ?_);exact aF (rtT (hc := .refl))
   ·have hm2 : ¬ s ∈ x.params.take k := of_decide_eq_false hb;refine aD ?_;refine ag [] rfl ?_;exact ⟨k + 1, ⟨hlt2, by rw [hst2, hok, decide_eq_false hm2]; rfl⟩, by dsimp only; omega, sl⟩
  ·have hge2 := geD hb hkp hk;subst hge2;rw [take_length] at hok;refine aM ?_;refine a8 (ag [(2, .row i (aY x)), (8, .row i (aY x)), (11, .pc (b7 (N ++ x.params))), (12, .pc (B (bK x.body (ext (fun s => decide (s ∈ N)) x.params))))] rfl ?_);refine a8 (ag [] rfl ?_);refine aA rfl (fun hb => ?_) (fun hb => ?_)
   ·have hp : bK x.body (ext (fun s => decide (s ∈ N)) x.params) = false := by simpa using hb
    rw [all_false (p := fun x : Sup => cN x.params && bK x.body (ext (fun s => decide (s ∈ N)) x.params)) hm (by rw [hp, Bool.and_false])];refine a8 (ag [] rfl ?_);exact aF (rtT (hc := .refl))
   ·have hp : bK x.body (ext (fun s => decide (s ∈ N)) x.params) = true := by simpa using hb
    refine aD ?_;refine ag [] rfl ?_;exact ⟨i + 1, ⟨hlt, by rw [hst, hall, hok, hp]; rfl⟩, by dsimp only; omega, sl⟩
 have hge := geD hb hkl hi;subst hge;rw [take_length] at hall;rw [hall];refine aM ?_;refine a8 (ag [] rfl ?_);exact aF (rtT (hc := .refl))
end Go.Proofs.YtlegeikmepnmcaaDoor
