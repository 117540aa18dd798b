/-
  Texts Lg3 to Ly2 in one.
-/
import Derived.Test.YtmoekkcdkjopgaaGreatDoorM7
open List (all_append all_eq_true append_assoc append_nil cons_append drop_eq_getElem_cons drop_length drop_zero filter_cons flatMap_cons flatten_cons foldl_append length_append length_cons length_drop length_map length_nil length_take map_append map_congr_left map_cons map_map map_nil mem_append mem_cons mem_filter mem_flatMap mem_map mem_of_mem_take mem_singleton nil_append nodup_append nodup_cons nodup_nil set_cons_succ take_add_one take_length take_succ_cons take_zero)
open Nat (add_assoc add_zero beq_refl le_add_left le_refl le_trans min_eq_left mul_le_mul_right sub_self succ_mul zero_add zero_le)
namespace Go.Proofs.YtmoekkcdkjopgaaGreatDoor
open Go Go.AM
set_option maxRecDepth 20000
mutual
def allT (p : Ty → Prop) : Core → Prop
 | .mk _ _ _ t ks bs al => p t ∧ zX p ks ∧ wQ p bs ∧ wR p al
def zX (p : Ty → Prop) : List Core → Prop
 | [] => True
 | c :: l => allT p c ∧ zX p l
def wQ (p : Ty → Prop) : List Bind → Prop
 | [] => True
 | .mk _ t c :: l => p t ∧ allT p c ∧ wQ p l
def wR (p : Ty → Prop) : List Alt → Prop
 | [] => True
 | .mk _ _ _ _ c :: l => allT p c ∧ wR p l
end
theorem zW {p : Ty → Prop} : ∀ {l : List Core}, zX p l → ∀ x ∈ l, allT p x
 | c :: l, h, x, hx => by
  rw [zX] at h;rcases mem_cons.1 hx with rfl | hx
  ·exact h.1
  ·exact zW h.2 x hx
theorem rL {p : Ty → Prop} : ∀ {l : List Bind}, wQ p l → ∀ x ∈ l, p x.ty ∧ allT p x.body
 | .mk _ _ _ :: l, h, x, hx => by
  rw [wQ] at h;rcases mem_cons.1 hx with rfl | hx
  ·exact ⟨h.1, h.2.1⟩
  ·exact rL h.2.2 x hx
theorem zY {p : Ty → Prop} : ∀ {l : List Alt}, wR p l → ∀ x ∈ l, allT p x.body
 | .mk _ _ _ _ _ :: l, h, x, hx => by
  rw [wR] at h;rcases mem_cons.1 hx with rfl | hx
  ·exact h.1
  ·exact zY h.2 x hx
theorem qH {α : Type} : ∀ {l : List α} {j : Nat} {x : α}, l[j]? = some x → l.set j x = l
 | [], _, _, h => by simp at h
 | y :: l, 0, x, h => by simp at h; subst h; rfl
 | y :: l, j + 1, x, h => by
  rw [set_cons_succ, qH (by simpa using h)]
def rP (al : List Alt) (i : Nat) : List (List R) := aT 0 (al.take i) ++ (al.drop i).map fun a => (cV a).map R.c
theorem oU : ∀ {l : List Alt} {k i : Nat} {a : Alt}, l[i]? = some a → aT k (l.take (i + 1)) = aT k (l.take i) ++ [cW (k + i) a]
 | b :: l, k, 0, a, h => by simp at h; subst h; simp [aT]
 | b :: l, k, i + 1, a, h => by
  simp only [take_succ_cons, aT, cons_append];rw [oU (l := l) (k := k + 1) (by simpa using h), show k + 1 + i = k + (i + 1) by omega]
theorem wA : ∀ {l : List Alt} {k i : Nat} {a : Alt}, l[i]? = some a → fam k (l.take (i + 1)) = fam k (l.take i) ++ [(k + i + 800, .arr 9 1 (a.vars.map bG) 0)]
 | b :: l, k, 0, a, h => by simp at h; subst h; simp [fam]
 | b :: l, k, i + 1, a, h => by
  simp only [take_succ_cons, fam, cons_append];rw [wA (l := l) (k := k + 1) (by simpa using h), show k + 1 + i = k + (i + 1) by omega]
theorem aN0 {al : List Alt} {i : Nat} : (rP al i).length = al.length := by unfold rP; rw [length_append, dJ, length_map, length_take, length_drop]; omega
theorem aS4 {al : List Alt} {i : Nat} {a : Alt} (h : al[i]? = some a) : (rP al i)[i]? = some ((cV a).map R.c) := by
 have hlt : i < al.length := (zq6.1 h).1
 unfold rP;rw [List.getElem?_append_right (by rw [dJ, length_take]; omega), dJ, length_take, min_eq_left (by omega), sub_self, List.getElem?_map, List.getElem?_drop, add_zero, h]; rfl
theorem qG {α : Type} {l m : List α} {x y : α} {i : Nat} (h : l.length = i) : (l ++ x :: m).set i y = l ++ y :: m := by
 subst h;rw [List.set_append_right _ _ (le_refl _), sub_self]; rfl
theorem oB {α : Type} {l : List α} {i : Nat} {a : α} (h : l[i]? = some a) : l.drop i = a :: l.drop (i + 1) := by
 have hlt : i < l.length := (zq6.1 h).1
 rw [drop_eq_getElem_cons hlt];congr 1;exact (zq6.1 h).2
theorem aNz {al : List Alt} {i : Nat} {a : Alt} (h : al[i]? = some a) (r : List R) : (rP al i).set i r = aT 0 (al.take i) ++ r :: (al.drop (i + 1)).map fun a => (cV a).map R.c := by
 have hlt : i < al.length := (zq6.1 h).1
 unfold rP;rw [oB h, map_cons];exact qG (by rw [dJ, length_take]; omega)
theorem aJo {al : List Alt} {i : Nat} {a : Alt} (h : al[i]? = some a) : rP al (i + 1) = aT 0 (al.take i) ++ cW i a :: (al.drop (i + 1)).map fun a => (cV a).map R.c := by
 unfold rP;rw [oU h, append_assoc, zero_add]; rfl
theorem aJp {al : List Alt} {i : Nat} : ∀ x ∈ bX (rP al i), x ∈ keys (fam 0 (al.take i)) := fun x hx => by
 unfold rP at hx;rw [iW] at hx;rcases mem_append.1 hx with hx | hx
 ·exact cM x hx
 ·have key : ∀ l : List Alt, bX (l.map fun a => (cV a).map R.c) = [] := by
   intro l
   induction l with
   | nil => rfl
   | cons a l ih =>
    show R.refsL _ ++ bX _ = [];rw [ih, append_nil];unfold cV aA;simp [R.refsL, R.refs]
  rw [key] at hx; cases hx
def sgm (k : Nat) (j : Nat) : Nat := bif Nat.blt j 800 then j else bif Nat.beq j (k + 800) then 710 else j
theorem aAv {k j : Nat} (h : 800 ≤ j) (hk : j ≠ k + 800) : sgm k j = j := by
 unfold sgm;rw [zH h];have : Nat.beq j (k + 800) = false := by
  cases hb : Nat.beq j (k + 800) with
  | false => rfl
  | true => exact absurd (zq4 hb) hk
 rw [this]; rfl
theorem aAu {k : Nat} : sgm k (k + 800) = 710 := by
 unfold sgm;rw [zH (le_add_left _ _)]; simp
theorem aIi {σ : Nat → Nat} : ∀ l : List C, R.renL σ (l.map R.c) = l.map R.c
 | [] => rfl
 | x :: l => by simp only [map_cons, R.renL, R.ren, aIi l]
theorem aDr {σ : Nat → Nat} : ∀ (a b : List (List R)), lQ σ (a ++ b) = lQ σ a ++ lQ σ b
 | [], _ => rfl
 | r :: a, b => by simp only [cons_append, lQ, aDr a b]
theorem jG {σ : Nat → Nat} {k : Nat} {a : Alt} : R.renL σ (cW k a) = [.c (.int .i64 a.form), .c (.int .i64 a.n), .c (.str a.name), .hs (σ (k + 800)) 0 a.vars.length a.vars.length] ++ (aA a.body).map R.c := by
 unfold cW;simp only [cons_append, nil_append, R.renL, R.ren, aIi]
theorem qK {i : Nat} : ∀ {l : List Alt} {k : Nat}, k + l.length ≤ i → lQ (sgm i) (aT k l) = aT k l
 | [], _, _ => rfl
 | a :: l, k, h => by
  simp only [length_cons] at h;simp only [aT, lQ];rw [jG, aAv (le_add_left _ _) (by omega), qK (l := l) (k := k + 1) (by omega)]; rfl
theorem sB {σ : Nat → Nat} : ∀ l : List Alt, lQ σ (l.map fun a => (cV a).map R.c) = l.map fun a => (cV a).map R.c
 | [] => rfl
 | a :: l => by simp only [map_cons, lQ, aIi, sB l]
def a05 (a : Alt) : List R := [.c (.int .i64 a.form), .c (.int .i64 a.n), .c (.str a.name), .hs 710 0 a.vars.length a.vars.length] ++ (aA a.body).map R.c
theorem aSh {al : List Alt} {i : Nat} {a : Alt} (h : al[i]? = some a) : (rP al i).set i (a05 a) = lQ (sgm i) (rP al (i + 1)) := by
 rw [aNz h, aJo h, aDr];have hlt : i < al.length := (zq6.1 h).1
 rw [qK (by rw [length_take]; omega)];simp only [lQ];rw [jG, aAu, sB];rfl
def TyG (t : Ty) : Prop := aY Tryz.prog 116 [tyV t] [] (tyV t) []
def oHl (ks : List Core) (bs : List Bind) (al : List Alt) : List (Nat × AObj) := [(701, .arr 73 15 (aO bs) 0), (702, .arr 37 10 (aQ ks) 0), (703, .rarr 78 14 (aT 0 al))]
def OwG (c : Core) : Prop := aY Tryz.prog 59 [.pa (aA c)] [] (.ma (dL c.form c.n c.name c.ty c.kids.length c.binds.length c.alts.length)) (oHl c.kids c.binds c.alts ++ fam 0 c.alts)
def OwP (c : Core) : Prop := aY Tryz.prog 59 [.pa (aA c)] [] (.pa (aA c)) []
theorem wL (al : List Alt) (h : al.length ≤ 600000000000) : aY Tryz.prog 122 [.one (.c (.sl 14 (bK al)))] [] (.one (.ra 703 0 al.length al.length)) [(703, .rarr 78 14 (rP al 0))] := by
 have hkA : (bK al).length = al.length := by rw [bE, length_map]
 have h1 := (oS (bK al) (by omega)).toR;rw [hkA] at h1;have e : (bK al).map (·.map R.c) = rP al 0 := by
  unfold rP;rw [bE, map_map]; rfl
 rwa [e] at h1
theorem aN1 {al : List Alt} : rP al al.length = aT 0 al := by
 unfold rP;rw [take_length, drop_length]; simp
theorem aIy {st1 : St} {al : List Alt} {i : Nat} {a : Alt} (hai : al[i]? = some a) (hf : FarEq st1.h (fam 0 (al.take i))) (h7 : st1.h 710 = some (.arr 9 1 (a.vars.map bG) 0)) :
  ∀ p ∈ fam 0 (al.take (i + 1)), ∃ o, st1.h (sgm i p.1) = some o ∧ Ole (sgm i) o p.2 := fun p hp => by
 rw [wA hai, zero_add] at hp;rcases mem_append.1 hp with hp | hp
 ·obtain ⟨j, b, hj, rfl⟩ := mL hp;have hlt : j < (al.take i).length := (zq6.1 hj).1
  rw [length_take] at hlt;refine ⟨_, ?_, .arr⟩;rw [aAv (le_add_left _ _) (by show 0 + j + 800 ≠ i + 800; omega)];exact hf _ hp
 ·rw [mem_singleton.1 hp];exact ⟨_, by rw [aAu]; exact h7, .arr⟩
theorem aF3 {al : List Alt} {i : Nat} {a : Alt} {hl : List (Nat × AObj)} (hai : al[i]? = some a) (h1 : Go.AM.distinct (710 :: hl.map (·.1)) = true) (h2 : (hl.all fun p => Nat.blt p.1 800) = true) : ((hl ++ fam 0 (al.take (i + 1))).map fun p => sgm i p.1).Nodup := by
 have hlt : i < al.length := (zq6.1 hai).1
 have e1 : (hl.map fun p => sgm i p.1) = hl.map (·.1) := by
  refine map_congr_left fun p hp => ?_
  have := (all_eq_true.1 h2) p hp;unfold sgm;rw [this]; rfl
 have e2 : ((fam 0 (al.take i)).map fun p => sgm i p.1) = (fam 0 (al.take i)).map (·.1) := by
  refine map_congr_left fun p hp => ?_
  obtain ⟨j, b, hj, rfl⟩ := mL hp;have hl2 : j < (al.take i).length := (zq6.1 hj).1
  rw [length_take] at hl2;exact aAv (le_add_left _ _) (by show 0 + j + 800 ≠ i + 800; omega)
 rw [map_append, wA hai, zero_add, map_append, e1, e2];have hd := cY h1;simp only [nodup_cons] at hd;have hnear : ∀ x ∈ hl.map (·.1), x < 800 := fun x hx => by
  obtain ⟨p, hp, rfl⟩ := mem_map.1 hx;exact zq5 ((all_eq_true.1 h2) p hp)
 have hfar : ∀ x ∈ (fam 0 (al.take i)).map (·.1), 800 ≤ x := fun x hx => by
  obtain ⟨p, hp, rfl⟩ := mem_map.1 hx;exact eX.far p hp
 show (hl.map (·.1) ++ ((fam 0 (al.take i)).map (·.1) ++ [sgm i (i + 800)])).Nodup;rw [aAu, nodup_append, nodup_append];refine ⟨hd.2, ⟨kQ, by simp, fun x hx y hy e => ?_⟩, fun x hx y hy e => ?_⟩
 ·have := hfar x hx;have : y = 710 := by simpa using hy
  omega
 ·subst e;rcases mem_append.1 hy with hy | hy
  ·have := hnear x hx;have := hfar x hy;omega
  ·have : x = 710 := by simpa using hy
   subst this;exact hd.1 hx
theorem aTc {b : Bool} {nk nb na : Nat} {l : List Alt} : (bY b nk nb na l)[0]? = some (o8 b nk nb) := rfl
theorem aTb {b : Bool} {nk nb na : Nat} {l : List Alt} {i : Nat} {a : Alt} (h : l[i]? = some a) : (bY b nk nb na l)[i + 1]? = some (l3 na i a) := by
 unfold bY;rw [List.getElem?_cons_succ, aL1 h, zero_add]
theorem aBi {b : Bool} {nk nb na : Nat} {l : List Alt} : ∀ r ∈ bY b nk nb na l, r.length = 2 := by
 have key : ∀ (l : List Alt) (k : Nat), ∀ r ∈ aFf na k l, r.length = 2 := by
  intro l
  induction l with
  | nil => intro k r hr; simp [aFf] at hr
  | cons a l ih =>
   intro k r hr;rcases mem_cons.1 hr with rfl | hr
   ·rfl
   ·exact ih _ r hr
 intro r hr;rcases mem_cons.1 hr with rfl | hr
 ·rfl
 ·exact key l 0 r hr
theorem aTa {b : Bool} {nk nb na : Nat} {l : List Alt} : (bY b nk nb na l).length = 1 + l.length := by unfold bY; rw [length_cons, wP]; omega
theorem qJ {f : Nat → List R} {k : Nat} (h : ∀ j, (f j).length = 1) : ∀ r ∈ rgR f k, r.length = 1 := fun r hr => by
 obtain ⟨j, _, rfl⟩ := mem_map.1 hr;exact h j
theorem sK {nk nb i : Nat} : ∀ r ∈ pR nk nb i, r.length = 1 := fun r hr => by
 unfold pR at hr;rcases mem_append.1 hr with hr | hr
 ·exact qJ (fun _ => rfl) r hr
 ·exact qJ (fun _ => rfl) r hr
theorem aDo {f : Nat → List R} {k j : Nat} (h : j < k) : (rgR f k)[j]? = some (f j) := by unfold rgR; rw [List.getElem?_map, List.getElem?_range h]; rfl
theorem aI8 {nk nb i j : Nat} (h : j < nk) : (pR nk nb i)[j]? = some [.ep 702 j 0 nk] := by unfold pR; rw [List.getElem?_append_left (by rw [fN]; exact h), aDo h]
theorem aI7 {nk nb i j : Nat} (h : j < i) : (pR nk nb i)[nk + j]? = some [.ep 701 j 5 nb] := by unfold pR; rw [List.getElem?_append_right (by rw [fN]; omega), fN, Nat.add_sub_cancel_left, aDo h]
theorem aI6 {nk nb i : Nat} : (pR nk nb i).length = nk + i := by unfold pR; rw [length_append, fN, fN]
theorem tK (c : Core) (ih : ∀ x, aR x < aR c → allT TyG x → OwP x) (hT : allT TyG c) (hsz : aR c ≤ 570000000000) : OwG c := by
 obtain ⟨f, n, s, t, ks, bs, al⟩ := c;obtain ⟨ihk, ihb, iha, hkl, hbl, hal⟩ := @gY f n s t ks bs al;rw [allT] at hT;obtain ⟨hty, hTk, hTb, hTa⟩ := hT;have hty : aY Tryz.prog 116 [tyV t] [] (tyV t) [] := hty;have hkK : (aQ ks).length = ks.length := by rw [bB, length_map]
 have hkB : (aO bs).length = bs.length := by rw [bD, length_map]
 have k2 : ks.length = (aQ ks).length := hkK.symm;have kb2 : bs.length = (aO bs).length := hkB.symm;have hck := jS (aQ ks) (by omega);have hcb := nP (aO bs) (by omega);have hca := wL al (by omega);rw [hkK] at hck;rw [hkB] at hcb;show aY Tryz.prog 59 [.pa (aA (.mk f n s t ks bs al))] [] (.ma (dL f n s t ks.length bs.length al.length)) (oHl ks bs al ++ fam 0 al);refine c8 (n := 85) tok Tryz.func59 rfl rfl rfl ?_;refine a8 (ag [(0, .id 700)] rfl ?_);refine a8 (ag [(2, .pc (tyV t))] rfl ?_);refine a8 (aF mixed ?_);refine ak 2 [] rfl ?_;refine kc hck ?_;refine ak 2 [] rfl ?_;refine kc hcb ?_;refine ak 2 [] rfl ?_;refine kc hca ?_;refine ak 6 [] rfl ?_;refine az ?_;refine a8 (a8 (ag [] rfl ?_));have hbl' : bs.length ≤ 570000000000 := by omega
 have hml : ∀ i, al.length = (rP al i).length := fun i => aN0.symm
 have hml0 := hml 0;refine aC ?_;have W0 : ∀ i, GW [] (fam 0 (al.take i)) := fun i => ⟨eX, fun x hx => (by cases hx), rfl, rfl⟩
 have hmix : ∀ i, GF [] (fam 0 (al.take i)) (AObj.rarr 78 14 (rP al i)).refs := fun i x hx => .inr (aJp x hx)
 have hmix0 := hmix 0;have hF0 : TF (fam 0 (al.take 0)) := eX;refine aJ (fun i : Nat => mkt [(1, .one (.vp 700 0)), (2, .one (.vp 2 0)), (27, I .i64 ((bs.length : Nat) : Int)), (28, I .i64 i)] ([(2, .var 37 bH), (700, .var 37 (dL f n s t ks.length bs.length al.length)), (701, .arr 73 15 (aO bs) 0), (702, .arr 37 10 (aQ ks) 0), (703, .rarr 78 14 (rP al 0))] ++ []) (fam 0 (al.take 0))) (fun i => i ≤ bs.length) (fun i => bs.length - i) 0 (zero_le _) (slG (W0 0) (fun _ h => by cases h) (fun p hp => by cases hp)) ?_
 ·intro i hi;refine a8 (ag [] rfl ?_);refine a8 (aB rfl (fun hb => ?_) (fun hb => ?_))
  ·have hlt : i < bs.length := by
    have : (i : Int) < (bs.length : Int) := zq0 hb;omega
   obtain ⟨b, hbi⟩ := aL hlt;have hbi' := cB hbi;have hbt : aY Tryz.prog 116 [tyV b.ty] [] (tyV b.ty) [] := (rL hTb b (zq7 hbi)).1
   have hsame := qH hbi';refine aD ?_;refine a8 (aC (a8 (ag [] rfl ?_)));refine ag [(8, .row i (bA b)), (9, .pc (tyV b.ty)), (12, .row i (bA b))] rfl ?_;refine ag [] rfl ?_;refine ⟨i + 1, hlt, by dsimp only; omega, slG (W0 0) (fun _ h => by cases h) (hh := ⟨⟨_, rfl, .var rfl⟩, ⟨_, rfl, .varS rfl⟩, ⟨_, rfl, .arrS hsame⟩, ⟨_, rfl, .arr⟩, ⟨_, rfl, .rarrS rfl⟩, trivial⟩)⟩
  refine aK ?_;refine a8 (a8 (ag [] rfl ?_));refine aC ?_;refine aJ (fun i : Nat => mkt [(1, .one (.vp 700 0)), (2, .one (.vp 2 0)), (46, I .i64 ((al.length : Nat) : Int)), (47, I .i64 i)] ([(2, .var 37 bH), (700, .var 37 (dL f n s t ks.length bs.length al.length)), (701, .arr 73 15 (aO bs) 0), (702, .arr 37 10 (aQ ks) 0), (703, .rarr 78 14 (rP al i))] ++ []) (fam 0 (al.take i))) (fun i => i ≤ al.length) (fun i => al.length - i) 0 (zero_le _) (slG (W0 0) (fun _ h => by cases h)) ?_;intro i hi;have hml := hml i;have hmi := hmix i;have hFi : TF (fam 0 (al.take i)) := eX;refine a8 (ag [] rfl ?_);refine a8 (aB rfl (fun hb => ?_) (fun hb => ?_))
  ·have hlt : i < al.length := by
    have : (i : Int) < (al.length : Int) := zq0 hb;omega
   obtain ⟨a, hai⟩ := aL hlt;have hrow := aS4 hai;have hav := eM (zq7 hai);have hvl := lZ a;have hvk : (a.vars.map bG).length = a.vars.length := length_map _;have hcl := gG (a.vars.map bG) (by rw [aR] at hsz; omega);rw [hvk] at hcl;have hmx := hmix (i + 1);refine aD ?_;refine a8 (aC (a8 (ag [] rfl ?_)));refine aF mixed ?_;refine ak 9 [(8, .rr ((cV a).map R.c))] rfl ?_;refine kc hcl ?_;refine ak 3 [(12, .rr ((cV a).map R.c))] rfl ?_;refine az ?_;refine ag [] rfl ?_;refine ⟨i + 1, hlt, by dsimp only; omega, ?_⟩;dsimp only;refine Sub.tailT (hl := [(2, .var 37 bH), (700, .var 37 (dL f n s t ks.length bs.length al.length)), (701, .arr 73 15 (aO bs) 0), (702, .arr 37 10 (aQ ks) 0), (703, .rarr 78 14 (rP al (i + 1)))] ++ []) (sgm i) eX ?_ ?_ ?_ ?_ ?_ ?_ ?_ ?_
   ·exact ⟨rfl, rfl, rfl, rfl, trivial⟩
   ·exact ⟨⟨_, rfl, .var rfl⟩, ⟨_, rfl, .var rfl⟩, ⟨_, rfl, .arr⟩, ⟨_, rfl, .arr⟩, ⟨_, rfl, .rarr (aSh hai)⟩, trivial⟩
   ·exact aIy hai (by repeat (first | exact FarEq.raw hFi | (refine FarEq.updL hFi ?_) | (refine FarEq.upd hFi ?_))) rfl
   ·rfl
   ·exact fun x hx => .inl (bM (show subset _ _ = true from rfl) x hx)
   ·exact (W0 (i + 1)).all ⟨Kn.of rfl, Kn.of rfl, Kn.of rfl, Kn.of rfl, Kn.gf hmx, trivial⟩
   ·exact aF3 hai rfl rfl
   ·exact fun _ h => by cases h
  refine aK ?_;have hge : i = al.length := by
   have : ¬ (i : Int) < (al.length : Int) := zq1 hb;omega
  subst hge;have hF : TF (fam 0 al) := eX;have W : GW (gHl f n s t ks bs al) (fam 0 al) := gW
  have hgr := rD (decide (f = 5)) f n s t ks bs al rfl (by omega) (by omega) (by omega) (fun a ha => by
   have hav := eM ha;have hvl := lZ a
   rw [aR] at hsz; omega)
  have hrows := mI (f := f) (n := n) (s := s) (t := t) (ks := ks) (bs := bs) (al := al) (decide (f = 5)) al.length;rw [take_length] at hrows ⊢;rw [aN1];have hgl : (bY (decide (f = 5)) ks.length bs.length al.length al).length = 1 + al.length := aTa;have hra : gfo f n s t ks bs al (R.refsL (bY (decide (f = 5)) ks.length bs.length al.length al).flatten) := by rw [cP]; exact hrows
  have hg0 : (bY (decide (f = 5)) ks.length bs.length al.length al)[0]? = some (o8 (decide (f = 5)) ks.length bs.length) := aTc;have hgA : ∀ i a, al[i]? = some a → (bY (decide (f = 5)) ks.length bs.length al.length al)[i + 1]? = some (l3 al.length i a) := fun i a h => aTb h
  have htk : ∀ k r, (bY (decide (f = 5)) ks.length bs.length al.length al)[k]? = some r → ((bY (decide (f = 5)) ks.length bs.length al.length al).flatten.drop (k * 2)).take 2 = r := dU aBi;generalize bY (decide (f = 5)) ks.length bs.length al.length al = G at hgr hgl hra hg0 hgA htk;generalize decide (f = 5) = b at hg0;have hal' : al.length = (aT 0 al).length := dJ.symm;refine a8 (a8 (aF mixed ?_));refine kc hgr ?_ (hin' := dP.app ⟨rfl, rfl, rfl, rfl, trivial⟩ (FarEq.raw hF).all) (hout' := dP.of fun p hp => .inl (mem_map.2 ⟨p, hp, rfl⟩)) (hok := mM hF (fun x hx => .inl (bM (show subset _ _ = true from rfl) x hx)) pS);refine ak 2 [] rfl ?_;refine az ?_;refine AWp.sub (Sub.outsT hF) ?_;refine aC ?_;have hel : ∀ x ∈ R.refsL G.flatten, Kn [(2, .var 37 bH)] (gHl f n s t ks bs al) (fam 0 al) x := Kn.gf hra;refine aJ (fun g : Nat => mkt [(1, .one (.vp 700 0)), (2, .one (.vp 2 0)), (63, .one (.ras G.length 2 G.flatten)), (64, I .i64 ((G.length : Nat) : Int)), (65, I .i64 g)] ([(2, .var 37 bH)] ++ gHl f n s t ks bs al) (fam 0 al)) (fun g => g ≤ G.length) (fun g => G.length - g) 0 (zero_le _) (slG W (fun _ h => by cases h) (FarEq.bif hF (FarEq.outs hF)) (h1 := Kn.app (Kn.of rfl) (Kn.app (Kn.of rfl) (Kn.app hel Kn.nil)))) ?_;intro g hg;refine a8 (ag [] rfl ?_);refine a8 (aB rfl (fun hb => ?_) (fun hb => ?_))
  ·have hlt : g < G.length := by
    have : (g : Int) < (G.length : Int) := zq0 hb;omega
   refine aD ?_;cases g with
   | zero =>
    have ht0 := htk 0 _ hg0;have hpl : (pR ks.length bs.length bs.length).length = ks.length + bs.length := aI6;have hpr : gfo f n s t ks bs al (R.refsL (pR ks.length bs.length bs.length).flatten) := by rw [cP]; exact aMn _ _ _
    have hpt : ∀ k r, (pR ks.length bs.length bs.length)[k]? = some r → ((pR ks.length bs.length bs.length).flatten.drop (k * 1)).take 1 = r := dU sK;have hp1 : ∀ j, j < ks.length → (pR ks.length bs.length bs.length)[j]? = some [.ep 702 j 0 ks.length] := fun j h => aI8 h
    have hp2 : ∀ j, j < bs.length → (pR ks.length bs.length bs.length)[ks.length + j]? = some [.ep 701 j 5 bs.length] := fun j h => aI7 h
    refine a8 (aC (a8 (ag [(0, .rowR 0 (o8 b ks.length bs.length))] rfl ?_)));refine a8 (ag [] rfl ?_);refine aC ?_;refine aJ (fun j : Nat => mkt [(1, .one (.vp 700 0)), (2, .one (.vp 2 0)), (63, .one (.ras G.length 2 G.flatten)), (64, I .i64 ((G.length : Nat) : Int)), (65, I .i64 (0 : Nat)), (70, .one (.ras (pR ks.length bs.length bs.length).length 1 (pR ks.length bs.length bs.length).flatten)), (71, I .i64 (((pR ks.length bs.length bs.length).length : Nat) : Int)), (72, I .i64 j)] ([(2, .var 37 bH)] ++ gHl f n s t ks bs al) (fam 0 al)) (fun j => j ≤ (pR ks.length bs.length bs.length).length) (fun j => (pR ks.length bs.length bs.length).length - j) 0 (zero_le _) (slG W (fun _ h => by cases h) (h1 := Kn.app (Kn.of rfl) (Kn.app (Kn.of rfl) (Kn.app hel (Kn.app Kn.nil (Kn.app Kn.nil (Kn.app (Kn.gf hpr) Kn.nil))))))) ?_;intro j hj;refine a8 (ag [] rfl ?_);refine a8 (aB rfl (fun hb => ?_) (fun hb => ?_))
    ·have hlt2 : j < (pR ks.length bs.length bs.length).length := by
      have : (j : Int) < ((pR ks.length bs.length bs.length).length : Int) := zq0 hb;omega
     refine aD ?_;by_cases hjk : j < ks.length
     ·obtain ⟨k, hki⟩ := aL hjk;have hki' := dS hki;have hm := zq7 hki;have hc : aY Tryz.prog 59 [.pa (aA k)] [] (.pa (aA k)) [] := ih k (ihk k hm) (zW hTk k hm);have hsame := qH hki';have ht1 := hpt j _ (hp1 j hjk);refine a8 (aC (a8 (ag [(0, .rowR j [.ep 702 j 0 ks.length])] rfl ?_)));refine aF mixed ?_;refine ak 4 [(3, .row j (aA k))] rfl ?_;refine kc hc ?_;refine ak 2 [(6, .row j (aA k))] rfl ?_;refine az ?_;refine ag [] rfl ?_;exact ⟨j + 1, hlt2, by dsimp only; omega, slG W (fun _ h => by cases h) (h1 := Kn.app (Kn.of rfl) (Kn.app (Kn.of rfl) (Kn.app hel (Kn.app Kn.nil (Kn.app Kn.nil (Kn.app (Kn.gf hpr) Kn.nil)))))) (hh := ⟨⟨_, rfl, .var rfl⟩, ⟨_, rfl, .var rfl⟩, ⟨_, rfl, .arr⟩, ⟨_, rfl, .arrS hsame⟩, ⟨_, rfl, .rarrS rfl⟩, trivial⟩)⟩
     ·obtain ⟨j', rfl⟩ : ∃ j', j = ks.length + j' := ⟨j - ks.length, by omega⟩
      have hjb : j' < bs.length := by omega
      obtain ⟨x, hbi⟩ := aL hjb;have hbi' := cB hbi;have hm := zq7 hbi;have hc : aY Tryz.prog 59 [.pa (aA x.body)] [] (.pa (aA x.body)) [] := ih x.body (ihb x hm) (rL hTb x hm).2;have hsame := qH hbi';have ht1 := hpt (ks.length + j') _ (hp2 j' hjb);refine a8 (aC (a8 (ag [(0, .rowR (ks.length + j') [.ep 701 j' 5 bs.length])] rfl ?_)));refine aF mixed ?_;refine ak 4 [(3, .row j' (bA x))] rfl ?_;refine kc hc ?_;refine ak 2 [(6, .row j' (bA x))] rfl ?_;refine az ?_;refine ag [] rfl ?_;exact ⟨ks.length + j' + 1, hlt2, by dsimp only; omega, slG W (fun _ h => by cases h) (h1 := Kn.app (Kn.of rfl) (Kn.app (Kn.of rfl) (Kn.app hel (Kn.app Kn.nil (Kn.app Kn.nil (Kn.app (Kn.gf hpr) Kn.nil)))))) (hh := ⟨⟨_, rfl, .var rfl⟩, ⟨_, rfl, .var rfl⟩, ⟨_, rfl, .arrS hsame⟩, ⟨_, rfl, .arr⟩, ⟨_, rfl, .rarrS rfl⟩, trivial⟩)⟩
    refine aK ?_;refine ag [] rfl ?_;exact ⟨1, by omega, by dsimp only; omega, slG W (fun _ h => by cases h) (h1 := Kn.app (Kn.of rfl) (Kn.app (Kn.of rfl) (Kn.app hel Kn.nil)))⟩
   | succ i =>
    have hia : i < al.length := by omega
    obtain ⟨a, hai⟩ := aL hia;have ht0 := htk (i + 1) _ (hgA i a hai);have hrow : (aT 0 al)[i]? = some (cW i a) := by rw [lM hai, zero_add]
    have hm := zq7 hai;have hc : aY Tryz.prog 59 [.pa (aA a.body)] [] (.pa (aA a.body)) [] := ih a.body (iha a hm) (zY hTa a hm);have hsame := qH hrow;refine a8 (aC (a8 (ag [(0, .rowR (i + 1) (l3 al.length i a))] rfl ?_)));refine a8 (ag [] rfl ?_);refine aC ?_;refine aJ (fun j : Nat => mkt [(1, .one (.vp 700 0)), (2, .one (.vp 2 0)), (63, .one (.ras G.length 2 G.flatten)), (64, I .i64 ((G.length : Nat) : Int)), (65, I .i64 ((i + 1 : Nat) : Int)), (70, .one (.ras 1 1 [.rp 703 i 4 al.length])), (71, I .i64 ((1 : Nat) : Int)), (72, I .i64 j)] ([(2, .var 37 bH)] ++ gHl f n s t ks bs al) (fam 0 al)) (fun j => j ≤ 1) (fun j => 1 - j) 0 (zero_le _) (slG W (fun _ h => by cases h) (h1 := Kn.app (Kn.of rfl) (Kn.app (Kn.of rfl) (Kn.app hel (Kn.of rfl))))) ?_;intro j hj;refine a8 (ag [] rfl ?_);refine a8 (aB rfl (fun hb => ?_) (fun hb => ?_))
    ·have hj0 : j = 0 := by
      have : (j : Int) < ((1 : Nat) : Int) := zq0 hb;omega
     subst hj0;refine aD ?_;refine a8 (aC (a8 (ag [] rfl ?_)));refine aF mixed ?_;refine ak 4 [(3, .rr (cW i a))] rfl ?_;refine kc hc ?_;refine ak 2 [(6, .rr (cW i a))] rfl ?_;refine az ?_;refine ag [] rfl ?_;exact ⟨1, le_refl _, by dsimp only; omega, slG W (fun _ h => by cases h) (h1 := Kn.app (Kn.of rfl) (Kn.app (Kn.of rfl) (Kn.app hel (Kn.of rfl)))) (hh := ⟨⟨_, rfl, .var rfl⟩, ⟨_, rfl, .var rfl⟩, ⟨_, rfl, .arr⟩, ⟨_, rfl, .arr⟩, ⟨_, rfl, .rarrS hsame⟩, trivial⟩)⟩
    refine aK ?_;refine ag [] rfl ?_;exact ⟨i + 1 + 1, by omega, by dsimp only; omega, slG W (fun _ h => by cases h) (h1 := Kn.app (Kn.of rfl) (Kn.app (Kn.of rfl) (Kn.app hel Kn.nil)))⟩
  refine aK ?_;refine a8 (ag [] rfl ?_);exact aE ⟨.inr rfl, aBp (hl := oHl ks bs al) hF (by repeat (first | exact FarEq.raw hF | (refine FarEq.updL hF ?_) | (refine FarEq.upd hF ?_))) ⟨_, _, .cell rfl (tg rfl) rfl rfl rfl .nil, .cons .refl .nil, rfl⟩ (fun x hx => .inl (bM (show subset _ _ = true from rfl) x hx)) (fun x hx => .inr (cM x (by simpa [oHl, cQ, AObj.refs] using hx))) (fun _ h => by cases h) (fun _ h => by cases h)⟩
theorem aDy {h : cF} {ids : List Nat} {rs : List R} {cs : List C} (k : PureL h ids rs cs) : ∀ l : List C, PureL h ids (l.map R.c ++ rs) (l ++ cs)
 | [] => k
 | _ :: l => .c .refl (aDy k l)
theorem xW {h : cF} : ∀ {al : List Alt} {k : Nat}, FarEq h (w8 (fam k al)) → ∃ ids, PureL h ids (aT k al).flatten (al.map cV).flatten
 | [], _, _ => ⟨[], .nil⟩
 | a :: l, k, hf => by
  obtain ⟨ids, ih⟩ := xW (al := l) (k := k + 1) fun p hp => hf p (zq3 _ hp)
  have hh : h (k + 800) = some (.arr 9 1 (a.vars.map bG) 2) := hf (k + 800, .arr 9 1 (a.vars.map bG) 2) zq2;refine ⟨(k + 800) :: ids, ?_⟩;have h1 := aDy ih (aA a.body);simp only [aT, map_cons, flatten_cons, cW, cV, append_assoc, cons_append, nil_append];exact .c .refl (.c .refl (.c .refl (.hs hh (length_map _).symm (by rw [drop_zero, ← length_map (f := bG), take_length]) h1)))
def iQ (f n : Int) (s : Str) (t : Ty) (nk nb : Nat) (al : List Alt) : List R := [.c (.int .i64 f), .c (.int .i64 n), .c (.str s), .c (.int .i64 t.form), .c (.int .i64 t.n), .c (.str t.name), .c (.sl 4 (gM t)), .hs 702 0 nk nk, .hs 701 0 nb nb, .ras al.length 14 (aT 0 al).flatten]
theorem qQ {h : cF} {f n : Int} {s : Str} {t : Ty} {ks : List Core} {bs : List Bind} {al : List Alt} (h1 : h 701 = some (.arr 73 15 (aO bs) 2)) (h2 : h 702 = some (.arr 37 10 (aQ ks) 2)) (hf : FarEq h (w8 (fam 0 al))) :
  ∃ ids, PureL h ids (iQ f n s t ks.length bs.length al) (aA (.mk f n s t ks bs al)) := by
 obtain ⟨ids, hp⟩ := xW hf;have hkK : (aQ ks).length = ks.length := by rw [bB, length_map]
 have hkB : (aO bs).length = bs.length := by rw [bD, length_map]
 refine ⟨702 :: 701 :: (ids ++ []), ?_⟩;refine .c .refl (.c .refl (.c .refl (.c .refl (.c .refl (.c .refl (.c .refl (.hs h2 hkK.symm ?_ (.hs h1 hkB.symm ?_ (.ras rfl hp ?_ ?_ ?_ .nil)))))))))
 ·rw [drop_zero, ← hkK, take_length]; rfl
 ·rw [drop_zero, ← hkB, take_length]; rfl
 ·show _ = (bK al).flatten;rw [bE]
 ·intro r hr;have hr : r ∈ bK al := hr;rw [bE] at hr;obtain ⟨a, _, rfl⟩ := mem_map.1 hr;rfl
 ·show (bK al).length = _;rw [bE, length_map]
theorem rX {al : List Alt} : 703 ∉ bX (aT 0 al) := fun h => by
 obtain ⟨p, hp, e⟩ := mem_map.1 (cM 703 h);have := eX.far p hp;omega
theorem nZ {kf : List Nat} {el : List (Nat × V)} {ex : List (Nat × AObj)} {ks : List Core} {bs : List Bind} {al : List Alt} (h703 : 703 ∉ kf)
  (hel : ∀ x ∈ mV el, Kn (oHl ks bs al) ex (fam 0 al) x) (hex : dP (fun q => ∀ x ∈ q.2.refs, Kn (oHl ks bs al) ex (fam 0 al) x) ex)
  (hkf : ∀ i ∈ kf, i ∈ keys (oHl ks bs al ++ ex) ∨ i ∈ keys (fam 0 al)) (hd : Go.AM.distinct ((oHl ks bs al ++ ex).map (·.1)) = true) (hn : (ex.all fun p => Nat.blt p.1 800) = true) (hnd : (el.map (·.1)).Nodup) (hlv : ∀ p ∈ ex, p.2.live = true) :
  Sub kf (mkt (fzE 703 (.ra al.length 14 (aT 0 al).flatten) el) (fzH 703 (.ra al.length 14 (aT 0 al).flatten) ([(701, .arr 73 15 (aO bs) 2), (702, .arr 37 10 (aQ ks) 2)] ++ ex)) (w8 (fam 0 al))) (mkt el (oHl ks bs al ++ ex) (fam 0 al)) := by
 have hF : TF (fam 0 al) := eX;have hn' : ((oHl ks bs al ++ ex).all fun p => Nat.blt p.1 800) = true := by rw [all_append, hn]; rfl
 have e1 : Sub kf (mkt el ([(703, .rarr 78 14 (aT 0 al)), (701, .arr 73 15 (aO bs) 2), (702, .arr 37 10 (aQ ks) 2)] ++ ex) (fam 0 al)) (mkt el (oHl ks bs al ++ ex) (fam 0 al)) := by
  refine Sub.trans ?_ (Sub.freeze (id := 701) (te := 73) (es := 15) (elems := aO bs) (fz := 0) rfl);refine Sub.trans ?_ (Sub.freeze (id := 702) (te := 37) (es := 10) (elems := aQ ks) (fz := 0) rfl);have hmem : ∀ p ∈ ex, 703 ≠ p.1 ∧ 701 ≠ p.1 ∧ 702 ≠ p.1 := fun p hp => by
   have hd' := cY hd;simp only [oHl, cons_append, nil_append, map_cons, nodup_cons, mem_cons, not_or] at hd';have hm : p.1 ∈ ex.map (·.1) := mem_map.2 ⟨p, hp, rfl⟩;exact ⟨fun e => hd'.2.2.1 (e ▸ hm), fun e => hd'.1.2.2 (e ▸ hm), fun e => hd'.2.1.2 (e ▸ hm)⟩
  have hexn : (ex.map (·.1)).Nodup := by
   have hd' := cY hd;simp only [oHl, cons_append, nil_append, map_cons, nodup_cons] at hd';exact hd'.2.2.2
  have hg : ∀ x ∈ cQ (oHl ks bs al ++ ex), x ∈ keys (oHl ks bs al ++ ex) ∨ x ∈ keys (fam 0 al) := fun x hx => by
   rw [hD] at hx;rcases mem_append.1 hx with hx | hx
   ·exact .inr (cM x (by simpa [oHl, cQ, AObj.refs] using hx))
   ·rcases xP hex x hx with h | h | h
    ·exact .inl (gE.2 (.inl h))
    ·exact .inl (gE.2 (.inr h))
    ·exact .inr h
  have hkk : ∀ x, x ∈ keys (oHl ks bs al ++ ex) → x ∈ keys ([(703, AObj.rarr 78 14 (aT 0 al)), (701, .arr 73 15 (aO bs) 2), (702, .arr 37 10 (aQ ks) 2)] ++ ex) := fun x hx => by
   simp only [oHl, keys, cons_append, nil_append, map_cons, mem_cons] at hx ⊢;rcases hx with h | h | h | h
   ·exact .inr (.inl h)
   ·exact .inr (.inr (.inl h))
   ·exact .inl h
   ·exact .inr (.inr (.inr h))
  refine slT hF (FarEq.upd hF (FarEq.upd hF (FarEq.mkt hF hn'))) (fun x hx => ?_) (fun x hx => ?_) (fun i hi => (hkf i hi).imp (hkk i) id) (he := dP.of fun p hp => ?_) (hh := ⟨⟨_, rfl, .rarrS rfl⟩, ⟨_, rfl, .arr⟩, ⟨_, rfl, .arr⟩, dP.of fun p hp => ?_⟩) (h3 := ?_) (h3' := ?_)
  ·rcases hel x hx with h | h | h
   ·exact .inl (hkk x (gE.2 (.inl h)))
   ·exact .inl (hkk x (gE.2 (.inr h)))
   ·exact .inr h
  ·refine (hg x ?_).imp (hkk x) id;rw [hD] at hx ⊢;rcases mem_append.1 hx with hx | hx
   ·exact mem_append.2 (.inl (by simpa [oHl, cQ, AObj.refs] using hx))
   ·exact mem_append.2 (.inr hx)
  ·rw [V.ren_id];exact o7 hnd p hp
  ·obtain ⟨m1, m2, m3⟩ := hmem p hp;refine ⟨p.2, ?_, .refl_id (by intro e; have := hlv p hp; rw [e] at this; cases this)⟩;dsimp only;rw [aS _ _ _ (Ne.symm m3), aS _ _ _ (Ne.symm m2)];have hl : Go.AM.look (oHl ks bs al ++ ex) p.1 = some p.2 := o7 (cY hd) p (mem_append.2 (.inr hp));show (match Go.AM.look (oHl ks bs al ++ ex) p.1 with | some x => some x | none => _) = _;rw [hl]
  ·refine fC ?_;simp only [cons_append, nil_append, map_cons, nodup_cons, mem_cons, not_or];refine ⟨⟨by decide, by decide, fun h => ?_⟩, ⟨by decide, fun h => ?_⟩, fun h => ?_, hexn⟩
   all_goals
    obtain ⟨p, hp, e⟩ := mem_map.1 h;have := hmem p hp;omega
  ·rw [all_append, hn]; rfl
 have hnd3 : Go.AM.distinct (703 :: List.map (fun p : Nat × AObj => p.1) ([(701, AObj.arr 73 15 (aO bs) 2), (702, .arr 37 10 (aQ ks) 2)] ++ ex)) = true := by
  have hd' := cY hd;simp only [oHl, cons_append, nil_append, map_cons, nodup_cons, mem_cons, not_or] at hd';refine fC ?_;simp only [cons_append, nil_append, map_cons, nodup_cons, mem_cons, not_or];exact ⟨⟨by decide, by decide, hd'.2.2.1⟩, ⟨by decide, hd'.1.2.2⟩, hd'.2.1.2, hd'.2.2.2⟩
 have e2 := Sub.fzAll (kf := kf) (el := el) (hl := [(703, .rarr 78 14 (aT 0 al)), (701, .arr 73 15 (aO bs) 2), (702, .arr 37 10 (aQ ks) 2)] ++ ex) hF (by rw [all_append, hn]; rfl);have e3 := Sub.fraT (kf := kf) (el := el) (id := 703) (te := 78) (es := 14) (rows := aT 0 al) (rest := [(701, .arr 73 15 (aO bs) 2), (702, .arr 37 10 (aQ ks) 2)] ++ ex) hF.frz h703 rX rfl hnd3;rw [dJ] at e3;exact Sub.trans e3 (Sub.trans e2 e1)
theorem aI9 {c : Core} (h : OwG c) : OwP c := by
 obtain ⟨f, n, s, t, ks, bs, al⟩ := c;refine aY.sub h ?_;have hF : TF (fam 0 al) := eX;show Sub [] _ (mk [(0, .ma (dL f n s t ks.length bs.length al.length))] (oHl ks bs al ++ fam 0 al));rw [← aJk hF];have h1 := nZ (kf := []) (el := [(0, .ma (dL f n s t ks.length bs.length al.length))]) (ex := []) (ks := ks) (bs := bs) (al := al) (by simp) (Kn.of rfl) trivial (fun _ h => by cases h) rfl rfl (by simp) (fun _ h => by cases h);rw [append_nil] at h1;refine Sub.trans ?_ h1;have e1 : fzE 703 (.ra al.length 14 (aT 0 al).flatten) [(0, .ma (dL f n s t ks.length bs.length al.length))] = [(0, .ma (iQ f n s t ks.length bs.length al))] := by
  unfold dL iQ;simp only [fzE, V.fz, R.fzL, R.fz, beq_refl, if_true, Bool.and_self]
 rw [e1];have hF2 : TF (w8 (fam 0 al)) := hF.frz;obtain ⟨ids, hp⟩ := qQ (h := (mkt [(0, V.ma (iQ f n s t ks.length bs.length al))] (fzH 703 (.ra al.length 14 (aT 0 al).flatten) ([(701, .arr 73 15 (aO bs) 2), (702, .arr 37 10 (aQ ks) 2)] ++ [])) (w8 (fam 0 al))).h) (f := f) (n := n) (s := s) (t := t) (ks := ks) (bs := bs) (al := al) rfl rfl (FarEq.mkt hF2 rfl);refine Sub.trans ?_ (Sub.conv (t := 0) (v := .ma (iQ f n s t ks.length bs.length al)) (v' := .pa (aA (.mk f n s t ks bs al))) rfl (.agg hp));exact sl
theorem tM : ∀ (n : Nat) (c : Core), aR c ≤ n → n ≤ 570000000000 → allT TyG c → OwP c
 | 0, c, h, _, _ => by have := dW c; omega
 | n + 1, c, h, hn, hT => aI9 (tK c (fun x hx hx' => tM n x (by omega) (by omega) hx') hT (by omega))
theorem aRf (c : Core) (h : aR c ≤ 570000000000) (hT : allT TyG c) : OwG c := tK c (fun x hx hx' => tM (aR x) x (le_refl _) (by omega) hx') hT h
def nm0 (c : Core) : List (List C) := if c.form = 5 then [[.pt ((aA c).drop 2)]] else []
def aB0 (b : Bind) : List C := [.pt ((bA b).drop 0)]
def aGl (b : Bind) : List C := [.pt ((bA b).drop 5)]
def dY (k : Core) : List C := [.pt (aA k)]
def x6 (v : Str) : List C := [.pt (bG v)]
def aB8 (a : Alt) : List C := [.sl 1 (a.vars.map x6), .sl 1 [[.pt ((cV a).drop 4)]]]
def aWx (c : Core) : List C := [.sl 1 (nm0 c ++ c.binds.map aB0), .sl 1 (c.kids.map dY ++ c.binds.map aGl)]
def nH (c : Core) : List (List C) := aWx c :: c.alts.map aB8
theorem qC {α : Type} (f : α → List C) (w : List (List C)) {l : List α} {i : Nat} {x : α} (h : l[i]? = some x) : w ++ (l.take i).map f ++ [f x] = w ++ (l.take (i + 1)).map f := by
 rw [dT h, map_append, append_assoc]; rfl
theorem rC (c : Core) (hsz : aR c ≤ 570000000000) : aY Tryz.prog 66 [.one (.c (.pt (aA c)))] [] (.one (.c (.sl 2 (nH c)))) [] := by
 obtain ⟨f, n, s, t, ks, bs, al⟩ := c;obtain ⟨ihk, ihb, iha, hkl, hbl, hal⟩ := @gY f n s t ks bs al;have hkB : (aO bs).length = bs.length := by rw [bD, length_map]
 have hkK : (aQ ks).length = ks.length := by rw [bB, length_map]
 have hkA : (bK al).length = al.length := by rw [bE, length_map]
 have hW : (nm0 (.mk f n s t ks bs al)).length ≤ 1 := by unfold nm0; split <;> simp
 have hW5 : nm0 (.mk f n s t ks bs al) = if f = 5 then [[.pt ((aA (.mk f n s t ks bs al)).drop 2)]] else [] := rfl
 have hEG : nH (.mk f n s t ks bs al) = [.sl 1 (nm0 (.mk f n s t ks bs al) ++ bs.map aB0), .sl 1 (ks.map dY ++ bs.map aGl)] :: al.map aB8 := rfl;rw [hEG];generalize nm0 (.mk f n s t ks bs al) = W at hW hW5 ⊢;refine c8 (n := 123) tok Tryz.func66 rfl rfl rfl ?_;refine a8 (ag [] rfl ?_);refine a8 (ag [] rfl ?_);refine AWp.sub (Sub.ownCell (x := 3) (k := 1) (id := 712) 116 1 rfl rfl rfl) (AWp.sub (Sub.ownCell (x := 3) (k := 0) (id := 711) 167 1 rfl rfl rfl) ?_);refine a8 (a8 (ag [] rfl ?_));refine aC ?_;refine aJ (fun i : Nat => mk [(0, .one (.c (.pt (aA (.mk f n s t ks bs al))))), (3, .one (.vp 3 0)), (16, I .i64 ((aQ ks).length : Int)), (17, I .i64 i)] [(3, .var 125 [.hs 711 0 0 0, .hs 712 0 i i]), (711, .arr 167 1 [] 0), (712, .arr 116 1 ((ks.take i).map dY) 0)]) (fun i => i ≤ ks.length) (fun i => ks.length - i) 0 (zero_le _) sl ?_;intro i hi;refine a8 (ag [] rfl ?_);refine a8 (aB rfl (fun hb => ?_) (fun hb => ?_))
 ·have hlt := ltD hb hkK;obtain ⟨k, hki⟩ := aL hlt;have hki' := dS hki;have hrows := gX dY hki;refine aD ?_;refine a8 (aC (a8 (ag [] rfl ?_)));refine ag [(7, .row i (aA k))] rfl ?_;refine ag [] rfl ?_;exact ⟨i + 1, hlt, by dsimp only; omega, sl⟩
 have hge := geD hb hkK hi;subst hge;rw [take_length];refine aK ?_;refine a8 (AWp.cut (mk [(0, .one (.c (.pt (aA (.mk f n s t ks bs al))))), (3, .one (.vp 3 0))] [(3, .var 125 [.hs 711 0 W.length W.length, .hs 712 0 ks.length ks.length]), (711, .arr 167 1 W 0), (712, .arr 116 1 (ks.map dY) 0)]) ?_ ?_)
 ·refine a8 (ag [] rfl ?_);refine aB rfl (fun hb => ?_) (fun hb => ?_)
  ·have h5 : f = 5 := zq0 hb;rw [if_pos h5] at hW5;subst hW5;exact ag [] rfl sl
  ·have h5 : ¬ f = 5 := zq1 hb;rw [if_neg h5] at hW5;subst hW5;exact aD sl
 clear hW5;refine a8 (a8 (ag [] rfl ?_));refine aC ?_;refine aJ (fun i : Nat => mk [(0, .one (.c (.pt (aA (.mk f n s t ks bs al))))), (3, .one (.vp 3 0)), (49, I .i64 ((aO bs).length : Int)), (50, I .i64 i)] [(3, .var 125 [.hs 711 0 (W.length + i) (W.length + i), .hs 712 0 (ks.length + i) (ks.length + i)]), (711, .arr 167 1 (W ++ (bs.take i).map aB0) 0), (712, .arr 116 1 (ks.map dY ++ (bs.take i).map aGl) 0)]) (fun i => i ≤ bs.length) (fun i => bs.length - i) 0 (zero_le _) sl ?_;intro i hi;refine a8 (ag [] rfl ?_);refine a8 (aB rfl (fun hb => ?_) (fun hb => ?_))
 ·have hlt := ltD hb hkB;obtain ⟨b, hbi⟩ := aL hlt;have hbi' := cB hbi;have hr1 := qC aB0 W hbi;have hr2 := qC aGl (ks.map dY) hbi;refine aD ?_;refine a8 (aC (a8 (ag [] rfl ?_)));refine a8 (ag [(5, .row i (bA b))] rfl ?_);refine ag [] rfl ?_;refine ag [] rfl ?_;exact ⟨i + 1, hlt, by dsimp only; omega, sl⟩
 have hge := geD hb hkB hi;subst hge;rw [take_length];have hl1 : (W ++ bs.map aB0).length = W.length + bs.length := by simp
 have hl2 : (ks.map dY ++ bs.map aGl).length = ks.length + bs.length := by simp
 rw [← hl1, ← hl2];generalize W ++ bs.map aB0 = N0;generalize ks.map dY ++ bs.map aGl = P0;refine aK ?_;refine AWp.sub (Sub.freeze (id := 711) rfl) (AWp.sub (Sub.freeze (id := 712) rfl) (AWp.sub (vp 3 [.sl 1 N0, .sl 1 P0]) ?_));refine a8 (ag [(1, .id 500)] rfl ?_);refine a8 (a8 (ag [] rfl ?_));refine aC ?_;refine aJ (fun i : Nat => mk [(0, .one (.c (.pt (aA (.mk f n s t ks bs al))))), (7, .one (.hs 500 0 (1 + i) (1 + i))), (82, I .i64 ((bK al).length : Int)), (83, I .i64 i)] [(500, .arr 125 2 ([[.sl 1 N0, .sl 1 P0]] ++ (al.take i).map aB8) 0)]) (fun i => i ≤ al.length) (fun i => al.length - i) 0 (zero_le _) sl ?_;intro i hi;refine a8 (ag [] rfl ?_);refine a8 (aB rfl (fun hb => ?_) (fun hb => ?_))
 ·have hlt := ltD hb hkA;obtain ⟨a, hai⟩ := aL hlt;have hai' := j7 hai;have hav := eM (zq7 hai);have hvl := lZ a;have hrows := qC aB8 [[.sl 1 N0, .sl 1 P0]] hai;have hvk : (a.vars.map bG).length = a.vars.length := length_map _;have hgl : (([[.sl 1 N0, .sl 1 P0]] : List (List C)) ++ (al.take i).map aB8).length = 1 + i := by
   rw [length_append, length_map, length_take];show 1 + min i al.length = _;omega
  have hall : al.length ≤ 570000000000 := by omega
  generalize ([[.sl 1 N0, .sl 1 P0]] : List (List C)) ++ (al.take i).map aB8 = G at hgl hrows ⊢;rw [aR] at hsz;refine aD ?_;refine a8 (aC (a8 (ag [] rfl ?_)));refine a8 (ag [(5, .row i (cV a))] rfl ?_);refine a8 (ag [(3, .all)] rfl ?_);refine AWp.sub (Sub.ownCell (x := 10) (k := 0) (id := 721) 167 1 rfl rfl rfl) ?_;refine a8 (a8 (ag [] rfl ?_));refine aC ?_;refine aJ (fun j : Nat => mk [(0, .one (.c (.pt (aA (.mk f n s t ks bs al))))), (7, .one (.hs 500 0 (1 + i) (1 + i))), (9, .one (.c (.pt (cV a)))), (10, .one (.vp 10 0)), (82, I .i64 ((bK al).length : Int)), (83, I .i64 i), (101, I .i64 ((a.vars.map bG).length : Int)), (102, I .i64 j)] [(500, .arr 125 2 G 0), (10, .var 125 [.hs 721 0 j j, .c (.sl 1 [[.pt ((cV a).drop 4)]])]), (721, .arr 167 1 ((a.vars.take j).map x6) 0)]) (fun j => j ≤ a.vars.length) (fun j => a.vars.length - j) 0 (zero_le _) sl ?_;intro j hj;refine a8 (ag [] rfl ?_);refine a8 (aB rfl (fun hb => ?_) (fun hb => ?_))
  ·have hlt2 := ltD hb hvk;obtain ⟨v, hv⟩ := aL hlt2;have hv' := cE bG hv;have hr3 := gX x6 hv;refine aD ?_;refine a8 (aC (a8 (ag [] rfl ?_)));refine ag [(7, .row j (bG v))] rfl ?_;refine ag [] rfl ?_;exact ⟨j + 1, hlt2, by dsimp only; omega, sl⟩
  have hge2 := geD hb hvk hj;subst hge2;rw [take_length];have hlv : a.vars.length = (a.vars.map x6).length := (length_map _).symm;refine aK ?_;refine AWp.sub (Sub.freeze (id := 721) rfl) (AWp.sub (vp 10 (aB8 a)) ?_);refine ag [(2, .all)] rfl ?_;refine ag [] rfl ?_;exact ⟨i + 1, hlt, by dsimp only; omega, sl⟩
 have hge := geD hb hkA hi;subst hge;rw [take_length];refine aK ?_;refine a8 (ag [] rfl ?_);refine AWp.sub (Sub.freeze (id := 500) rfl) ?_;exact aE (rtT (hc := hs_all rfl rfl (by simp; omega) rfl))
def gl (c : Core) : List (List (List C) × List Core) := (nm0 c ++ c.binds.map aB0, c.kids ++ c.binds.map Bind.body) :: c.alts.map fun a => (a.vars.map x6, [a.body])
def fU (g : List (List C) × List Core) : List C := [.sl 1 g.1, .sl 1 (g.2.map dY)]
theorem kT (c : Core) : nH c = (gl c).map fU := by
 obtain ⟨f, n, s, t, ks, bs, al⟩ := c;unfold nH gl;rw [map_cons, map_map];congr 1;unfold aWx fU;rw [map_append, map_map];rfl
mutual
def fM : Core → Nat
 | .mk _ _ _ _ ks bs al => 1 + (cJ ks + (iG bs + iH al))
def cJ : List Core → Nat
 | [] => 0
 | c :: l => fM c + cJ l
def iG : List Bind → Nat
 | [] => 0
 | .mk _ _ c :: l => fM c + iG l
def iH : List Alt → Nat
 | [] => 0
 | .mk _ _ _ _ c :: l => fM c + iH l
end
theorem o5 : ∀ a b, cJ (a ++ b) = cJ a + cJ b
 | [], b => by rw [nil_append, cJ, zero_add]
 | x :: a, b => by rw [cons_append, cJ, cJ, o5 a b, add_assoc]
theorem s5 : ∀ l : List Bind, cJ (l.map Bind.body) = iG l
 | [] => by rw [map_nil, cJ, iG]
 | .mk s t c :: l => by rw [map_cons, cJ, iG, s5 l]; rfl
def nV : List (List (List C) × List Core) → Nat
 | [] => 0
 | g :: l => cJ g.2 + nV l
theorem yH : ∀ l : List Alt, nV (l.map fun a => (a.vars.map x6, [a.body])) = iH l
 | [] => by rw [map_nil, nV, iH]
 | .mk f n s v c :: l => by rw [map_cons, nV, iH, yH l, cJ, cJ]; rfl
theorem aSc (c : Core) : fM c = 1 + nV (gl c) := by
 obtain ⟨f, n, s, t, ks, bs, al⟩ := c;unfold gl;rw [nV, fM];show _ = 1 + (cJ (ks ++ bs.map Bind.body) + nV (al.map fun a => (a.vars.map x6, [a.body])));rw [o5, s5, yH];omega
mutual
theorem size_le : ∀ c : Core, fM c ≤ aR c
 | .mk f n s t ks bs al => by rw [fM, aR]; have := aDi ks; have := aDj bs; have := aDk al; omega
theorem aDi : ∀ l : List Core, cJ l ≤ bJ l
 | [] => by rw [cJ]; exact zero_le _
 | c :: l => by rw [cJ, bJ]; have := size_le c; have := aDi l; omega
theorem aDj : ∀ l : List Bind, iG l ≤ bW l
 | [] => by rw [iG]; exact zero_le _
 | .mk s t c :: l => by rw [iG, bW, bsize]; have := size_le c; have := aDj l; omega
theorem aDk : ∀ l : List Alt, iH l ≤ bR l
 | [] => by rw [iH]; exact zero_le _
 | .mk f n s v c :: l => by rw [iH, bR, jC]; have := size_le c; have := aDk l; omega
end
theorem aS9 {c : Core} {g : List (List C) × List Core} (h : g ∈ gl c) {x : Core} (hx : x ∈ g.2) : aR x < aR c := by
 obtain ⟨f, n, s, t, ks, bs, al⟩ := c;obtain ⟨ihk, ihb, iha, hkl, hbl, hal⟩ := @gY f n s t ks bs al;unfold gl at h;rcases mem_cons.1 h with rfl | h
 ·rcases mem_append.1 hx with hx | hx
  ·exact ihk x hx
  ·obtain ⟨b, hb, rfl⟩ := mem_map.1 hx;exact ihb b hb
 ·obtain ⟨a, ha, rfl⟩ := mem_map.1 h;rw [mem_singleton.1 hx];exact iha a ha
theorem aJ4 (c : Core) : (gl c).length ≤ aR c ∧ ∀ g ∈ gl c, g.2.length ≤ aR c ∧ g.1.length ≤ aR c := by
 obtain ⟨f, n, s, t, ks, bs, al⟩ := c;have h1 := lF ks;have h2 := lJ bs;have h3 := lL al;have hW : (nm0 (.mk f n s t ks bs al)).length ≤ 1 := by unfold nm0; split <;> simp
 rw [aR];unfold gl;refine ⟨?_, fun g hg => ?_⟩
 ·rw [length_cons, length_map];show al.length + 1 ≤ _;omega
 ·rcases mem_cons.1 hg with rfl | hg
  ·rw [length_append, length_append, length_map, length_map];show ks.length + bs.length ≤ _ ∧ _ + bs.length ≤ _;omega
  ·obtain ⟨a, ha, rfl⟩ := mem_map.1 hg;have h4 := eM (show a ∈ al from ha);have h5 := lZ a;have h6 : 1 ≤ jC a := by obtain ⟨f, n, s, v, c⟩ := a; rw [jC]; omega
   show [a.body].length ≤ _ ∧ (a.vars.map x6).length ≤ _;rw [length_map, List.length_singleton];omega
theorem aJ2 {l : List (List (List C) × List Core)} {i : Nat} {g : List (List C) × List Core} (h : l[i]? = some g) : nV (l.take (i + 1)) = nV (l.take i) + cJ g.2 := by
 have app : ∀ a b, nV (a ++ b) = nV a + nV b := by
  intro a b
  induction a with
  | nil => rw [nil_append, nV, zero_add]
  | cons x a ih => rw [cons_append, nV, nV, ih, add_assoc]
 rw [dT h, app, nV, nV, add_zero]
theorem aAt {l : List Core} {i : Nat} {x : Core} (h : l[i]? = some x) : cJ (l.take (i + 1)) = cJ (l.take i) + fM x := by
 rw [dT h, o5, cJ, cJ, add_zero]
theorem aS8 (l : List (List (List C) × List Core)) (i : Nat) : nV (l.take i) ≤ nV l := by
 induction l generalizing i with
 | nil => simp
 | cons g l ih =>
  cases i with
  | zero => simp [nV]
  | succ i => rw [take_succ_cons, nV, nV]; have := ih i; omega
theorem aH4 (l : List Core) (i : Nat) : cJ (l.take i) ≤ cJ l := by
 induction l generalizing i with
 | nil => simp
 | cons g l ih =>
  cases i with
  | zero => simp [cJ]
  | succ i => rw [take_succ_cons, cJ, cJ]; have := ih i; omega
def aL8 (c : Core) : Prop := aR c ≤ 570000000000 → aY Tryz.prog 79 [.pa (aA c)] [] (I .i64 (fM c : Nat)) []
theorem aBv (c : Core) (ih : ∀ x, aR x < aR c → aL8 x) : aL8 c := by
 intro hsz;have hgr := rC c hsz;have hsi := aSc c;have hsl := size_le c;have hin := fun {g} (h : g ∈ gl c) {x} hx => @aS9 c g h x hx
 obtain ⟨hgl, hgm⟩ := aJ4 c;rw [kT] at hgr;rw [hsi] at hsl ⊢;generalize gl c = L at hgr hsi hsl hin hgl hgm ⊢;have hkL : (L.map fU).length = L.length := length_map _;refine c8 (n := 30) tok Tryz.func79 rfl rfl rfl ?_;refine a8 (ag [] rfl ?_);refine a8 (ag [] rfl ?_);refine AWp.sub (Sub.fvar (id := 1) (l := aA c) rfl (by simp [keys])) ?_;refine AWp.sub (st2 := mk [(1, .one (.c (.pt (aA c)))), (3, I .i64 1)] []) sl ?_;refine a8 (a8 (aF mixed ?_));refine kc hgr ?_;refine ak 2 [] rfl ?_;refine az ?_;refine aC ?_;refine aJ (fun i : Nat => mk [(3, I .i64 ((1 + nV (L.take i) : Nat) : Int)), (8, .one (.c (.sl 2 (L.map fU)))), (9, I .i64 ((L.map fU).length : Int)), (10, I .i64 i)] []) (fun i => i ≤ L.length) (fun i => L.length - i) 0 (zero_le _) sl ?_;intro i hi;refine a8 (ag [] rfl ?_);refine a8 (aB rfl (fun hb => ?_) (fun hb => ?_))
 ·have hlt := ltD hb hkL;obtain ⟨g, hg⟩ := aL hlt;have hg' := cE fU hg;have hgi := zq7 hg;obtain ⟨hl1, hl2⟩ := hgm g hgi;have hgt := aJ2 hg;have hgl1 := aS8 L (i + 1);have hkG : (g.2.map dY).length = g.2.length := length_map _;obtain ⟨G1, G⟩ := g;dsimp only at hl1 hl2 hgt hkG;refine aD ?_;refine a8 (aC (a8 (ag [(0, .row i (fU (G1, G)))] rfl ?_)));refine a8 (ag [] rfl ?_);refine aC ?_;refine aJ (fun j : Nat => mk [(3, I .i64 ((1 + nV (L.take i) + cJ (G.take j) : Nat) : Int)), (8, .one (.c (.sl 2 (L.map fU)))), (9, I .i64 ((L.map fU).length : Int)), (10, I .i64 i), (15, .one (.c (.sl 1 (G.map dY)))), (16, I .i64 ((G.map dY).length : Int)), (17, I .i64 j)] []) (fun j => j ≤ G.length) (fun j => G.length - j) 0 (zero_le _) sl ?_;intro j hj;refine a8 (ag [] rfl ?_);refine a8 (aB rfl (fun hb => ?_) (fun hb => ?_))
  ·have hlt2 := ltD hb hkG;obtain ⟨p, hp⟩ := aL hlt2;have hp' := cE dY hp;have hpc := hin hgi (zq7 hp);have hc := ih p hpc (by omega);have hst := aAt hp;have hsl2 := aH4 G (j + 1);have hadd : ((1 + nV (L.take i) + cJ (G.take j) : Nat) : Int) + ((fM p : Nat) : Int) = ((1 + nV (L.take i) + cJ (G.take (j + 1)) : Nat) : Int) := by rw [hst]; omega
   refine aD ?_;refine a8 (aC (a8 (ag [(0, .row j (dY p))] rfl ?_)));refine ag [(4, .pc (I .i64 (fM p : Nat)))] rfl ?_;refine ag [] rfl ?_;refine ⟨j + 1, hlt2, by dsimp only; omega, ?_⟩;dsimp only;rw [← hadd];exact sl
  have hge2 := geD hb hkG hj;subst hge2;rw [take_length];refine aK ?_;refine ag [] rfl ?_;refine ⟨i + 1, hlt, by dsimp only; omega, ?_⟩;dsimp only;rw [show 1 + nV (L.take (i + 1)) = 1 + nV (L.take i) + cJ G by rw [hgt]; omega];exact sl
 have hge := geD hb hkL hi;subst hge;rw [take_length];refine aK ?_;refine a8 (ag [] rfl ?_);exact aE rtT
theorem aK6 : ∀ (n : Nat) (c : Core), aR c ≤ n → aL8 c
 | 0, c, h => by have := dW c; omega
 | n + 1, c, h => aBv c fun x hx => aK6 n x (by omega)
def qX (o : List Str) (s : Str) : List Str := if s ∈ o then o else o ++ [s]
def mH (o l : List Str) : List Str := l.foldl qX o
theorem aJj (o : List Str) {l : List Str} {i : Nat} {s : Str} (h : l[i]? = some s) : mH o (l.take (i + 1)) = qX (mH o (l.take i)) s := by
 unfold mH; rw [dT h, foldl_append]; rfl
theorem aD5 (o : List Str) (s : Str) : (qX o s).length ≤ o.length + 1 := by unfold qX; split <;> simp
theorem pM (o : List Str) : ∀ l : List Str, (mH o l).length ≤ o.length + l.length := by
 intro l
 induction l generalizing o with
 | nil => exact le_refl _
 | cons s l ih =>
  have h1 := ih (qX o s);have h2 := aD5 o s;show (mH (qX o s) l).length ≤ _;rw [length_cons]; omega
def ouO (o : List Str) : AObj := .arr 9 1 (o.map bG) 1
def ouV (o : List Str) : V := .one (.hs 500 0 o.length o.length)
theorem tO (o l : List Str) (h : o.length + l.length ≤ 600000000000) : aY Tryz.prog 124 [ouV o, bN l] [(500, ouO o)] (ouV (mH o l)) [(500, ouO (mH o l))] := by
 have hkl : (l.map bG).length = l.length := length_map _;refine c8 (n := 23) tok Tryz.func124 rfl rfl rfl ?_;refine a8 (ag [] rfl ?_);refine a8 (a8 (ag [] rfl ?_));refine aC ?_;refine aJ (fun i : Nat => mk [(0, ouV (mH o (l.take i))), (7, bN l), (8, I .i64 ((l.map bG).length : Int)), (9, I .i64 i)] [(500, ouO (mH o (l.take i)))]) (fun i => i ≤ l.length) (fun i => l.length - i) 0 (zero_le _) sl ?_;intro i hi;refine a8 (ag [] rfl ?_);refine a8 (aB rfl (fun hb => ?_) (fun hb => ?_))
 ·have hlt := ltD hb hkl;obtain ⟨s, hs⟩ := aL hlt;have hs' := cE bG hs;have hst := aJj o hs;have hml := pM o (l.take i);rw [length_take] at hml;generalize mH o (l.take i) = x at hst hml ⊢;have hco := bU x s (by omega);refine aD ?_;refine a8 (aC ?_);refine a8 (ag [(0, .row i (bG s))] rfl ?_);refine AWp.sub (Sub.freeze (id := 500) rfl) ?_;refine a8 (ag [(2, .pc (B (decide (s ∈ x))))] rfl ?_);refine aB rfl (fun hb => ?_) (fun hb => ?_)
  ·have hin : ¬ s ∈ x := by simpa using hb
   rw [qX, if_neg hin] at hst;refine ag [] rfl ?_;refine ag [] rfl ?_;refine ⟨i + 1, hlt, by dsimp only; omega, ?_⟩;dsimp only;rw [hst];exact sl (he := ⟨Go.AM.hs_ren (by simp) (by simp), rfl, rfl, rfl, trivial⟩) (hh := ⟨⟨_, rfl, by first | exact Go.AM.Ole.arrE (by simp; rfl) | exact Go.AM.Ole.arrS (by simp; rfl)⟩, trivial⟩)
  ·have hin : s ∈ x := by simpa using hb
   rw [qX, if_pos hin] at hst;refine aD ?_;refine ag [] rfl ?_;refine ⟨i + 1, hlt, by dsimp only; omega, ?_⟩;dsimp only;rw [hst];exact sl
 have hge := geD hb hkl hi;subst hge;rw [take_length];refine aK ?_;refine a8 (ag [] rfl ?_);exact aE rtT
def pJ (p : Str × List C) : List C := [.pt (.str p.1 :: p.2)]
def suO (s : Str) : AObj := .var 9 [.c (.str s)]
theorem aTx (p : Str × List C) (s : Str) : aY Tryz.prog 130 [.one (.c (.pt (.str p.1 :: p.2))), .one (.vp 9 0)] [(9, suO s)] (B (decide (p.1 = s))) [(9, suO s)] := by
 refine c8 (n := 9) tok Tryz.func130 rfl rfl rfl ?_;refine a8 (ag [] rfl ?_);refine a8 (ag [] rfl ?_);exact aE rtT
theorem aXy (l : List (Str × List C)) (s : Str) (hl : l.length ≤ 600000000000) : aY Tryz.prog 175 [.one (.c (.sl 1 (l.map pJ))), .one (.clo 130 [.vp 9 0])] [(9, suO s)] (I .i64 (aQr (fun p => decide (p.1 = s)) l 0)) [(9, suO s)] := by
 have hkl : (l.map pJ).length = l.length := length_map _;generalize hP : (fun p : Str × List C => decide (p.1 = s)) = P;refine c8 (n := 19) tok Tryz.func175 rfl rfl rfl ?_;refine a8 (ag [] rfl ?_);refine a8 (a8 (ag [] rfl ?_));refine aC ?_;refine aJ (fun i : Nat => mk [(0, .one (.c (.sl 1 (l.map pJ)))), (1, .one (.clo 130 [.vp 9 0])), (7, I .i64 ((l.map pJ).length : Int)), (8, I .i64 i)] [(9, suO s)]) (fun i => i ≤ l.length ∧ aQr P l 0 = aQr P (l.drop i) i) (fun i => l.length - i) 0 ⟨zero_le _, rfl⟩ sl ?_;intro i ⟨hi, hid⟩;refine a8 (ag [] rfl ?_);refine a8 (aB rfl (fun hb => ?_) (fun hb => ?_))
 ·have hlt := ltD hb hkl;obtain ⟨p, hp⟩ := aL hlt;have hp' := cE pJ hp;have hc : aY Tryz.prog 130 ([.one (.c (.pt (.str p.1 :: p.2)))] ++ ([.vp 9 0] : List R).map V.one) [(9, suO s)] (B (P p)) [(9, suO s)] := by rw [← hP]; exact aTx p s
  have hdr : l.drop i = p :: l.drop (i + 1) := by rw [drop_eq_getElem_cons hlt, (zq6.1 hp).2]
  rw [hdr, aQr] at hid;refine aD ?_;refine a8 (aC (a8 (ag [] rfl ?_)));refine a8 (aF mixed ?_);refine ak 5 [(3, .row i (pJ p))] rfl ?_;refine kv (args := [.one (.c (.pt (.str p.1 :: p.2)))]) hc ?_;refine az ?_;refine aB rfl (fun hb => ?_) (fun hb => ?_)
  ·have hb : P p = true := hb;rw [if_pos hb] at hid;rw [hid];refine a8 (ag [] rfl ?_);exact aE rtT
  ·have hb : P p = false := hb;rw [if_neg (by rw [hb]; exact Bool.false_ne_true)] at hid;refine aD ?_;refine ag [] rfl ?_;exact ⟨i + 1, ⟨hlt, hid⟩, by dsimp only; omega, sl⟩
 have hge := geD hb hkl hi;subst hge;rw [drop_length, aQr] at hid;rw [hid];refine aK ?_;refine a8 (ag [] rfl ?_);exact aE (rtT (v := I .i64 (-1)) (hc := .refl))
theorem aX1 (l : List (Str × List C)) (s : Str) (hl : l.length ≤ 600000000000) : aY Tryz.prog 129 [.one (.c (.sl 1 (l.map pJ))), .one (.clo 130 [.vp 9 0])] [(9, suO s)] (B (decide (s ∈ l.map (·.1)))) [(9, suO s)] := by
 have h := aXy l s hl;have hany : decide (s ∈ l.map (·.1)) = l.any fun p => decide (p.1 = s) := by
  rw [Bool.eq_iff_iff];simp only [decide_eq_true_eq, List.any_eq_true, mem_map]
 rw [hany, ← aJ1 _ l 0];refine c8 (n := 9) tok Tryz.func129 rfl rfl rfl ?_;refine a8 (ag [] rfl ?_);refine a8 (aF mixed ?_);refine ak 2 [] rfl ?_;refine kc h ?_;refine ak 2 [] rfl ?_;refine az ?_;exact aE rtT
set_option maxHeartbeats 4000000
def mP (f : Int) (s : Str) (o : List Str) (x : Str) : List Str := if ¬ f = 7 ∨ ¬ x = s then mH o [x] else o
def aAj (f : Int) (s : Str) (o l : List Str) : List Str := l.foldl (mP f s) o
mutual
def tyR : Core → List Str
 | .mk f _ s t ks bs al => mN al (mA bs (nT f s ks (mH [] (tfR t))))
def nT (f : Int) (s : Str) : List Core → List Str → List Str
 | [], o => o
 | c :: l, o => nT f s l (aAj f s o (tyR c))
def mA : List Bind → List Str → List Str
 | [], o => o
 | .mk _ t c :: l, o => mA l (mH (mH o (tfR t)) (tyR c))
def mN : List Alt → List Str → List Str
 | [], o => o
 | .mk _ _ _ _ c :: l, o => mN l (mH o (tyR c))
def cT : Core → Nat
 | .mk _ _ _ t ks bs al => fw t + a00 ks + a01 bs + a02 al
def a00 : List Core → Nat
 | [] => 0
 | c :: l => cT c + a00 l
def a01 : List Bind → Nat
 | [] => 0
 | .mk _ t c :: l => fw t + cT c + a01 l
def a02 : List Alt → Nat
 | [] => 0
 | .mk _ _ _ _ c :: l => cT c + a02 l
end
theorem aG7 (f : Int) (s : Str) (o : List Str) (x : Str) : (mP f s o x).length ≤ o.length + 1 := by
 unfold mP; split
 ·exact pM o [x]
 ·omega
theorem aC3 (f : Int) (s : Str) : ∀ (l o : List Str), (aAj f s o l).length ≤ o.length + l.length
 | [], o => le_refl _
 | x :: l, o => by
  have h1 := aC3 f s l (mP f s o x);have h2 := aG7 f s o x;show (aAj f s (mP f s o x) l).length ≤ _;rw [length_cons]; omega
theorem aCt {f : Int} {s : Str} : ∀ {l : List Core} {o : List Str} {i : Nat} {c : Core}, l[i]? = some c → nT f s (l.take (i + 1)) o = aAj f s (nT f s (l.take i) o) (tyR c)
 | d :: l, o, 0, c, h => by simp at h; subst h; rw [take_succ_cons, take_zero, take_zero, nT, nT, nT]
 | d :: l, o, i + 1, c, h => by rw [take_succ_cons, take_succ_cons, nT, nT]; exact aCt (l := l) (by simpa using h)
theorem aCv : ∀ {l : List Bind} {o : List Str} {i : Nat} {b : Bind}, l[i]? = some b → mA (l.take (i + 1)) o = mH (mH (mA (l.take i) o) (tfR b.ty)) (tyR b.body)
 | .mk s t c :: l, o, 0, b, h => by simp at h; subst h; rw [take_succ_cons, take_zero, take_zero, mA, mA, mA]; rfl
 | .mk s t c :: l, o, i + 1, b, h => by rw [take_succ_cons, take_succ_cons, mA, mA]; exact aCv (l := l) (by simpa using h)
theorem aCx : ∀ {l : List Alt} {o : List Str} {i : Nat} {a : Alt}, l[i]? = some a → mN (l.take (i + 1)) o = mH (mN (l.take i) o) (tyR a.body)
 | .mk f n s v c :: l, o, 0, a, h => by simp at h; subst h; rw [take_succ_cons, take_zero, take_zero, mN, mN, mN]; rfl
 | .mk f n s v c :: l, o, i + 1, a, h => by rw [take_succ_cons, take_succ_cons, mN, mN]; exact aCx (l := l) (by simpa using h)
theorem aHe {f : Int} {s : Str} {o l : List Str} {j : Nat} {x : Str} (h : l[j]? = some x) : aAj f s o (l.take (j + 1)) = mP f s (aAj f s o (l.take j)) x := by
 unfold aAj; rw [take_add_one, h, foldl_append]; rfl
theorem aS2 (o : List Str) (s : Str) : o.length ≤ (qX o s).length := by
 unfold qX; split
 ·exact le_refl _
 ·simp
theorem qW : ∀ (l o : List Str), o.length ≤ (mH o l).length
 | [], o => le_refl _
 | x :: l, o => le_trans (aS2 o x) (qW l (qX o x))
theorem aHg (f : Int) (s : Str) : ∀ (l o : List Str), o.length ≤ (aAj f s o l).length
 | [], o => le_refl _
 | x :: l, o => by
  refine le_trans ?_ (aHg f s l (mP f s o x));unfold mP; split
  ·exact qW [x] o
  ·exact le_refl _
theorem aPu (f : Int) (s : Str) : ∀ (l : List Core) (o : List Str), o.length ≤ (nT f s l o).length
 | [], o => by rw [nT]; exact le_refl _
 | c :: l, o => by rw [nT]; exact le_trans (aHg f s _ o) (aPu f s l _)
theorem aG6 : ∀ (l : List Bind) (o : List Str), o.length ≤ (mA l o).length
 | [], o => by rw [mA]; exact le_refl _
 | .mk s t c :: l, o => by rw [mA]; exact le_trans (le_trans (qW _ o) (qW _ _)) (aG6 l _)
theorem aCy : ∀ (l : List Alt) (o : List Str), o.length ≤ (mN l o).length
 | [], o => by rw [mN]; exact le_refl _
 | .mk f n s v c :: l, o => by rw [mN]; exact le_trans (qW _ o) (aCy l _)
theorem aCs (f : Int) (s : Str) : ∀ (l : List Core) (o : List Str) (i : Nat), (nT f s (l.take i) o).length ≤ (nT f s l o).length
 | [], o, i => by rw [List.take_nil]; exact le_refl _
 | c :: l, o, 0 => by rw [take_zero, nT]; exact aPu f s _ o
 | c :: l, o, i + 1 => by rw [take_succ_cons, nT, nT]; exact aCs f s l _ i
theorem aCu : ∀ (l : List Bind) (o : List Str) (i : Nat), (mA (l.take i) o).length ≤ (mA l o).length
 | [], o, i => by rw [List.take_nil]; exact le_refl _
 | .mk s t c :: l, o, 0 => by rw [take_zero]; rw [show mA [] o = o from by rw [mA]]; exact aG6 _ o
 | .mk s t c :: l, o, i + 1 => by rw [take_succ_cons, mA, mA]; exact aCu l _ i
theorem aCw : ∀ (l : List Alt) (o : List Str) (i : Nat), (mN (l.take i) o).length ≤ (mN l o).length
 | [], o, i => by rw [List.take_nil]; exact le_refl _
 | .mk f n s v c :: l, o, 0 => by rw [take_zero]; rw [show mN [] o = o from by rw [mN]]; exact aCy _ o
 | .mk f n s v c :: l, o, i + 1 => by rw [take_succ_cons, mN, mN]; exact aCw l _ i
mutual
def tyM : Core → Nat
 | .mk f n s t ks bs al => max (fw t) (max (tyR (.mk f n s t ks bs al)).length (max (aPw ks) (max (aHa bs) (aMu al))))
def aPw : List Core → Nat
 | [] => 0
 | c :: l => max (tyM c) (aPw l)
def aHa : List Bind → Nat
 | [] => 0
 | .mk _ t c :: l => max (fw t) (max (tyM c) (aHa l))
def aMu : List Alt → Nat
 | [] => 0
 | .mk _ _ _ _ c :: l => max (tyM c) (aMu l)
end
theorem aVb {f n : Int} {s : Str} {t : Ty} {ks : List Core} {bs : List Bind} {al : List Alt} {K : Nat} (h : tyM (.mk f n s t ks bs al) ≤ K) : fw t ≤ K ∧ (tyR (.mk f n s t ks bs al)).length ≤ K ∧ aPw ks ≤ K ∧ aHa bs ≤ K ∧ aMu al ≤ K := by
 rw [tyM] at h; omega
theorem aHc (c : Core) : (tyR c).length ≤ tyM c := by cases c; rw [tyM]; omega
theorem aCz : ∀ {l : List Core} {c : Core}, c ∈ l → tyM c ≤ aPw l
 | d :: l, c, h => by
  rw [aPw];rcases mem_cons.1 h with rfl | h
  ·omega
  ·have := aCz h; omega
theorem aC0 : ∀ {l : List Bind} {b : Bind}, b ∈ l → fw b.ty ≤ aHa l ∧ tyM b.body ≤ aHa l
 | .mk s t c :: l, b, h => by
  rw [aHa];rcases mem_cons.1 h with rfl | h
  ·show fw t ≤ _ ∧ tyM c ≤ _; omega
  ·have := aC0 h; omega
theorem aC1 : ∀ {l : List Alt} {a : Alt}, a ∈ l → tyM a.body ≤ aMu l
 | .mk f n s v c :: l, a, h => by
  rw [aMu];rcases mem_cons.1 h with rfl | h
  ·show tyM c ≤ _; omega
  ·have := aC1 h; omega
def aCa (c : Core) : Prop := aR c ≤ 570000000000 → tyM c ≤ 400000000 → aY Tryz.prog 61 [.pa (aA c)] [] (bN (tyR c)) []
theorem wK (c : Core) (ih : ∀ x, aR x < aR c → aCa x) : aCa c := by
 intro hsz hcT;obtain ⟨f, n, s, t, ks, bs, al⟩ := c;obtain ⟨ihk, ihb, iha, hkl, hbl, hal⟩ := @gY f n s t ks bs al;obtain ⟨hMt, hMr, hMk, hMb, hMa⟩ := aVb hcT;rw [tyR] at hMr ⊢;have hkB : (aO bs).length = bs.length := by rw [bD, length_map]
 have hkK : (aQ ks).length = ks.length := by rw [bB, length_map]
 have hkA : (bK al).length = al.length := by rw [bE, length_map]
 have htf := aEy t (by omega);have htl := aW5 t;have hmo : aY Tryz.prog 124 [.one (.c .nl), bN (tfR t)] [] (ouV (mH [] (tfR t))) [(500, ouO (mH [] (tfR t)))] := aY.nilArg (pre := []) (post := [bN (tfR t)]) (hin := []) (tO [] (tfR t) (by simp; omega)) rfl;have hol := pM [] (tfR t);simp only [length_nil] at hol;generalize mH [] (tfR t) = o0 at hmo hol hMr ⊢;refine c8 (n := 76) tok Tryz.func61 rfl rfl rfl ?_;refine a8 (ag [] rfl ?_);refine a8 (aF mixed ?_);refine ak 2 [] rfl ?_;refine kc htf ?_;refine kc hmo ?_;refine ak 1 [] rfl ?_;refine az ?_;refine a8 (a8 (ag [] rfl ?_));refine aC ?_;refine aJ (fun i : Nat => mk [(1, .one (.vp 1 0)), (3, ouV (nT f s (ks.take i) o0)), (17, .one (.c (.sl 10 (aQ ks)))), (18, I .i64 ((aQ ks).length : Int)), (19, I .i64 i)] [(500, ouO (nT f s (ks.take i) o0)), (1, .var 37 (bF (.mk f n s t ks bs al)))]) (fun i => i ≤ ks.length) (fun i => ks.length - i) 0 (zero_le _) sl ?_;intro i hi;have hl1 : (nT f s (ks.take i) o0).length ≤ 400000000 := le_trans (aCs f s ks o0 i) (le_trans (aG6 bs _) (le_trans (aCy al _) hMr));refine a8 (ag [] rfl ?_);refine a8 (aB rfl (fun hb => ?_) (fun hb => ?_))
 ·have hlt := ltD hb hkK;obtain ⟨k, hki⟩ := aL hlt;have hki' := dS hki;have hm := zq7 hki;have hkm := aCz hm;have hc := ih k (ihk k hm) (by have := ihk k hm; omega) (by omega);have hkt : (tyR k).length ≤ 400000000 := by have := aHc k; omega
  have hst := aCt (f := f) (s := s) (o := o0) hki;generalize nT f s (ks.take i) o0 = o at hst hl1 ⊢;have hkf : ((tyR k).map bG).length = (tyR k).length := length_map _;generalize tyR k = fk at hc hkt hst hkf;refine aD ?_;refine a8 (aC (a8 (ag [(0, .row i (aA k))] rfl ?_)));refine a8 (aF mixed ?_);refine ak 1 [] rfl ?_;refine kc hc ?_;refine ak 2 [] rfl ?_;refine az ?_;refine aC ?_;refine aJ (fun j : Nat => mk [(1, .one (.vp 1 0)), (3, ouV (aAj f s o (fk.take j))), (17, .one (.c (.sl 10 (aQ ks)))), (18, I .i64 ((aQ ks).length : Int)), (19, I .i64 i), (24, bN fk), (25, I .i64 ((fk.map bG).length : Int)), (26, I .i64 j)] [(500, ouO (aAj f s o (fk.take j))), (1, .var 37 (bF (.mk f n s t ks bs al)))]) (fun j => j ≤ fk.length) (fun j => fk.length - j) 0 (zero_le _) sl ?_;intro j hj;refine a8 (ag [] rfl ?_);refine a8 (aB rfl (fun hb => ?_) (fun hb => ?_))
  ·have hlj := ltD hb hkf;obtain ⟨x, hx⟩ := aL hlj;have hx' := cE bG hx;have hsn := aHe (f := f) (s := s) (o := o) hx;have hpl := aC3 f s (fk.take j) o;rw [length_take] at hpl;generalize aAj f s o (fk.take j) = q at hsn hpl ⊢;have hmq := tO q [x] (by simp; omega);refine aD ?_;refine a8 (aC (a8 (ag [(0, .row j (bG x))] rfl ?_)));refine a8 (agF 4 [] rfl rfl rfl ?_);refine aB rfl (fun hb => ?_) (fun hb => ?_)
   ·have hb' : ¬ f = 7 ∨ ¬ x = s := by
     by_cases h7 : f = 7
     ·refine .inr fun hxs => ?_
      subst h7 hxs;have hb2 : (bif !decide ((7 : Int) = 7) then true else !decide (x = x)) = true := hb;simp at hb2
     ·exact .inl h7
    rw [mP, if_pos hb'] at hsn;refine aF mixed ?_;refine ak 3 [(2, .all)] rfl ?_;refine kc hmq ?_;refine ak 1 [] rfl ?_;refine az ?_;refine ag [] rfl ?_;refine ⟨j + 1, hlj, by dsimp only; omega, ?_⟩;dsimp only;rw [hsn];exact sl
   ·have hb' : ¬ (¬ f = 7 ∨ ¬ x = s) := by
     intro h;by_cases h7 : f = 7
     ·have hxs := h.resolve_left (fun h => h h7);subst h7;simp at hb;exact hxs hb.2
     ·simp at hb;exact h7 hb.1
    rw [mP, if_neg hb'] at hsn;refine aD ?_;refine ag [] rfl ?_;refine ⟨j + 1, hlj, by dsimp only; omega, ?_⟩;dsimp only;rw [hsn];exact sl
  have hge := geD hb hkf hj;subst hge;rw [take_length];refine aK ?_;refine ag [] rfl ?_;refine ⟨i + 1, hlt, by dsimp only; omega, ?_⟩;dsimp only;rw [hst];exact sl
 have hge := geD hb hkK hi;subst hge;rw [take_length] at hl1 ⊢;generalize nT f s ks o0 = o1 at hl1 hMr ⊢;refine aK ?_;refine a8 (a8 (ag [] rfl ?_));refine aC ?_;refine aJ (fun i : Nat => mk [(1, .one (.vp 1 0)), (3, ouV (mA (bs.take i) o1)), (46, .one (.c (.sl 15 (aO bs)))), (47, I .i64 ((aO bs).length : Int)), (48, I .i64 i)] [(500, ouO (mA (bs.take i) o1)), (1, .var 37 (bF (.mk f n s t ks bs al)))]) (fun i => i ≤ bs.length) (fun i => bs.length - i) 0 (zero_le _) sl ?_;intro i hi;have hl3 : (mA (bs.take i) o1).length ≤ 400000000 := le_trans (aCu bs o1 i) (le_trans (aCy al _) hMr);refine a8 (ag [] rfl ?_);refine a8 (aB rfl (fun hb => ?_) (fun hb => ?_))
 ·have hlt := ltD hb hkB;obtain ⟨b, hbi⟩ := aL hlt;have hbi' := cB hbi;have hm := zq7 hbi;have hbm := aC0 hm;have hc := ih b.body (ihb b hm) (by have := ihb b hm; omega) (by omega);have hst := aCv (o := o1) hbi;obtain ⟨s', t', c'⟩ := b;have hbm : fw t' ≤ aHa bs ∧ tyM c' ≤ aHa bs := hbm;have hc : aY Tryz.prog 61 [.pa (aA c')] [] (bN (tyR c')) [] := hc;have hst : mA (bs.take (i + 1)) o1 = mH (mH (mA (bs.take i) o1) (tfR t')) (tyR c') := hst;have hf' := aEy t' (by omega);have g1 := aW5 t';have g2 : (tyR c').length ≤ 400000000 := by have := aHc c'; omega
  generalize mA (bs.take i) o1 = o at hst hl3 ⊢;have g3 := pM o (tfR t');have m1 := tO o (tfR t') (by omega);have m2 := tO (mH o (tfR t')) (tyR c') (by omega);refine aD ?_;refine a8 (aC (a8 (ag [(0, .row i (bA (.mk s' t' c')))] rfl ?_)));refine aF mixed ?_;refine ak 3 [] rfl ?_;refine kc hf' ?_;refine kc m1 ?_;refine ak 2 [] rfl ?_;refine kc hc ?_;refine kc m2 ?_;refine ak 1 [] rfl ?_;refine az ?_;refine ag [] rfl ?_;refine ⟨i + 1, hlt, by dsimp only; omega, ?_⟩;dsimp only;rw [hst];exact sl
 have hge := geD hb hkB hi;subst hge;rw [take_length] at hl3 ⊢;generalize mA bs o1 = o2 at hl3 hMr ⊢;refine aK ?_;refine a8 (a8 (ag [] rfl ?_));refine aC ?_;refine aJ (fun i : Nat => mk [(3, ouV (mN (al.take i) o2)), (63, .one (.c (.sl 14 (bK al)))), (64, I .i64 ((bK al).length : Int)), (65, I .i64 i)] [(500, ouO (mN (al.take i) o2))]) (fun i => i ≤ al.length) (fun i => al.length - i) 0 (zero_le _) sl ?_;intro i hi;have hl5 : (mN (al.take i) o2).length ≤ 400000000 := le_trans (aCw al o2 i) hMr;refine a8 (ag [] rfl ?_);refine a8 (aB rfl (fun hb => ?_) (fun hb => ?_))
 ·have hlt := ltD hb hkA;obtain ⟨a, hai⟩ := aL hlt;have hai' := j7 hai;have hm := zq7 hai;have ham := aC1 hm;have hc := ih a.body (iha a hm) (by have := iha a hm; omega) (by omega);have hst := aCx (o := o2) hai;obtain ⟨f', n', s', v', c'⟩ := a;have ham : tyM c' ≤ aMu al := ham;have hc : aY Tryz.prog 61 [.pa (aA c')] [] (bN (tyR c')) [] := hc;have hst : mN (al.take (i + 1)) o2 = mH (mN (al.take i) o2) (tyR c') := hst;have g2 : (tyR c').length ≤ 400000000 := by have := aHc c'; omega
  generalize mN (al.take i) o2 = o at hst hl5 ⊢;have m2 := tO o (tyR c') (by omega);refine aD ?_;refine a8 (aC (a8 (ag [(0, .row i (cV (.mk f' n' s' v' c')))] rfl ?_)));refine aF mixed ?_;refine ak 3 [] rfl ?_;refine kc hc ?_;refine kc m2 ?_;refine ak 1 [] rfl ?_;refine az ?_;refine ag [] rfl ?_;refine ⟨i + 1, hlt, by dsimp only; omega, ?_⟩;dsimp only;rw [hst];exact sl
 have hge := geD hb hkA hi;subst hge;rw [take_length] at hl5 ⊢;refine aK ?_;refine AWp.sub (Sub.freeze (id := 500) rfl) ?_;refine a8 (ag [] rfl ?_);exact aE (rtT (hc := hs_all rfl rfl (by simp) rfl))
theorem zD : ∀ (n : Nat) (c : Core), aR c ≤ n → aCa c
 | 0, c, h => by have := dW c; omega
 | n + 1, c, h => wK c fun x hx => zD n x (by omega)
mutual
noncomputable def mB : Ty → List (Str × Ty) → Ty
 | .mk f n s a, ps =>
  if f = 2 then (match ps.find? (fun p => decide (p.1 = s)) with | some p => p.2 | none => .mk f n s a)
  else if f = 4 then .mk 4 0 [] (fQ a ps)
  else if f = 5 then .mk 5 0 (unN s (a.headD zTy) ps) (fQ a (unP s (a.headD zTy) ps))
  else .mk f n s a
noncomputable def fQ : List Ty → List (Str × Ty) → List Ty
 | [], _ => []
 | t :: l, ps => mB t ps :: fQ l ps
end
structure PsOk (ps : List (Str × Ty)) : Prop where
 nd : (ps.map (·.1)).Nodup
 ok : ∀ p ∈ ps, wfS p.2 = true ∧ fvm p.2 ≤ 700000
 len : ps.length ≤ 700000 + 1
theorem aKm : ∀ {ps : List (Str × Ty)} {s : Str} {u : Ty}, (ps.map (·.1)).Nodup → (s, u) ∈ ps → ps.find? (fun p => decide (p.1 = s)) = some (s, u)
 | p :: ps, s, u, hn, h => by
  rw [map_cons, nodup_cons] at hn;rcases mem_cons.1 h with h | h
  ·subst h;rw [List.find?_cons_of_pos (by simp)]
  ·have : ¬ p.1 = s := fun e => hn.1 (mem_map.2 ⟨_, h, e.symm⟩)
   rw [List.find?_cons_of_neg (by simpa using this)];exact aKm hn.2 h
theorem nD {ps : List (Str × Ty)} {s : Str} (h : ¬ s ∈ ps.map (·.1)) : ps.find? (fun p => decide (p.1 = s)) = none := by
 rw [List.find?_eq_none];intro p hp hb;exact h (mem_map.2 ⟨p, hp, by simpa using hb⟩)
theorem iJ : ∀ (a b : List Str), a.Nodup → (∀ x ∈ a, x ∈ b) → a.length ≤ b.length := by
 intro a
 induction a with
 | nil => intro b _ _; simp
 | cons x a ih =>
  intro b hn hs;rw [nodup_cons] at hn;have h1 := ih (b.erase x) hn.2 fun y hy => (List.mem_erase_of_ne (by rintro rfl; exact hn.1 hy)).2 (hs y (zq3 _ hy))
  have hx := hs x zq2;rw [List.length_erase_of_mem hx] at h1;have := List.length_pos_of_mem hx;rw [length_cons]; omega
theorem aPt {nm : Str} {body : Ty} {ps : List (Str × Ty)} (h : (ps.map (·.1)).Nodup) : ((unF nm body ps).map (·.1)).Nodup := List.Sublist.nodup ((List.filter_sublist (l := ps)).map _) h
theorem gV {nm : Str} {body : Ty} {ps : List (Str × Ty)} {p : Str × Ty} : p ∈ unF nm body ps ↔ p ∈ ps ∧ ¬ p.1 = nm ∧ p.1 ∈ tfR body := by
 unfold unF;rw [mem_filter, Bool.and_eq_true];simp
theorem aAh {nm : Str} {body : Ty} {ps : List (Str × Ty)} (h : (ps.map (·.1)).Nodup) : (unF nm body ps).length ≤ (tfR body).length := by
 have := iJ _ (tfR body) (aPt (nm := nm) (body := body) h) fun x hx => by
  obtain ⟨p, hp, rfl⟩ := mem_map.1 hx;exact (gV.1 hp).2.2
 rwa [length_map] at this
theorem p9 : ∀ {l : List (Str × Ty)}, (∀ p ∈ l, fvm p.2 ≤ 700000) → (unC l).length ≤ l.length * 700000
 | [], _ => by simp [unC]
 | p :: l, h => by
  have h1 := p9 (l := l) fun q hq => h q (zq3 _ hq)
  have h2 := h p zq2;have h3 := nA p.2;unfold unC at h1 ⊢;rw [flatMap_cons, length_append, length_cons, succ_mul];omega
theorem aKg {n : Int} {z : Str} : fvm (.mk 2 n z []) = 1 := by
 rw [fvm, tfR, if_pos rfl, aKf]; rfl
theorem aG1 {n : Int} {z : Str} : wfS (.mk 2 n z []) = true := by
 rw [wfS, if_neg (by decide), if_neg (by decide), aAg]; rfl
theorem PsOk.un {ps : List (Str × Ty)} (h : PsOk ps) (nm : Str) (body : Ty) (hb : fvm body ≤ 700000) : PsOk (unP nm body ps) := by
 have h1 := aPt (nm := nm) (body := body) h.nd;have h2 := aAh (nm := nm) (body := body) h.nd;have h3 := nA body;have h4 : ∀ p ∈ unF nm body ps, wfS p.2 = true ∧ fvm p.2 ≤ 700000 := fun p hp => h.ok p (gV.1 hp).1
 unfold unP;split
 ·refine ⟨?_, fun p hp => ?_, by rw [length_append]; show _ + 1 ≤ _; omega⟩
  ·rw [map_append, nodup_append];refine ⟨h1, by simp, fun x hx y hy => ?_⟩;have hy : y = nm := by simpa using hy
   obtain ⟨p, hp, rfl⟩ := mem_map.1 hx;rw [hy];exact (gV.1 hp).2.1
  ·rcases mem_append.1 hp with hp | hp
   ·exact h4 p hp
   ·rw [mem_singleton.1 hp];exact ⟨aG1, by show fvm (.mk 2 0 _ []) ≤ _; rw [aKg]; decide⟩
 ·exact ⟨h1, h4, by omega⟩
theorem aRb (hI : eD 540000000000) : ∀ (k : Nat) (t : Ty), tn t ≤ k → wfS t = true → fvm t ≤ 700000 → ∀ ps, PsOk ps → wfS (mB t ps) = true ∧ aY Tryz.prog 65 [tyV t, bN (ps.map (·.1)), aUn (ps.map (·.2))] [] (tyV (mB t ps)) [] := by
 intro k
 induction k with
 | zero => intro t h; have := lU t; omega
 | succ k ih =>
 intro t h hw hf ps hps;obtain ⟨f, n, s, a⟩ := t;have hown := wG (tn (.mk f n s a)) (.mk f n s a) (le_refl _) hw;obtain ⟨_, hwa, w4, w5, w0⟩ := qA hw;have hfa : ∀ u ∈ a, fvm u ≤ 700000 := fun u hu => le_trans (w7 hu) hf
 rw [tn] at h;rw [mB];by_cases h2 : f = 2
 ·subst h2;rw [if_pos rfl];have hix := aBy (ps.map (·.1)) s (by rw [length_map]; have := hps.len; omega);rcases tC s (ps.map (·.1)) 0 with ⟨i, e1, e2⟩ | ⟨e1, e2⟩
  ·rw [List.getElem?_map] at e2;obtain ⟨⟨s', u⟩, hu, e3⟩ := Option.map_eq_some_iff.1 e2;have e3 : s' = s := e3;subst e3;have hm := zq7 hu;have hu' : ((ps.map (·.2)).map cG)[i]? = some (cG u) := cE cG (by rw [List.getElem?_map, hu]; rfl);obtain ⟨g2, g3⟩ := hps.ok _ hm;have ho := wG (tn u) u (le_refl _) g2;rw [e1, Int.zero_add] at hix;rw [aKm hps.nd hm];refine ⟨g2, ?_⟩;dsimp only;refine c8 (n := 48) tok Tryz.func65 rfl rfl rfl ?_;refine a8 (ag [] rfl ?_);refine a8 (a8 (ag [] rfl ?_));refine aC (a8 (ag [] rfl ?_));refine aB rfl (fun _ => ?_) (fun hb => by cases hb);refine a8 (aF mixed ?_);refine ak 3 [] rfl ?_;refine kc hix ?_;refine ak 1 [] rfl ?_;refine az ?_;refine a8 (ag [] rfl ?_);refine aB rfl (fun _ => ?_) (fun hb => absurd (zq1 hb) (by omega));refine a8 (aF mixed ?_);refine ak 4 [(2, .row i (cG u))] rfl ?_;refine kc ho ?_;refine ak 1 [] rfl ?_;refine az ?_;exact aE (rtC trw)
  ·rw [e2] at hix;rw [nD e1];refine ⟨hw, ?_⟩;dsimp only;refine c8 (n := 48) tok Tryz.func65 rfl rfl rfl ?_;refine a8 (ag [] rfl ?_);refine a8 (a8 (ag [] rfl ?_));refine aC (a8 (ag [] rfl ?_));refine aB rfl (fun _ => ?_) (fun hb => by cases hb);refine a8 (aF mixed ?_);refine ak 3 [] rfl ?_;refine kc hix ?_;refine ak 1 [] rfl ?_;refine az ?_;refine a8 (ag [] rfl ?_);refine aB rfl (fun hb => absurd (zq0 hb) (by omega)) (fun _ => ?_);refine aD ?_;refine a8 (aF mixed ?_);refine ak 1 [] rfl ?_;refine kc hown ?_;refine ak 1 [] rfl ?_;refine az ?_;exact aE (rtC trw)
 rw [if_neg h2];by_cases h4 : f = 4
 ·subst h4;obtain ⟨rfl, rfl, u, v, rfl⟩ := w4 rfl;rw [tns, tns, tns] at h;obtain ⟨a1, a4⟩ := ih u (by omega) (hwa u (by simp)) (hfa u (by simp)) ps hps;obtain ⟨b1, b4⟩ := ih v (by omega) (hwa v (by simp)) (hfa v (by simp)) ps hps;rw [if_pos rfl, fQ, fQ, fQ];have cA := aOt (mB u ps) (mB v ps);generalize mB u ps = u' at *;generalize mB v ps = v' at *;have cA : aY Tryz.prog 127 [tyV u', tyV v'] [] (tyV (.mk 4 0 [] [u', v'])) [] := cA;refine ⟨?_, ?_⟩
  ·rw [wfS, if_pos rfl, aAg, aAg, aAg, a1, b1]; rfl
  ·refine c8 (n := 48) tok Tryz.func65 rfl rfl rfl ?_;refine a8 (ag [] rfl ?_);refine a8 (a8 (ag [] rfl ?_));refine aC (a8 (ag [] rfl ?_));refine aB rfl (fun hb => by cases hb) (fun _ => ?_);refine a8 (ag [] rfl ?_);refine aB rfl (fun _ => ?_) (fun hb => by cases hb);refine a8 (aF mixed ?_);refine ak 6 [(2, .row 0 (cG u))] rfl ?_;refine kc a4 ?_;refine ak 6 [(9, .row 1 (cG v))] rfl ?_;refine kc b4 ?_;refine kc cA ?_;refine ak 1 [] rfl ?_;refine az ?_;exact aE (rtC trw)
 rw [if_neg h4];by_cases h5 : f = 5
 ·subst h5;obtain ⟨rfl, body, rfl⟩ := w5 rfl;rw [tns, tns] at h;have hwb := hwa body (by simp);have hfb := hfa body (by simp);have hP := hps.un s body hfb;obtain ⟨a1, a4⟩ := ih body (by omega) hwb hfb (unP s body ps) hP;rw [if_pos rfl];show wfS (.mk 5 0 (unN s body ps) (fQ [body] (unP s body ps))) = true ∧ aY Tryz.prog _ _ _ (tyV (.mk 5 0 (unN s body ps) (fQ [body] (unP s body ps)))) _;rw [fQ, fQ];have hall := aTq (unN s body ps) (mB body (unP s body ps)) (wG _ _ (le_refl _) a1);have hfl := nA body;have hCl : ∀ l : List (Str × Ty), (∀ p ∈ l, p ∈ ps) → l.length ≤ ps.length → (unC (unF s body l)).length ≤ 540000000000 := fun l h1 h2 => by
   have h3 := p9 (l := unF s body l) fun p hp => (hps.ok p (h1 p (gV.1 hp).1)).2
   have h4 : (unF s body l).length ≤ l.length := List.length_filter_le _ _;have h5 := hps.len;have h6 : (unF s body l).length * 700000 ≤ (700000 + 1) * 700000 := mul_le_mul_right _ (by omega);have h7 : (700000 + 1) * 700000 ≤ 540000000000 := by decide
   omega
  have hC1 := hCl ps (fun p hp => hp) (le_refl _);have hU : (unC (unF s body ps)).length + (tfR body).length ≤ 540000000000 := by
   have h3 := p9 (l := unF s body ps) fun p hp => (hps.ok p (gV.1 hp).1).2
   have h4 := aAh (nm := s) (body := body) hps.nd;have h6 : (unF s body ps).length * 700000 ≤ 700000 * 700000 := mul_le_mul_right _ (by omega);have h7 : 700000 * 700000 = 490000000000 := by decide
   omega
  have cU := aOr s body (mB body (unP s body ps)) ps (by have := hps.len; omega) (nN _ body (le_refl _) hwb (le_trans hfb (by decide))) (by omega) hall
   (fun p hp => ⟨nN _ p.2 (le_refl _) (hps.ok p hp).1 (le_trans (hps.ok p hp).2 (by decide)), le_trans (nA p.2) (le_trans (hps.ok p hp).2 (by decide))⟩)
   ⟨hC1, fun i => hCl (ps.take i) (fun p hp => mem_of_mem_take hp) (by rw [length_take]; omega)⟩ (fun k hk => hI k (by omega)) a4
  generalize mB body (unP s body ps) = b' at *;generalize unN s body ps = N at *;refine ⟨?_, ?_⟩
  ·rw [wfS, if_neg (by decide), if_pos rfl, aAg, aAg, a1]; rfl
  ·refine c8 (n := 48) tok Tryz.func65 rfl rfl rfl ?_;refine a8 (ag [] rfl ?_);refine a8 (a8 (ag [] rfl ?_));refine aC (a8 (ag [] rfl ?_));refine aB rfl (fun hb => by cases hb) (fun _ => ?_);refine a8 (ag [] rfl ?_);refine aB rfl (fun hb => by cases hb) (fun _ => ?_);refine a8 (ag [] rfl ?_);refine aB rfl (fun _ => ?_) (fun hb => by cases hb);refine a8 (aF mixed ?_);refine ak 3 [] rfl ?_;refine kc cU ?_;refine ak 1 [] rfl ?_;refine az ?_;exact aE (rtC trw)
 rw [if_neg h5];refine ⟨hw, ?_⟩;refine c8 (n := 48) tok Tryz.func65 rfl rfl rfl ?_;refine a8 (ag [] rfl ?_);refine a8 (a8 (ag [] rfl ?_));refine aC (a8 (ag [] rfl ?_));refine aB rfl (fun hb => absurd (zq0 hb) h2) (fun _ => ?_);refine a8 (ag [] rfl ?_);refine aB rfl (fun hb => absurd (zq0 hb) h4) (fun _ => ?_);refine a8 (ag [] rfl ?_);refine aB rfl (fun hb => absurd (zq0 hb) h5) (fun _ => ?_);refine aD ?_;refine a8 (aF mixed ?_);refine ak 1 [] rfl ?_;refine kc hown ?_;refine ak 1 [] rfl ?_;refine az ?_;exact aE (rtC trw)
theorem aMq {nm : Str} {body : Ty} {ps : List (Str × Ty)} (h : ∀ p ∈ ps, p.1 ∈ tfR body → p.1 = nm) : unN nm body ps = nm ∧ unP nm body ps = [] := by
 have hF : unF nm body ps = [] := by
  unfold unF;rw [List.filter_eq_nil_iff];intro p hp hb;rw [Bool.and_eq_true] at hb;have h1 : ¬ p.1 = nm := by simpa using hb.1
  exact h1 (h p hp (zq0 hb.2))
 have hC : unC (unF nm body ps) = [] := by rw [hF]; rfl
 exact ⟨by unfold unN; rw [hC, if_neg (by simp)], by unfold unP; rw [hC, if_neg (by simp), hF]⟩
theorem aHk : ∀ (k : Nat) (t : Ty), tn t ≤ k → wfS t = true → ∀ ps : List (Str × Ty), (∀ p ∈ ps, ¬ p.1 ∈ tfR t) → mB t ps = t := by
 intro k
 induction k with
 | zero => intro t h; have := lU t; omega
 | succ k ih =>
 intro t h hw ps hp;obtain ⟨f, n, s, a⟩ := t;obtain ⟨_, hwa, w4, w5, w0⟩ := qA hw;rw [tn] at h;rw [mB];by_cases h2 : f = 2
 ·subst h2
  rw [if_pos rfl, nD fun hs => by
   obtain ⟨p, hp1, e⟩ := mem_map.1 hs
   exact hp p hp1 (by rw [tfR, if_pos rfl, e]; simp)]
 rw [if_neg h2];by_cases h4 : f = 4
 ·subst h4;obtain ⟨rfl, rfl, u, v, rfl⟩ := w4 rfl;rw [tns, tns, tns] at h;rw [if_pos rfl, fQ, fQ, fQ, ih u (by omega) (hwa u (by simp)) ps fun p hp1 hx => hp p hp1 (aR6 hx), ih v (by omega) (hwa v (by simp)) ps fun p hp1 hx => hp p hp1 (aR5 hx)]
 rw [if_neg h4];by_cases h5 : f = 5
 ·subst h5;obtain ⟨rfl, body, rfl⟩ := w5 rfl;rw [tns, tns] at h;obtain ⟨e1, e2⟩ := aMq (nm := s) (body := body) (ps := ps) fun p hp1 hx => Classical.byContradiction fun hne => hp p hp1 (aVi hx hne)
  rw [if_pos rfl];show Ty.mk 5 0 (unN s body ps) (fQ [body] (unP s body ps)) = _;rw [e1, e2, fQ, fQ, ih body (by omega) (hwa body (by simp)) [] fun p hp1 => by cases hp1]
 rw [if_neg h5]
theorem aXm (hI : eD 540000000000) (t : Ty) (hw : wfS t = true) (hf : fvm t ≤ 700000) : aY Tryz.prog 116 [tyV t] [] (tyV t) [] := by
 have h4 := (aRb hI (tn t) t (le_refl _) hw hf [] ⟨by simp, fun p hp => (by cases hp), by simp⟩).2
 rw [aHk (tn t) t (le_refl _) hw [] fun p hp => by cases hp] at h4;refine c8 (n := 5) tok Tryz.func116 rfl rfl rfl ?_;refine a8 (ag [] rfl ?_);refine a8 (aF mixed ?_);refine ak 1 [] rfl ?_;refine kc h4 ?_;refine ak 1 [] rfl ?_;refine az ?_;exact aE (rtC trw)
theorem aHs {f : Int} {s : Str} {o : List Str} {x y : Str} (h : y ∈ gH f s o x) : y ∈ o ∨ (y = x ∧ (¬ f = 5 ∨ ¬ x = s)) := by
 unfold gH at h;split at h
 ·rename_i hx;rcases mem_append.1 h with h | h
  ·exact .inl h
  ·exact .inr ⟨mem_singleton.1 h, hx.2⟩
 ·exact .inl h
theorem aDf {f : Int} {s : Str} : ∀ {l o : List Str} {y : Str}, y ∈ rZ f s o l → y ∈ o ∨ (y ∈ l ∧ (¬ f = 5 ∨ ¬ y = s))
 | [], _, _, h => .inl h
 | x :: l, o, y, h => by
  rcases aDf (l := l) (o := gH f s o x) h with h | ⟨h, hs⟩
  ·rcases aHs h with h | ⟨rfl, hs⟩
   ·exact .inl h
   ·exact .inr ⟨zq2, hs⟩
  ·exact .inr ⟨zq3 _ h, hs⟩
theorem aDe {f : Int} {s : Str} : ∀ {l : List Ty} {o : List Str} {y : Str}, y ∈ nY f s l o → y ∈ o ∨ ∃ u ∈ l, y ∈ tfR u ∧ (¬ f = 5 ∨ ¬ y = s)
 | [], o, y, h => by rw [nY] at h; exact .inl h
 | t :: l, o, y, h => by
  rw [nY] at h;rcases aDe h with h | ⟨u, hu, h⟩
  ·rcases aDf h with h | ⟨h, hs⟩
   ·exact .inl h
   ·exact .inr ⟨t, zq2, h, hs⟩
  ·exact .inr ⟨u, zq3 _ hu, h⟩
theorem aDc {f : Int} {s : Str} : ∀ {l : List Ty} {o : List Str} {y : Str}, y ∈ o → y ∈ nY f s l o
 | [], o, y, h => by rw [nY]; exact h
 | t :: l, o, y, h => by rw [nY]; exact aDc (pB h)
theorem aDd {f : Int} {s : Str} : ∀ {l : List Ty} {o : List Str} {u : Ty} {y : Str}, u ∈ l → y ∈ tfR u → (¬ f = 5 ∨ ¬ y = s) → y ∈ nY f s l o
 | t :: l, o, u, y, h, hy, hs => by
  rw [nY];rcases mem_cons.1 h with rfl | h
  ·exact aDc (mR hy hs)
  ·exact aDd h hy hs
theorem rY {f n : Int} {s : Str} {a : List Ty} {y : Str} (h2 : ¬ f = 2) (h : y ∈ tfR (.mk f n s a)) : ∃ u ∈ a, y ∈ tfR u ∧ (¬ f = 5 ∨ ¬ y = s) := by
 rw [tfR, if_neg h2] at h;rcases aDe h with h | h
 ·cases h
 ·exact h
theorem qB {f n : Int} {s : Str} {a : List Ty} {u : Ty} {y : Str} (h2 : ¬ f = 2) (hu : u ∈ a) (hy : y ∈ tfR u) (hs : ¬ f = 5 ∨ ¬ y = s) : y ∈ tfR (.mk f n s a) := by
 rw [tfR, if_neg h2];exact aDd hu hy hs
theorem aMy {f : Int} {s : Str} {o : List Str} {x : Str} (h : o.Nodup) : (gH f s o x).Nodup := by
 unfold gH; split
 ·rename_i hx;rw [nodup_append];exact ⟨h, by simp, fun a ha b hb e => by rw [mem_singleton.1 hb] at e; subst e; exact hx.1 ha⟩
 ·exact h
theorem aHv {f : Int} {s : Str} : ∀ {l o : List Str}, o.Nodup → (rZ f s o l).Nodup
 | [], _, h => h
 | x :: l, o, h => aHv (l := l) (o := gH f s o x) (aMy h)
theorem aHp {f : Int} {s : Str} : ∀ {l : List Ty} {o : List Str}, o.Nodup → (nY f s l o).Nodup
 | [], o, h => by rw [nY]; exact h
 | t :: l, o, h => by rw [nY]; exact aHp (aHv h)
theorem aHn (t : Ty) : (tfR t).Nodup := by
 obtain ⟨f, n, s, a⟩ := t;rw [tfR]; split
 ·simp
 ·exact aHp nodup_nil
theorem fV (l : List Str) : ¬ aZ l ∈ l := o9 l
theorem aR2 {l : List (Str × Ty)} {x : Str} : x ∈ unC l ↔ ∃ p ∈ l, x ∈ tfR p.2 := by
 unfold unC; rw [mem_flatMap]
theorem aR3 : ∀ (k : Nat) (t : Ty), tn t ≤ k → wfS t = true → ∀ (ps : List (Str × Ty)) (x : Str), x ∈ tfR (mB t ps) → (x ∈ tfR t ∧ ¬ x ∈ ps.map (·.1)) ∨ ∃ p ∈ ps, p.1 ∈ tfR t ∧ x ∈ tfR p.2 := by
 intro k
 induction k with
 | zero => intro t h; have := lU t; omega
 | succ k ih =>
 intro t h hw ps x hx;obtain ⟨f, n, s, a⟩ := t;obtain ⟨_, hwa, w4, w5, w0⟩ := qA hw;rw [tn] at h;rw [mB] at hx;by_cases h2 : f = 2
 ·subst h2;rw [if_pos rfl] at hx;have hs : s ∈ tfR (.mk 2 n s a) := by rw [tfR, if_pos rfl]; simp
  cases hfd : ps.find? (fun p => decide (p.1 = s)) with
  | some p =>
   rw [hfd] at hx;have h1 : p.1 = s := by simpa using List.find?_some hfd
   exact .inr ⟨p, List.mem_of_find?_eq_some hfd, by rw [h1]; exact hs, hx⟩
  | none =>
   rw [hfd] at hx;refine .inl ⟨hx, fun hm => ?_⟩;have hxs : x = s := by
    have hx : x ∈ tfR (.mk 2 n s a) := hx;rw [tfR, if_pos rfl] at hx; simpa using hx
   obtain ⟨p, hp, e⟩ := mem_map.1 hm;have := List.find?_eq_none.1 hfd p hp;rw [e, hxs] at this;simp at this
 rw [if_neg h2] at hx;by_cases h4 : f = 4
 ·subst h4;obtain ⟨rfl, rfl, u, v, rfl⟩ := w4 rfl;rw [tns, tns, tns] at h;rw [if_pos rfl, fQ, fQ, fQ] at hx;obtain ⟨w, hw', hxw, _⟩ := rY (by decide) hx;have key : ∀ u', u' ∈ [u, v] → x ∈ tfR (mB u' ps) → tn u' ≤ k → (x ∈ tfR (.mk 4 0 [] [u, v]) ∧ ¬ x ∈ ps.map (·.1)) ∨ ∃ p ∈ ps, p.1 ∈ tfR (.mk 4 0 [] [u, v]) ∧ x ∈ tfR p.2 := fun u' hu' hxu hk => by
   rcases ih u' hk (hwa u' hu') ps x hxu with ⟨h1, h2⟩ | ⟨p, hp, h1, h2⟩
   ·exact .inl ⟨qB (by decide) hu' h1 (.inl (by decide)), h2⟩
   ·exact .inr ⟨p, hp, qB (by decide) hu' h1 (.inl (by decide)), h2⟩
  rcases mem_cons.1 hw' with rfl | hw'
  ·exact key u (by simp) hxw (by omega)
  ·rw [mem_singleton.1 hw'] at hxw;exact key v (by simp) hxw (by omega)
 rw [if_neg h4] at hx;by_cases h5 : f = 5
 ·subst h5;obtain ⟨rfl, body, rfl⟩ := w5 rfl;rw [tns, tns] at h;rw [if_pos rfl] at hx;have hx : x ∈ tfR (.mk 5 0 (unN s body ps) (fQ [body] (unP s body ps))) := hx;rw [fQ, fQ] at hx;obtain ⟨w, hw', hxw, hne⟩ := rY (by decide) hx;rw [mem_singleton.1 hw'] at hxw;have hne : ¬ x = unN s body ps := hne.resolve_left (fun h => h rfl);by_cases hc : s ∈ unC (unF s body ps)
  ·have eN : unN s body ps = aZ (unC (unF s body ps) ++ tfR body) := by unfold unN; rw [if_pos hc]
   have eP : unP s body ps = unF s body ps ++ [(s, .mk 2 0 (unN s body ps) [])] := by unfold unP; rw [if_pos hc]
   rcases ih body (by omega) (hwa body (by simp)) (unP s body ps) x hxw with ⟨h1, h2⟩ | ⟨p, hp, h1, h2⟩
   ·rw [eP] at h2;have hxs : ¬ x = s := fun e => h2 (by rw [e]; simp)
    refine .inl ⟨qB (by decide) zq2 h1 (.inr hxs), fun hm => h2 ?_⟩;obtain ⟨p, hp, e⟩ := mem_map.1 hm;rw [map_append];exact mem_append.2 (.inl (mem_map.2 ⟨p, gV.2 ⟨hp, by rw [e]; exact hxs, by rw [e]; exact h1⟩, e⟩))
   ·rw [eP] at hp;rcases mem_append.1 hp with hp | hp
    ·obtain ⟨g1, g2, g3⟩ := gV.1 hp;exact .inr ⟨p, g1, qB (by decide) zq2 g3 (.inr g2), h2⟩
    ·rw [mem_singleton.1 hp] at h2;have h2 : x ∈ tfR (.mk 2 0 (unN s body ps) []) := h2;rw [tfR, if_pos rfl] at h2;exact absurd (mem_singleton.1 h2) hne
  ·have eN : unN s body ps = s := by unfold unN; rw [if_neg hc]
   have eP : unP s body ps = unF s body ps := by unfold unP; rw [if_neg hc]
   rw [eN] at hne;rcases ih body (by omega) (hwa body (by simp)) (unP s body ps) x hxw with ⟨h1, h2⟩ | ⟨p, hp, h1, h2⟩
   ·rw [eP] at h2;refine .inl ⟨qB (by decide) zq2 h1 (.inr hne), fun hm => h2 ?_⟩;obtain ⟨p, hp, e⟩ := mem_map.1 hm;exact mem_map.2 ⟨p, gV.2 ⟨hp, by rw [e]; exact hne, by rw [e]; exact h1⟩, e⟩
   ·rw [eP] at hp;obtain ⟨g1, g2, g3⟩ := gV.1 hp;exact .inr ⟨p, g1, qB (by decide) zq2 g3 (.inr g2), h2⟩
 rw [if_neg h5] at hx;rw [w0 h4 h5] at hx;obtain ⟨u, hu, _⟩ := rY h2 hx;cases hu
structure Alg where
 z : Nat
 j : Nat → Nat → Nat
 u : Str → Nat → Nat
 b : Str → Nat → Nat
 jm : ∀ {x x' y y' : Nat}, x ≤ x' → y ≤ y' → j x y ≤ j x' y'
 um : ∀ {s : Str} {x x' : Nat}, x ≤ x' → u s x ≤ u s x'
 bm : ∀ {s : Str} {x x' : Nat}, x ≤ x' → b s x ≤ b s x'
 ul : ∀ {s s' : Str} {x : Nat}, s.length ≤ 30 → u s x ≤ u s' x
def fJ (ρ : Str → Nat) (s : Str) (v : Nat) : Str → Nat := fun x => if x = s then v else ρ x
mutual
def tW (A : Alg) : Ty → (Str → Nat) → Nat
 | .mk f _ s a, ρ => if f = 2 then ρ s else if f = 5 then A.u s (tWs A a (fJ ρ s A.z)) else A.b s (tWs A a ρ)
def tWs (A : Alg) : List Ty → (Str → Nat) → Nat
 | [], _ => 0
 | t :: l, ρ => A.j (tW A t ρ) (tWs A l ρ)
end
theorem qE {A : Alg} : ∀ {l : List Ty} {ρ ρ' : Str → Nat}, (∀ u ∈ l, tW A u ρ = tW A u ρ') → tWs A l ρ = tWs A l ρ'
 | [], _, _, _ => by rw [tWs, tWs]
 | t :: l, ρ, ρ', h => by rw [tWs, tWs, h t zq2, qE fun u hu => h u (zq3 _ hu)]
theorem gP {A : Alg} : ∀ (k : Nat) (t : Ty), tn t ≤ k → ∀ {ρ ρ' : Str → Nat}, (∀ x ∈ tfR t, ρ x = ρ' x) → tW A t ρ = tW A t ρ'
 | 0, t, h, _, _, _ => by have := lU t; omega
 | k + 1, .mk f n s a, h, ρ, ρ', hx => by
  rw [tn] at h;rw [tW, tW];by_cases h2 : f = 2
  ·rw [if_pos h2, if_pos h2];exact hx s (by rw [tfR, if_pos h2]; simp)
  rw [if_neg h2, if_neg h2];by_cases h5 : f = 5
  ·rw [if_pos h5, if_pos h5, qE fun u hu => gP k u (by have := mC hu; omega) fun x hxu => ?_];unfold fJ;by_cases e : x = s
   ·rw [if_pos e, if_pos e]
   ·rw [if_neg e, if_neg e]; exact hx x (qB h2 hu hxu (.inr e))
  ·rw [if_neg h5, if_neg h5, qE fun u hu => gP k u (by have := mC hu; omega) fun x hxu => hx x (qB h2 hu hxu (.inl h5))]
mutual
theorem aAr {A : Alg} : ∀ (t : Ty) {ρ ρ' : Str → Nat}, (∀ x, ρ x ≤ ρ' x) → tW A t ρ ≤ tW A t ρ'
 | .mk f n s a, ρ, ρ', h => by
  rw [tW, tW];split
  ·exact h s
  ·split
   ·refine A.um (uH a fun x => ?_);unfold fJ; split
    ·exact le_refl _
    ·exact h x
   ·exact A.bm (uH a h)
theorem uH {A : Alg} : ∀ (l : List Ty) {ρ ρ' : Str → Nat}, (∀ x, ρ x ≤ ρ' x) → tWs A l ρ ≤ tWs A l ρ'
 | [], _, _, _ => by rw [tWs]; exact zero_le _
 | t :: l, ρ, ρ', h => by rw [tWs, tWs]; exact A.jm (aAr t h) (uH l h)
end
def aId (A : Alg) (ρ : Str → Nat) (ps : List (Str × Ty)) : Str → Nat := fun x => match ps.find? (fun p => decide (p.1 = x)) with | some p => tW A p.2 ρ | none => ρ x
theorem r9 {nm : Str} {body : Ty} {x : Str} (hx : ¬ x = nm) (hb : x ∈ tfR body) : ∀ ps : List (Str × Ty), (unF nm body ps).find? (fun p => decide (p.1 = x)) = ps.find? (fun p => decide (p.1 = x))
 | [] => rfl
 | p :: ps => by
  have ih := r9 hx hb ps;by_cases e : p.1 = x
  ·have hk : (!decide (p.1 = nm) && decide (p.1 ∈ tfR body)) = true := by rw [e, decide_eq_false hx, decide_eq_true hb]; rfl
   unfold unF;rw [List.filter_cons_of_pos (p := fun p : Str × Ty => !decide (p.1 = nm) && decide (p.1 ∈ tfR body)) hk, List.find?_cons_of_pos (by simpa using e), List.find?_cons_of_pos (by simpa using e)]
  ·rw [List.find?_cons_of_neg (by simpa using e), ← ih];unfold unF;rw [filter_cons];split
   ·rw [List.find?_cons_of_neg (by simpa using e)]
   ·rfl
theorem mK (l : List Str) (h : l.length ≤ 540000000000) : (aZ l).length ≤ 30 := le_trans (j5 l h) (by decide)
theorem PsOk.unl {ps : List (Str × Ty)} (h : PsOk ps) {nm : Str} {body : Ty} (hb : fvm body ≤ 700000) : (unC (unF nm body ps) ++ tfR body).length ≤ 540000000000 := by
 have h3 := p9 (l := unF nm body ps) fun p hp => (h.ok p (gV.1 hp).1).2
 have h4 := aAh (nm := nm) (body := body) h.nd;have h5 := nA body;have h6 : (unF nm body ps).length * 700000 ≤ 700000 * 700000 := mul_le_mul_right _ (by omega);rw [length_append];omega
theorem aVc (A : Alg) : ∀ (k : Nat) (t : Ty), tn t ≤ k → wfS t = true → fvm t ≤ 700000 → ∀ (ps : List (Str × Ty)), PsOk ps → ∀ ρ, tW A (mB t ps) ρ ≤ tW A t (aId A ρ ps) := by
 intro k
 induction k with
 | zero => intro t h; have := lU t; omega
 | succ k ih =>
 intro t h hw hf ps hps ρ;obtain ⟨f, n, s, a⟩ := t;obtain ⟨_, hwa, w4, w5, w0⟩ := qA hw;have hfa : ∀ u ∈ a, fvm u ≤ 700000 := fun u hu => le_trans (w7 hu) hf
 rw [tn] at h;rw [mB];by_cases h2 : f = 2
 ·subst h2;rw [if_pos rfl, tW, if_pos rfl];unfold aId;cases ps.find? (fun p => decide (p.1 = s)) with
  | some p => exact le_refl _
  | none =>
   show tW A (.mk 2 n s a) ρ ≤ _;rw [tW, if_pos rfl];exact le_refl _
 rw [if_neg h2];by_cases h4 : f = 4
 ·subst h4;obtain ⟨rfl, rfl, u, v, rfl⟩ := w4 rfl;rw [tns, tns, tns] at h;rw [if_pos rfl, fQ, fQ, fQ, tW, if_neg (by decide), if_neg (by decide), tW, if_neg (by decide), if_neg (by decide), tWs, tWs, tWs, tWs, tWs, tWs];exact A.bm (A.jm (ih u (by omega) (hwa u (by simp)) (hfa u (by simp)) ps hps ρ) (A.jm (ih v (by omega) (hwa v (by simp)) (hfa v (by simp)) ps hps ρ) (le_refl _)))
 rw [if_neg h4];by_cases h5 : f = 5
 ·subst h5;obtain ⟨rfl, body, rfl⟩ := w5 rfl;rw [tns, tns] at h;have hfb := hfa body (by simp);rw [if_pos rfl];show tW A (.mk 5 0 (unN s body ps) (fQ [body] (unP s body ps))) ρ ≤ _;rw [fQ, fQ, tW, if_neg (by decide), if_pos rfl, tW, if_neg (by decide), if_pos rfl, tWs, tWs, tWs, tWs];have hi := ih body (by omega) (hwa body (by simp)) hfb (unP s body ps) (hps.un s body hfb) (fJ ρ (unN s body ps) A.z);have hcg : tW A body (aId A (fJ ρ (unN s body ps) A.z) (unP s body ps)) = tW A body (fJ (aId A ρ ps) s A.z) := by
   refine gP (tn body) body (le_refl _) fun x hx => ?_
   have hout : ∀ p ∈ unF s body ps, ¬ unN s body ps ∈ tfR p.2 := fun p hp hin => by
    have hm : unN s body ps ∈ unC (unF s body ps) := aR2.2 ⟨p, hp, hin⟩;unfold unN at hm;split at hm
    ·exact fV _ (mem_append.2 (.inl hm))
    ·rename_i hc; exact hc hm
   have hsame : ∀ p ∈ unF s body ps, tW A p.2 (fJ ρ (unN s body ps) A.z) = tW A p.2 ρ := fun p hp => gP (tn p.2) p.2 (le_refl _) fun y hy => by
    unfold fJ;rw [if_neg fun e => hout p hp (by rw [← e]; exact hy)]
   by_cases hxs : x = s
   ·subst hxs;have e2 : fJ (aId A ρ ps) x A.z x = A.z := by unfold fJ; rw [if_pos rfl]
    rw [e2];have hno : ¬ x ∈ (unF x body ps).map (·.1) := fun hm => by
     obtain ⟨p, hp, e⟩ := mem_map.1 hm;exact (gV.1 hp).2.1 e
    unfold aId;by_cases hc : x ∈ unC (unF x body ps)
    ·have eP : unP x body ps = unF x body ps ++ [(x, .mk 2 0 (unN x body ps) [])] := by unfold unP; rw [if_pos hc]
     rw [eP, List.find?_append, nD hno];show (match (none : Option (Str × Ty)).or ([(x, Ty.mk 2 0 (unN x body ps) [])].find? fun p => decide (p.1 = x)) with | some p => tW A p.2 (fJ ρ (unN x body ps) A.z) | none => fJ ρ (unN x body ps) A.z x) = A.z;rw [List.find?_cons_of_pos (by simp)];show tW A (.mk 2 0 (unN x body ps) []) (fJ ρ (unN x body ps) A.z) = A.z;rw [tW, if_pos rfl];unfold fJ;rw [if_pos rfl]
    ·have eP : unP x body ps = unF x body ps := by unfold unP; rw [if_neg hc]
     have eN : unN x body ps = x := by unfold unN; rw [if_neg hc]
     rw [eP, nD hno, eN];unfold fJ;rw [if_pos rfl]
   ·have e2 : fJ (aId A ρ ps) s A.z x = aId A ρ ps x := by unfold fJ; rw [if_neg hxs]
    rw [e2];have hff := r9 (nm := s) (body := body) hxs hx ps;have hfP : (unP s body ps).find? (fun p => decide (p.1 = x)) = ps.find? (fun p => decide (p.1 = x)) := by
     rw [← hff];unfold unP;split
     ·rw [List.find?_append, List.find?_cons_of_neg (by simpa using fun e => hxs e.symm)];cases (unF s body ps).find? (fun p => decide (p.1 = x)) <;> rfl
     ·rfl
    have hNx : ¬ x = unN s body ps := fun e => by
     unfold unN at e;split at e
     ·exact fV _ (mem_append.2 (.inr (by rw [← e]; exact hx)))
     ·exact hxs e
    unfold aId;rw [hfP];cases hfd : ps.find? (fun p => decide (p.1 = x)) with
    | some p =>
     have hp : p ∈ unF s body ps := List.mem_of_find?_eq_some (hff.trans hfd);exact hsame p hp
    | none =>
     show fJ ρ (unN s body ps) A.z x = ρ x;unfold fJ;rw [if_neg hNx]
  rw [hcg] at hi;have hN : A.u (unN s body ps) (A.j (tW A (mB body (unP s body ps)) (fJ ρ (unN s body ps) A.z)) 0) ≤ A.u s (A.j (tW A (mB body (unP s body ps)) (fJ ρ (unN s body ps) A.z)) 0) := by
   generalize A.j (tW A (mB body (unP s body ps)) (fJ ρ (unN s body ps) A.z)) 0 = y;unfold unN;split
   ·exact A.ul (mK _ (hps.unl hfb))
   ·exact le_refl _
  exact le_trans hN (A.um (A.jm hi (le_refl _)))
 rw [if_neg h5, tW, if_neg h2, if_neg h5, tW, if_neg h2, if_neg h5, w0 h4 h5, tWs, tWs];exact le_refl _
def j9 : Alg := ⟨0, max, fun _ x => 1 + x, fun _ x => x, fun h1 h2 => by omega, fun h => by omega, fun h => h, fun _ => le_refl _⟩
def r0 : Str → Nat := fun _ => 0
theorem aH5 (s : Str) : fJ r0 s 0 = r0 := by
 funext x; unfold fJ r0; split <;> rfl
theorem r7 : ∀ (k : Nat) (t : Ty), tn t ≤ k → wfS t = true → fvm t ≤ (tfR t).length + tW j9 t r0
 | 0, t, h, _ => by have := lU t; omega
 | k + 1, .mk f n s a, h, hw => by
  obtain ⟨_, hwa, w4, w5, w0⟩ := qA hw;rw [tn] at h;by_cases h4 : f = 4
  ·subst h4;obtain ⟨rfl, rfl, u, v, rfl⟩ := w4 rfl;rw [tns, tns, tns] at h;have h1 := r7 k u (by omega) (hwa u (by simp));have h2 := r7 k v (by omega) (hwa v (by simp));have e : tW j9 (.mk 4 0 [] [u, v]) r0 = max (tW j9 u r0) (max (tW j9 v r0) 0) := by rw [tW, if_neg (by decide), if_neg (by decide), tWs, tWs, tWs]; rfl
   have g1 := iJ _ _ (aHn u) fun x hx => qB (f := 4) (n := 0) (s := []) (a := [u, v]) (by decide) (by simp) hx (.inl (by decide))
   have g2 := iJ _ _ (aHn v) fun x hx => qB (f := 4) (n := 0) (s := []) (a := [u, v]) (by decide) (by simp) hx (.inl (by decide))
   rw [fvm, e, aKf, aKf, aKf];omega
  ·by_cases h5 : f = 5
   ·subst h5;obtain ⟨rfl, body, rfl⟩ := w5 rfl;rw [tns, tns] at h;have h1 := r7 k body (by omega) (hwa body (by simp));have e : tW j9 (.mk 5 0 s [body]) r0 = 1 + max (tW j9 body r0) 0 := by
     rw [tW, if_neg (by decide), if_pos rfl, tWs, tWs];show 1 + max (tW j9 body (fJ r0 s 0)) 0 = _;rw [aH5]
    have g1 := iJ _ (s :: tfR (.mk 5 0 s [body])) (aHn body) fun x hx => by
     by_cases hxs : x = s
     ·rw [hxs]; exact zq2
     ·exact zq3 _ (qB (by decide) (by simp) hx (.inr hxs))
    rw [length_cons] at g1;rw [fvm, e, aKf, aKf];omega
   ·rw [fvm, w0 h4 h5, aKf];omega
end Go.Proofs.YtmoekkcdkjopgaaGreatDoor
