/-
  Texts Lg23 to Ly11 in one.
-/
import Derived.Test.YtmoekkcdkjopgaaGreatDoorM10
open List (append_nil drop_left flatMap_append flatMap_cons flatMap_nil foldl_append length_append length_cons length_drop length_eq_one_iff length_eq_zero_iff length_map length_nil length_set length_take map_congr_left map_cons map_map map_nil map_set mem_append mem_cons mem_flatMap mem_map mem_of_mem_drop mem_of_mem_take mem_singleton nil_append nodup_nil not_mem_nil sum_cons sum_nil take_add_one take_left take_succ_cons)
open Nat (add_mul add_zero le_add_left le_max_left le_max_right le_mul_of_pos_right le_of_eq le_refl le_trans lt_of_le_of_lt max_le mul_le_mul_right mul_one zero_add zero_le)
namespace Go.Proofs.YtmoekkcdkjopgaaGreatDoor
open Go Go.AM
set_option maxRecDepth 20000
theorem aS1 {o : List Str} {x y : Str} (h : y ∈ o) : y ∈ qX o x := by
 unfold qX;split
 ·exact h
 ·exact mem_append.2 (.inl h)
theorem aNu {o : List Str} {x : Str} : x ∈ qX o x := by
 unfold qX;split
 ·assumption
 ·exact mem_append.2 (.inr (by simp))
theorem aWk {G o : List Str} {x y : Str} (h : y ∈ o) : y ∈ pfG G o x := by
 unfold pfG;split
 ·exact h
 ·exact aS1 h
theorem y3 {G : List Str} : ∀ {l o : List Str} {y : Str}, y ∈ o → y ∈ pfP G o l
 | [], _, _, h => h
 | x :: l, o, y, h => y3 (G := G) (l := l) (o := pfG G o x) (aWk h)
theorem qT {G : List Str} : ∀ {l o : List Str} {y : Str}, y ∈ l → ¬ y ∈ G → y ∈ pfP G o l
 | x :: l, o, y, h, hG => by
  rcases mem_cons.1 h with rfl | h
  ·refine y3 (G := G) (l := l) (o := pfG G o y) ?_;unfold pfG;rw [if_neg hG]; exact aNu
  ·exact qT (l := l) (o := pfG G o x) h hG
theorem aI3 {G : List Str} : ∀ {l : List Core} {o : List Str} {y : Str}, y ∈ o → y ∈ pH G l o
 | [], _, _, h => by rw [pH]; exact h
 | c :: l, o, y, h => by rw [pH]; exact aI3 (y3 h)
theorem vD {G : List Str} : ∀ {l : List Bind} {o : List Str} {y : Str}, y ∈ o → y ∈ rM G l o
 | [], _, _, h => by rw [rM]; exact h
 | .mk s t c :: l, o, y, h => by rw [rM]; exact vD (y3 h)
theorem vF : ∀ {l : List Alt} {o : List Str} {y : Str}, y ∈ o → y ∈ rR l o
 | [], _, _, h => by rw [rR]; exact h
 | .mk f n s vs c :: l, o, y, h => by rw [rR]; exact vF (y3 h)
theorem vA {G : List Str} : ∀ {l : List Core} {o : List Str} {y : Str} {c : Core}, c ∈ l → y ∈ pfR c → ¬ y ∈ G → y ∈ pH G l o
 | d :: l, o, y, c, h, hy, hG => by
  rw [pH];rcases mem_cons.1 h with rfl | h
  ·exact aI3 (qT hy hG)
  ·exact vA h hy hG
theorem vB {G : List Str} : ∀ {l : List Bind} {o : List Str} {y : Str} {c : Bind}, c ∈ l → y ∈ pfR c.body → ¬ y ∈ G → y ∈ rM G l o
 | .mk s t d :: l, o, y, c, h, hy, hG => by
  rw [rM];rcases mem_cons.1 h with rfl | h
  ·exact vD (qT hy hG)
  ·exact vB h hy hG
theorem vE : ∀ {l : List Alt} {o : List Str} {y : Str} {c : Alt}, c ∈ l → y ∈ pfR c.body → ¬ y ∈ c.vars → y ∈ rR l o
 | .mk f n s vs d :: l, o, y, c, h, hy, hG => by
  rw [rR];rcases mem_cons.1 h with rfl | h
  ·exact vF (qT hy hG)
  ·exact vE h hy hG
theorem aSt {f n : Int} {nm : Str} {t : Ty} {ks : List Core} {bs : List Bind} {al : List Alt} (hf : f ≠ 1) {y : Str} (h : y ∈ (ks ++ bs.map Bind.body).flatMap pfR) (hG : ¬ y ∈ gvN f nm bs) : y ∈ pfR (.mk f n nm t ks bs al) := by
 rw [pfR, if_neg hf];refine vF ?_;obtain ⟨c, hc, hy⟩ := mem_flatMap.1 h;rcases mem_append.1 hc with hc | hc
 ·exact vD (vA hc hy hG)
 ·obtain ⟨b, hb, rfl⟩ := mem_map.1 hc;exact vB hb hy hG
theorem aWj {f n : Int} {nm : Str} {t : Ty} {ks : List Core} {bs : List Bind} {al : List Alt} (hf : f ≠ 1) {a : Alt} (ha : a ∈ al) {y : Str} (h : y ∈ pfR a.body) (hG : ¬ y ∈ a.vars) : y ∈ pfR (.mk f n nm t ks bs al) := by
 rw [pfR, if_neg hf];exact vE ha h hG
section
variable {sb sb' : Core → Str → Core → Core} {P : Core → Prop} {e : Core → Core}
end
structure PK (B : Nat) (T : Ty → Prop) (ns : List Str) (ps : List Core) (r : List Str × List Core) : Prop where
 len1 : r.1.length = ns.length
 len2 : r.2.length = ps.length
 wf : ∀ q ∈ r.2, wfC q = true ∧ allT T q
 sm : A2 (fun p q => m30 q ≤ m30 p * B) ps r.2
 nm : A2 NR ns r.1
theorem aA4 {sb : Core → Str → Core → Core} {P : Core → Prop} {B : Nat} {T : Ty → Prop} {s : Str} {b : Core} {ns : List Str} {ps : List Core} (hB : 1 ≤ B) (hP : ∀ p ∈ ps, P p)
  (hz : ∀ p n z, P p → z.length ≤ 30 → P (sb p n (vC z)) ∧ m30 (sb p n (vC z)) ≤ m30 p) (hPQ : ∀ p, P p → wfC p = true ∧ allT T p) (hs : ∀ p, P p → wfC (sb p s b) = true ∧ allT T (sb p s b) ∧ m30 (sb p s b) ≤ m30 p * B)
  (hl : (ps.flatMap pfR).length + 2 * ns.length + (pfR b).length ≤ 540000000000) : PK B T ns ps (cK sb s b ns ps) := by
 obtain ⟨l1, l2⟩ := pF (sb := sb) (s := s) (b := b) (ns := ns) (ps := ps);obtain ⟨⟨qs, h1, h2⟩, h3⟩ := aDw (sb := sb) (Rel := fun p q => P p → (P q ∧ m30 q ≤ m30 p)) (fun p h => ⟨h, le_refl _⟩)
  (fun p q r hpq hqr h => by
   obtain ⟨a1, a2⟩ := hpq h;obtain ⟨b1, b2⟩ := hqr a1
   exact ⟨b1, le_trans b2 a2⟩) (s := s) (b := b) (ns := ns) (ps := ps) (fun p n z hzl h => hz p n z h hzl) hl
 have hq : ∀ q ∈ qs, P q := fun q hq => by
  obtain ⟨p, hp, hpq⟩ := h1.mem q hq;exact (hpq (hP p hp)).1
 have hA : A2 (fun p q => m30 q ≤ m30 p) ps qs := by
  clear h2 hq hl h3 l1 l2
  induction h1 with
  | nil => exact .nil
  | cons r _ ih2 => exact .cons (r (hP _ zq2)).2 (ih2 fun p hp => hP p (zq3 _ hp))
 have hup : ∀ k : Nat, k ≤ k * B := fun k => le_mul_of_pos_right _ hB
 refine ⟨l1, l2, fun x hx => ?_, ?_, h3⟩
 ·rcases h2 with h2 | h2
  ·rw [h2] at hx; exact hPQ x (hq x hx)
  ·rw [h2] at hx;obtain ⟨q, hq', rfl⟩ := mem_map.1 hx;exact ⟨(hs q (hq q hq')).1, (hs q (hq q hq')).2.1⟩
 ·rcases h2 with h2 | h2
  ·rw [h2]; exact A2.mono (fun p q h => le_trans h (hup _)) hA
  ·rw [h2];clear h2 h3 l1 l2 hl h1;have key : ∀ {ps qs : List Core}, A2 (fun p q => m30 q ≤ m30 p) ps qs → (∀ q ∈ qs, P q) → A2 (fun p q => m30 q ≤ m30 p * B) ps (qs.map fun p => sb p s b) := by
    intro ps qs h
    induction h with
    | nil => intro _; exact .nil
    | cons r _ ih => exact fun hq => .cons (le_trans (hs _ (hq _ zq2)).2.2 (mul_le_mul_right _ r)) (ih fun q h => hq q (zq3 _ h))
   exact key hA hq
theorem aEe {B : Nat} {ps qs : List Core} (h : A2 (fun p q => m30 q ≤ m30 p * B) ps qs) : cS qs ≤ cS ps * B := by
 induction h with
 | nil => rw [cS]; exact zero_le _
 | cons r _ ih => rw [cS, cS, add_mul]; omega
theorem aD8 {B : Nat} (hB : 1 ≤ B) : ∀ {ts : List Ty} {ns : List Str} {ps : List Core} {bs : List Bind}, A2 (fun (b : Bind) n => w30 n ≤ w30 b.name) bs ns → A2 (fun (b : Bind) p => m30 p ≤ m30 b.body * B) bs ps → fR (mkB ts ns ps) ≤ fR bs * B
 | [], _, _, _, _, _ => by unfold mkB; rw [fR]; exact zero_le _
 | t :: ts, _, _, _, .nil, .nil => by unfold mkB; rw [fR]; exact zero_le _
 | t :: ts, n :: ns, p :: ps, .mk s ty c :: bs, .cons h1 h2, .cons h3 h4 => by
  unfold mkB;rw [fR, fR];have := aD8 hB (ts := ts) h2 h4;have h1 : w30 n ≤ w30 s := h1;have h3 : m30 p ≤ m30 c * B := h3;have h5 : 1 + w30 s ≤ (1 + w30 s) * B := le_mul_of_pos_right _ hB;rw [add_mul, add_mul];omega
section
variable {sb : Core → Str → Core → Core} {B : Nat} {T : Ty → Prop} {f n : Int} {nm : Str} {t : Ty} {ks : List Core} {bs : List Bind} {al : List Alt} {s : Str} {b : Core}
theorem aNt (hB : 1 ≤ B) {l : List Alt} (h : ∀ a ∈ l, A2 (fun p q => m30 q ≤ m30 p * B) [a.body] (cK sb s b a.vars [a.body]).2 ∧ A2 NR a.vars (cK sb s b a.vars [a.body]).1) : iL (l.map (j1 sb s b)) ≤ iL l * B := by
 induction l with
 | nil => exact zero_le _
 | cons a l ihl =>
  obtain ⟨af, an, anm, vs, ab⟩ := a;obtain ⟨g1, g2⟩ := h _ zq2;have := ihl fun x hx => h x (zq3 _ hx)
  have g1 : A2 (fun p q => m30 q ≤ m30 p * B) [ab] (cK sb s b vs [ab]).2 := g1;have g2 : A2 NR vs (cK sb s b vs [ab]).1 := g2;have g4 := xE g2;have g3 : m30 ((cK sb s b vs [ab]).2.headD ab) ≤ m30 ab * B := by
   cases hx : (cK sb s b vs [ab]).2 with
   | nil => rw [hx] at g1; cases g1
   | cons y l' =>
    rw [hx] at g1;cases g1 with
    | cons h _ => exact h
  have e : j1 sb s b (Alt.mk af an anm vs ab) = .mk af an anm (cK sb s b vs [ab]).1 ((cK sb s b vs [ab]).2.headD ab) := rfl;rw [map_cons, e, iL, iL];have g5 : 1 + w30 anm + (vs.map fun v => 1 + w30 v).sum ≤ (1 + w30 anm + (vs.map fun v => 1 + w30 v).sum) * B := le_mul_of_pos_right _ hB;rw [add_mul, add_mul (1 + w30 anm + _)];omega
theorem aLy (hB : 1 ≤ B) (hg : PK B T (gvN f nm bs) (ks ++ bs.map Bind.body) (cK sb s b (gvN f nm bs) (ks ++ bs.map Bind.body))) (ha : ∀ a ∈ al, PK B T a.vars [a.body] (cK sb s b a.vars [a.body]))
  (h0 : T t) (hb : ∀ x ∈ bs, T x.ty) (w1 : f = 5 ∨ f = 6 ∨ f = 7 → (∃ k, ks = [k]) ∧ bs = [] ∧ al = []) (w0 : f = 1 → ks = [] ∧ bs = [] ∧ al = []) :
  wfC (oZ sb s b (.mk f n nm t ks bs al)) = true ∧ allT T (oZ sb s b (.mk f n nm t ks bs al)) ∧ m30 (oZ sb s b (.mk f n nm t ks bs al)) ≤ m30 (.mk f n nm t ks bs al) * B := by
 have hN : ∀ a ∈ al, wfC (j1 sb s b a).body = true ∧ allT T (j1 sb s b a).body := fun a ha' => by
  show wfC ((cK sb s b a.vars [a.body]).2.headD a.body) = true ∧ allT T ((cK sb s b a.vars [a.body]).2.headD a.body);obtain ⟨y, hy⟩ := length_eq_one_iff.1 (ha a ha').len2;rw [hy];exact (ha a ha').wf y (by rw [hy]; exact mem_singleton.2 rfl)
 have e4 : iL (al.map (j1 sb s b)) ≤ iL al * B := aNt hB fun a ha' => ⟨(ha a ha').sm, (ha a ha').nm⟩
 rw [oZ];unfold zNm zKs zBs;generalize cK sb s b (gvN f nm bs) (ks ++ bs.map Bind.body) = r at hg ⊢;obtain ⟨r1, r2⟩ := r;obtain ⟨l1, l2, q2, q1, q4⟩ := hg;dsimp only at *;refine ⟨aPs (fun hf => ?_) (fun hf => ?_) (fun x hx => (q2 x (mem_of_mem_take hx)).1) (fun x hx => (q2 _ (mem_of_mem_drop (kJ hx).1)).1) (fun x hx => ?_), ?_, ?_⟩
 ·obtain ⟨⟨y, rfl⟩, rfl, rfl⟩ := w1 hf;obtain ⟨y', rfl⟩ := length_eq_one_iff.1 (show r2.length = 1 from l2);exact ⟨⟨y', rfl⟩, rfl, rfl⟩
 ·obtain ⟨rfl, rfl, rfl⟩ := w0 hf;exact ⟨rfl, rfl, rfl⟩
 ·obtain ⟨a, ha', rfl⟩ := mem_map.1 hx;exact (hN a ha').1
 ·rw [allT];refine ⟨h0, rK.2 fun x hx => (q2 x (mem_of_mem_take hx)).2, kY.2 fun x hx => ?_, kZ.2 fun x hx => ?_⟩
  ·obtain ⟨h1, h2⟩ := kJ hx;obtain ⟨y, hy, hyt⟩ := mem_map.1 h2;exact ⟨by rw [← hyt]; exact hb y hy, (q2 _ (mem_of_mem_drop h1)).2⟩
  ·obtain ⟨a, ha', rfl⟩ := mem_map.1 hx;exact (hN a ha').2
 ·rw [m30, m30];have e1 : w30 (if f = 5 then r1.headD nm else nm) ≤ w30 nm := by
   split
   ·rename_i hf;unfold gvN at q4;rw [if_pos hf] at q4;cases q4 with
    | cons h _ => exact h.w
   ·exact le_refl _
  have e2 : cS (r2.take ks.length) ≤ cS ks * B := by
   have := (q1.take ks.length)
   rw [take_left] at this;exact aEe this
  have e3 : fR (mkB (bs.map Bind.ty) r1 (r2.drop ks.length)) ≤ fR bs * B := by
   by_cases hf : f = 5
   ·obtain ⟨_, rfl, _⟩ := w1 (.inl hf);show fR (mkB [] _ _) ≤ _;unfold mkB; rw [fR]; exact zero_le _
   ·have h4 := q4;unfold gvN at h4;rw [if_neg hf, nil_append] at h4;have h5 := q1.drop ks.length;rw [drop_left] at h5;exact aD8 hB (A2.mapL (A2.mono (fun a b h => h.w) h4)) (A2.mapL h5)
  have e5 : 1 + w30 nm ≤ (1 + w30 nm) * B := le_mul_of_pos_right _ hB;rw [add_mul, add_mul, add_mul];omega
end
abbrev Loc : Type := Int → Str → Ty → Nat → List (Str × Ty) → List (Str × List Str) → Prop
def bhd (b : Bind) : Str × Ty := (b.name, b.ty)
def ahd (a : Alt) : Str × List Str := (a.name, a.vars)
mutual
def cI (q : Loc) : Core → Prop
 | .mk f _ s t ks bs al => q f s t ks.length (bs.map bhd) (al.map ahd) ∧ aL2 q ks ∧ aL3 q bs ∧ aL4 q al
def aL2 (q : Loc) : List Core → Prop
 | [] => True
 | c :: l => cI q c ∧ aL2 q l
def aL3 (q : Loc) : List Bind → Prop
 | [] => True
 | .mk _ _ c :: l => cI q c ∧ aL3 q l
def aL4 (q : Loc) : List Alt → Prop
 | [] => True
 | .mk _ _ _ _ c :: l => cI q c ∧ aL4 q l
end
theorem zZ {q : Loc} : ∀ {l : List Core}, aL2 q l ↔ ∀ x ∈ l, cI q x
 | [] => by simp [aL2]
 | c :: l => by rw [aL2, zZ (l := l)]; simp
theorem aAa {q : Loc} : ∀ {l : List Bind}, aL3 q l ↔ ∀ x ∈ l, cI q x.body
 | [] => by simp [aL3]
 | .mk s t c :: l => by rw [aL3, aAa (l := l)]; simp [Bind.body]
theorem aAb {q : Loc} : ∀ {l : List Alt}, aL4 q l ↔ ∀ x ∈ l, cI q x.body
 | [] => by simp [aL4]
 | .mk f n s v c :: l => by rw [aL4, aAb (l := l)]; simp [Alt.body]
theorem bC {q : Loc} {f n : Int} {s : Str} {t : Ty} {ks : List Core} {bs : List Bind} {al : List Alt} :
  cI q (.mk f n s t ks bs al) ↔ q f s t ks.length (bs.map bhd) (al.map ahd) ∧ (∀ x ∈ ks, cI q x) ∧ (∀ x ∈ bs, cI q x.body) ∧ ∀ x ∈ al, cI q x.body := by
 rw [cI, zZ, aAa, aAb]
def okF (f : Int) (nk nb na : Nat) : Bool :=
 if f = 4 ∨ f = 10 then decide (nk = 2 ∧ nb = 0 ∧ na = 0)
 else if f = 5 ∨ f = 6 ∨ f = 7 then decide (nk = 1 ∧ nb = 0 ∧ na = 0)
 else if f = 8 then decide (nk = 1 ∧ na = 0)
 else if f = 9 then decide (nk = 1 ∧ nb = 0)
 else decide (nk = 0 ∧ nb = 0 ∧ na = 0)
def lw (s : Str) (bh : List (Str × Ty)) (ah : List (Str × List Str)) : Nat :=
 1 + w30 s + (bh.map fun p => 1 + w30 p.1).sum + (ah.map fun p => 1 + w30 p.1 + (p.2.map fun v => 1 + w30 v).sum).sum
theorem aGe (n : Nat) : ¬ bP n = [] := by unfold bP; split <;> simp
theorem w9 (l : List Str) : ¬ aZ l = [] := aGe _
def QL (X : Nat) : Loc := fun f s t nk bh ah => okF f nk bh.length ah.length = true ∧ (f = 7 → t = zTy ∧ ¬ s = []) ∧ wfS t = true ∧ (∀ p ∈ bh, wfS p.2 = true) ∧ lw s bh ah ≤ X ∧ (f = 5 → nh s) ∧ (∀ p ∈ bh, nh p.1) ∧ ∀ p ∈ ah, ∀ v ∈ p.2, nh v
theorem aQl {f : Int} {nk nb na : Nat} (h : okF f nk nb na = true) : (f = 5 ∨ f = 6 ∨ f = 7 → nk = 1 ∧ nb = 0 ∧ na = 0) ∧ (f = 1 → nk = 0 ∧ nb = 0 ∧ na = 0) := by
 unfold okF at h;refine ⟨fun hf => ?_, fun hf => ?_⟩
 ·rw [if_neg (by omega), if_pos hf] at h;exact zq0 h
 ·rw [if_neg (by omega), if_neg (by omega), if_neg (by omega), if_neg (by omega)] at h;exact zq0 h
section
variable {X : Nat} {f n : Int} {s : Str} {t : Ty} {ks : List Core} {bs : List Bind} {al : List Alt}
theorem iR (h : cI (QL X) (.mk f n s t ks bs al)) (hf : f = 5 ∨ f = 6 ∨ f = 7) : (∃ k, ks = [k]) ∧ bs = [] ∧ al = [] := by
 obtain ⟨h1, _⟩ := bC.1 h;obtain ⟨g1, g2, g3⟩ := (aQl h1.1).1 hf;rw [length_map] at g2 g3;exact ⟨length_eq_one_iff.1 g1, length_eq_zero_iff.1 g2, length_eq_zero_iff.1 g3⟩
theorem u6 (h : cI (QL X) (.mk f n s t ks bs al)) (hf : f = 1) : ks = [] ∧ bs = [] ∧ al = [] := by
 obtain ⟨h1, _⟩ := bC.1 h;obtain ⟨g1, g2, g3⟩ := (aQl h1.1).2 hf;rw [length_map] at g2 g3;exact ⟨length_eq_zero_iff.1 g1, length_eq_zero_iff.1 g2, length_eq_zero_iff.1 g3⟩
end
mutual
theorem aAc {X : Nat} : ∀ c : Core, cI (QL X) c → wfC c = true
 | .mk f n s t ks bs al, h => by
  obtain ⟨h1, h2, h3, h4⟩ := bC.1 h;exact aPs (fun hf => iR h hf) (fun hf => u6 h hf) (fun x hx => aMb ks h2 x hx) (fun x hx => aMc bs h3 x hx) (fun x hx => aMd al h4 x hx)
theorem aMb {X : Nat} : ∀ l : List Core, (∀ x ∈ l, cI (QL X) x) → ∀ x ∈ l, wfC x = true
 | c :: l, h, x, hx => by
  rcases mem_cons.1 hx with e | hx
  ·rw [e]; exact aAc c (h _ zq2)
  ·exact aMb l (fun x hx => h x (zq3 _ hx)) x hx
theorem aMc {X : Nat} : ∀ l : List Bind, (∀ x ∈ l, cI (QL X) x.body) → ∀ x ∈ l, wfC x.body = true
 | .mk s t c :: l, h, x, hx => by
  rcases mem_cons.1 hx with e | hx
  ·rw [e]; exact aAc c (h _ zq2)
  ·exact aMc l (fun x hx => h x (zq3 _ hx)) x hx
theorem aMd {X : Nat} : ∀ l : List Alt, (∀ x ∈ l, cI (QL X) x.body) → ∀ x ∈ l, wfC x.body = true
 | .mk f n s v c :: l, h, x, hx => by
  rcases mem_cons.1 hx with e | hx
  ·rw [e]; exact aAc c (h _ zq2)
  ·exact aMd l (fun x hx => h x (zq3 _ hx)) x hx
end
theorem vK {o : List Str} {x y : Str} : y ∈ qX o x ↔ y ∈ o ∨ y = x := by
 unfold qX;split
 ·rename_i h;exact ⟨.inl, fun h' => h'.elim id fun e => by rw [e]; exact h⟩
 ·rw [mem_append, mem_singleton]
theorem l9 {y : Str} : ∀ {l o : List Str}, y ∈ mH o l ↔ y ∈ o ∨ y ∈ l
 | [], o => by simp [mH]
 | x :: l, o => by
  show y ∈ mH (qX o x) l ↔ _;rw [l9 (l := l), vK, mem_cons, or_assoc]
theorem aC4 {f : Int} {s y : Str} : ∀ {l o : List Str}, y ∈ aAj f s o l ↔ y ∈ o ∨ (y ∈ l ∧ (¬ f = 7 ∨ ¬ y = s))
 | [], o => by simp [aAj]
 | x :: l, o => by
  show y ∈ aAj f s (mP f s o x) l ↔ _;rw [aC4 (l := l)];unfold mP;split
  ·rename_i h;rw [l9, mem_singleton, mem_cons];constructor
   ·rintro ((h1 | h1) | h1)
    ·exact .inl h1
    ·exact .inr ⟨.inl h1, by rw [h1]; exact h⟩
    ·exact .inr ⟨.inr h1.1, h1.2⟩
   ·rintro (h1 | ⟨h1 | h1, h2⟩)
    ·exact .inl (.inl h1)
    ·exact .inl (.inr h1)
    ·exact .inr ⟨h1, h2⟩
  ·rename_i h;rw [mem_cons];constructor
   ·rintro (h1 | h1)
    ·exact .inl h1
    ·exact .inr ⟨.inr h1.1, h1.2⟩
   ·rintro (h1 | ⟨h1 | h1, h2⟩)
    ·exact .inl h1
    ·exact absurd (by rw [← h1]; exact h2) h
    ·exact .inr ⟨h1, h2⟩
theorem aC2 {f : Int} {s y : Str} : ∀ {l : List Core} {o : List Str}, y ∈ nT f s l o ↔ y ∈ o ∨ ∃ k ∈ l, y ∈ tyR k ∧ (¬ f = 7 ∨ ¬ y = s)
 | [], o => by rw [nT]; simp
 | c :: l, o => by
  rw [nT, aC2 (l := l), aC4, or_assoc];simp
theorem aC5 {y : Str} : ∀ {l : List Bind} {o : List Str}, y ∈ mA l o ↔ y ∈ o ∨ ∃ b ∈ l, y ∈ tfR b.ty ∨ y ∈ tyR b.body
 | [], o => by rw [mA]; simp
 | .mk s t c :: l, o => by
  rw [mA, aC5 (l := l), l9, l9];simp only [mem_cons, exists_eq_or_imp, Bind.ty, Bind.body, or_assoc]
theorem aC6 {y : Str} : ∀ {l : List Alt} {o : List Str}, y ∈ mN l o ↔ y ∈ o ∨ ∃ a ∈ l, y ∈ tyR a.body
 | [], o => by rw [mN]; simp
 | .mk f n s v c :: l, o => by
  rw [mN, aC6 (l := l), l9];simp only [mem_cons, exists_eq_or_imp, Alt.body, or_assoc]
theorem cD {f n : Int} {s : Str} {t : Ty} {ks : List Core} {bs : List Bind} {al : List Alt} {y : Str} :
  y ∈ tyR (.mk f n s t ks bs al) ↔ y ∈ tfR t ∨ (∃ k ∈ ks, y ∈ tyR k ∧ (¬ f = 7 ∨ ¬ y = s)) ∨ (∃ b ∈ bs, y ∈ tfR b.ty ∨ y ∈ tyR b.body) ∨ ∃ a ∈ al, y ∈ tyR a.body := by
 rw [tyR, aC6, aC5, aC2, l9];simp [or_assoc]
theorem o6 : ∀ {l o : List Str}, o.Nodup → (mH o l).Nodup
 | [], _, h => h
 | x :: l, o, h => o6 (l := l) (o := qX o x) (aS0 h)
theorem aHf {f : Int} {s : Str} : ∀ {l o : List Str}, o.Nodup → (aAj f s o l).Nodup
 | [], _, h => h
 | x :: l, o, h => aHf (l := l) (o := mP f s o x) (by unfold mP; split; exact o6 h; exact h)
theorem aHd {f : Int} {s : Str} : ∀ {l : List Core} {o : List Str}, o.Nodup → (nT f s l o).Nodup
 | [], o, h => by rw [nT]; exact h
 | c :: l, o, h => by rw [nT]; exact aHd (aHf h)
theorem aHh : ∀ {l : List Bind} {o : List Str}, o.Nodup → (mA l o).Nodup
 | [], o, h => by rw [mA]; exact h
 | .mk s t c :: l, o, h => by rw [mA]; exact aHh (o6 (o6 h))
theorem aHi : ∀ {l : List Alt} {o : List Str}, o.Nodup → (mN l o).Nodup
 | [], o, h => by rw [mN]; exact h
 | .mk f n s v c :: l, o, h => by rw [mN]; exact aHi (o6 h)
theorem aZa (c : Core) : (tyR c).Nodup := by
 obtain ⟨f, n, s, t, ks, bs, al⟩ := c;rw [tyR];exact aHi (aHh (aHd (o6 nodup_nil)))
theorem cZ {a : List Str} {c : Core} (h : ∀ x ∈ tyR c, x ∈ a) : (tyR c).length ≤ a.length := iJ _ _ (aZa c) h
mutual
def tlC : Core → Nat
 | .mk f _ _ _ ks bs al => (if f = 7 then 1 else 0) + max (nU ks) (max (xB bs) (xC al))
def nU : List Core → Nat
 | [] => 0
 | c :: l => max (tlC c) (nU l)
def xB : List Bind → Nat
 | [] => 0
 | .mk _ _ c :: l => max (tlC c) (xB l)
def xC : List Alt → Nat
 | [] => 0
 | .mk _ _ _ _ c :: l => max (tlC c) (xC l)
end
theorem aAm {K : Nat} : ∀ {l : List Core}, nU l ≤ K ↔ ∀ x ∈ l, tlC x ≤ K
 | [] => by simp [nU]
 | c :: l => by rw [nU, max_le, aAm (l := l)]; simp
theorem aAn {K : Nat} : ∀ {l : List Bind}, xB l ≤ K ↔ ∀ x ∈ l, tlC x.body ≤ K
 | [] => by simp [xB]
 | .mk s t c :: l => by rw [xB, max_le, aAn (l := l)]; simp [Bind.body]
theorem aAo {K : Nat} : ∀ {l : List Alt}, xC l ≤ K ↔ ∀ x ∈ l, tlC x.body ≤ K
 | [] => by simp [xC]
 | .mk f n s v c :: l => by rw [xC, max_le, aAo (l := l)]; simp [Alt.body]
theorem xD {K : Nat} {f n : Int} {s : Str} {t : Ty} {ks : List Core} {bs : List Bind} {al : List Alt} :
  tlC (.mk f n s t ks bs al) ≤ (if f = 7 then 1 else 0) + K ↔ (∀ x ∈ ks, tlC x ≤ K) ∧ (∀ x ∈ bs, tlC x.body ≤ K) ∧ ∀ x ∈ al, tlC x.body ≤ K := by
 rw [tlC, Nat.add_le_add_iff_left, max_le, max_le, aAm, aAn, aAo]
theorem mQ {f n : Int} {s : Str} {t : Ty} {ks : List Core} {bs : List Bind} {al : List Alt} :
  (∀ x ∈ ks, tlC x + (if f = 7 then 1 else 0) ≤ tlC (.mk f n s t ks bs al)) ∧ (∀ x ∈ bs, tlC x.body ≤ tlC (.mk f n s t ks bs al)) ∧ ∀ x ∈ al, tlC x.body ≤ tlC (.mk f n s t ks bs al) := by
 have h := (xD (K := max (nU ks) (max (xB bs) (xC al))) (f := f) (n := n) (s := s) (t := t) (ks := ks) (bs := bs) (al := al)).1 (by rw [tlC]; exact le_refl _)
 rw [tlC];exact ⟨fun x hx => by have := h.1 x hx; omega, fun x hx => by have := h.2.1 x hx; omega, fun x hx => by have := h.2.2 x hx; omega⟩
def Alg.k (A : Alg) : Nat := tW A zTy r0
mutual
def cw (A : Alg) (E : Nat) : Core → (Str → Nat) → Nat
 | .mk f _ s t ks bs al, ρ => max A.k (max (tW A t ρ) (max (cws A E ks (if f = 7 then fJ ρ s E else ρ)) (max (cwb A E bs ρ) (cwa A E al ρ))))
def cws (A : Alg) (E : Nat) : List Core → (Str → Nat) → Nat
 | [], _ => 0
 | c :: l, ρ => max (cw A E c ρ) (cws A E l ρ)
def cwb (A : Alg) (E : Nat) : List Bind → (Str → Nat) → Nat
 | [], _ => 0
 | .mk _ t c :: l, ρ => max (max (tW A t ρ) (cw A E c ρ)) (cwb A E l ρ)
def cwa (A : Alg) (E : Nat) : List Alt → (Str → Nat) → Nat
 | [], _ => 0
 | .mk _ _ _ _ c :: l, ρ => max (cw A E c ρ) (cwa A E l ρ)
end
section
variable {A : Alg} {E K : Nat} {ρ ρ' : Str → Nat}
theorem aQ6 : ∀ {l : List Core}, cws A E l ρ ≤ K ↔ ∀ x ∈ l, cw A E x ρ ≤ K
 | [] => by simp [cws]
 | c :: l => by rw [cws, max_le, aQ6 (l := l)]; simp
theorem aQ7 : ∀ {l : List Bind}, cwb A E l ρ ≤ K ↔ ∀ x ∈ l, tW A x.ty ρ ≤ K ∧ cw A E x.body ρ ≤ K
 | [] => by simp [cwb]
 | .mk s t c :: l => by rw [cwb, max_le, max_le, aQ7 (l := l)]; simp [Bind.body, Bind.ty]
theorem aQ8 : ∀ {l : List Alt}, cwa A E l ρ ≤ K ↔ ∀ x ∈ l, cw A E x.body ρ ≤ K
 | [] => by simp [cwa]
 | .mk f n s v c :: l => by rw [cwa, max_le, aQ8 (l := l)]; simp [Alt.body]
theorem fW {f n : Int} {s : Str} {t : Ty} {ks : List Core} {bs : List Bind} {al : List Alt} :
  cw A E (.mk f n s t ks bs al) ρ ≤ K ↔ A.k ≤ K ∧ tW A t ρ ≤ K ∧ (∀ x ∈ ks, cw A E x (if f = 7 then fJ ρ s E else ρ) ≤ K) ∧ (∀ x ∈ bs, tW A x.ty ρ ≤ K ∧ cw A E x.body ρ ≤ K) ∧ ∀ x ∈ al, cw A E x.body ρ ≤ K := by
 rw [cw, max_le, max_le, max_le, max_le, aQ6, aQ7, aQ8]
end
theorem aZ7 {A : Alg} {E : Nat} {ρ : Str → Nat} (c : Core) : A.k ≤ cw A E c ρ := by cases c; exact (fW.1 (le_refl _)).1
theorem kU {A : Alg} {E : Nat} : ∀ (k : Nat) (c : Core), aR c ≤ k → ∀ {ρ ρ' : Str → Nat} {K : Nat}, (∀ x ∈ tyR c, ρ x = ρ' x) → cw A E c ρ' ≤ K → cw A E c ρ ≤ K
 | 0, c, h, _, _, _, _, _ => by have := dW c; omega
 | k + 1, .mk f n s t ks bs al, h, ρ, ρ', K, hx, hK => by
  obtain ⟨ihk, ihb, iha, _⟩ := @gY f n s t ks bs al;obtain ⟨g0, g1, g2, g3, g4⟩ := fW.1 hK;refine fW.2 ⟨g0, ?_, fun x hm => ?_, fun x hm => ⟨?_, ?_⟩, fun x hm => ?_⟩
  ·rw [gP (tn t) t (le_refl _) fun y hy => hx y (cD.2 (.inl hy))]; exact g1
  ·refine kU k x (by have := ihk x hm; omega) (fun y hy => ?_) (g2 x hm);by_cases h7 : f = 7
   ·rw [if_pos h7, if_pos h7];unfold fJ;by_cases e : y = s
    ·rw [if_pos e, if_pos e]
    ·rw [if_neg e, if_neg e]; exact hx y (cD.2 (.inr (.inl ⟨x, hm, hy, .inr e⟩)))
   ·rw [if_neg h7, if_neg h7]; exact hx y (cD.2 (.inr (.inl ⟨x, hm, hy, .inl h7⟩)))
  ·rw [gP (tn x.ty) x.ty (le_refl _) fun y hy => hx y (cD.2 (.inr (.inr (.inl ⟨x, hm, .inl hy⟩))))]; exact (g3 x hm).1
  ·exact kU k x.body (by have := ihb x hm; omega) (fun y hy => hx y (cD.2 (.inr (.inr (.inl ⟨x, hm, .inr hy⟩))))) (g3 x hm).2
  ·exact kU k x.body (by have := iha x hm; omega) (fun y hy => hx y (cD.2 (.inr (.inr (.inr ⟨x, hm, hy⟩))))) (g4 x hm)
theorem nI {A : Alg} {E : Nat} {c : Core} {ρ ρ' : Str → Nat} (h : ∀ x ∈ tyR c, ρ x = ρ' x) : cw A E c ρ = cw A E c ρ' :=
 Nat.le_antisymm (kU _ c (le_refl _) h (le_refl _)) (kU _ c (le_refl _) (fun x hx => (h x hx).symm) (le_refl _))
theorem pX {A : Alg} {E E' : Nat} (hE : E ≤ E') : ∀ (k : Nat) (c : Core), aR c ≤ k → ∀ {ρ ρ' : Str → Nat} {K : Nat}, (∀ x, ρ x ≤ ρ' x) → cw A E' c ρ' ≤ K → cw A E c ρ ≤ K
 | 0, c, h, _, _, _, _, _ => by have := dW c; omega
 | k + 1, .mk f n s t ks bs al, h, ρ, ρ', K, hx, hK => by
  obtain ⟨ihk, ihb, iha, _⟩ := @gY f n s t ks bs al;obtain ⟨g0, g1, g2, g3, g4⟩ := fW.1 hK;refine fW.2 ⟨g0, le_trans (aAr t hx) g1, fun x hm => ?_, fun x hm => ⟨le_trans (aAr x.ty hx) (g3 x hm).1, ?_⟩, fun x hm => ?_⟩
  ·refine pX hE k x (by have := ihk x hm; omega) (fun y => ?_) (g2 x hm);by_cases h7 : f = 7
   ·rw [if_pos h7, if_pos h7];unfold fJ;split
    ·exact hE
    ·exact hx y
   ·rw [if_neg h7, if_neg h7]; exact hx y
  ·exact pX hE k x.body (by have := ihb x hm; omega) hx (g3 x hm).2
  ·exact pX hE k x.body (by have := iha x hm; omega) hx (g4 x hm)
theorem aKs {A : Alg} {E E' : Nat} (hE : E ≤ E') {c : Core} {ρ ρ' : Str → Nat} (h : ∀ x, ρ x ≤ ρ' x) : cw A E c ρ ≤ cw A E' c ρ' := pX hE _ c (le_refl _) h (le_refl _)
set_option maxHeartbeats 4000000
structure CG (D M X : Nat) (c : Core) : Prop where
 q : cI (QL X) c
 dep : cw j9 0 c r0 ≤ D
 sc : (tyR c).length + 2 * tlC c ≤ M
 sz : m30 c ≤ Big
section
variable {D M X : Nat} {f n : Int} {s : Str} {t : Ty} {ks : List Core} {bs : List Bind} {al : List Alt}
theorem aZy (p : Prop) [Decidable p] : (if p then fJ r0 s 0 else r0) = r0 := by split; exact aH5 s; rfl
theorem CG.kid (h : CG D M X (.mk f n s t ks bs al)) {x : Core} (hx : x ∈ ks) : CG D M X x ∧ ((tyR x).length + 2 * tlC x + (if f = 7 then 1 else 0) ≤ M) ∧ m30 x < m30 (.mk f n s t ks bs al) := by
 obtain ⟨h1, h2, h3, h4⟩ := h;have g := iK hx;have gl : m30 x < m30 (.mk f n s t ks bs al) := by rw [m30]; omega
 have g2 := (mQ (f := f) (n := n) (s := s) (t := t) (ks := ks) (bs := bs) (al := al)).1 x hx;have g3 := (fW.1 h2).2.2.1 x hx;rw [aZy] at g3;have g4 : (tyR x).length ≤ (tyR (.mk f n s t ks bs al)).length + (if f = 7 then 1 else 0) := by
  by_cases h7 : f = 7
  ·rw [if_pos h7];refine cZ (a := s :: tyR (.mk f n s t ks bs al)) fun y hy => ?_
   by_cases e : y = s
   ·rw [e]; exact zq2
   ·exact zq3 _ (cD.2 (.inr (.inl ⟨x, hx, hy, .inr e⟩)))
  ·rw [if_neg h7];exact cZ fun y hy => cD.2 (.inr (.inl ⟨x, hx, hy, .inl h7⟩))
 have g5 : (tyR x).length + 2 * tlC x + (if f = 7 then 1 else 0) ≤ M := by split at g2 <;> split at g4 <;> simp_all <;> omega
 exact ⟨⟨(bC.1 h1).2.1 x hx, g3, by omega, by omega⟩, g5, gl⟩
theorem CG.bind (h : CG D M X (.mk f n s t ks bs al)) {x : Bind} (hx : x ∈ bs) : CG D M X x.body ∧ m30 x.body < m30 (.mk f n s t ks bs al) := by
 obtain ⟨h1, h2, h3, h4⟩ := h;have g := lD hx;have gl : m30 x.body < m30 (.mk f n s t ks bs al) := by rw [m30]; omega
 have g2 := (mQ (f := f) (n := n) (s := s) (t := t) (ks := ks) (bs := bs) (al := al)).2.1 x hx;have g4 : (tyR x.body).length ≤ (tyR (.mk f n s t ks bs al)).length := cZ fun y hy => cD.2 (.inr (.inr (.inl ⟨x, hx, .inr hy⟩)))
 exact ⟨⟨(bC.1 h1).2.2.1 x hx, ((fW.1 h2).2.2.2.1 x hx).2, by omega, by omega⟩, gl⟩
theorem CG.alt (h : CG D M X (.mk f n s t ks bs al)) {x : Alt} (hx : x ∈ al) : CG D M X x.body ∧ m30 x.body < m30 (.mk f n s t ks bs al) := by
 obtain ⟨h1, h2, h3, h4⟩ := h;have g := gD hx;have gl : m30 x.body < m30 (.mk f n s t ks bs al) := by rw [m30]; omega
 have g2 := (mQ (f := f) (n := n) (s := s) (t := t) (ks := ks) (bs := bs) (al := al)).2.2 x hx;have g4 : (tyR x.body).length ≤ (tyR (.mk f n s t ks bs al)).length := cZ fun y hy => cD.2 (.inr (.inr (.inr ⟨x, hx, hy⟩)))
 exact ⟨⟨(bC.1 h1).2.2.2 x hx, (fW.1 h2).2.2.2.2 x hx, by omega, by omega⟩, gl⟩
theorem CG.ty (h : CG D M X (.mk f n s t ks bs al)) : wfS t = true ∧ fvm t ≤ M + D ∧ ∀ b ∈ bs, wfS b.ty = true ∧ fvm b.ty ≤ M + D := by
 obtain ⟨h1, h2, h3, h4⟩ := h;obtain ⟨⟨_, _, q3, q4, _⟩, _⟩ := bC.1 h1;obtain ⟨_, c1, _, c3, _⟩ := fW.1 h2;refine ⟨q3, ?_, fun b hb => ?_⟩
 ·have g1 := r7 (tn t) t (le_refl _) q3;have g2 : (tfR t).length ≤ (tyR (.mk f n s t ks bs al)).length := iJ _ _ (aHn t) fun y hy => cD.2 (.inl hy)
  omega
 ·have q5 := q4 (bhd b) (mem_map.2 ⟨b, hb, rfl⟩);have g1 := r7 (tn b.ty) b.ty (le_refl _) q5;have g2 : (tfR b.ty).length ≤ (tyR (.mk f n s t ks bs al)).length := iJ _ _ (aHn b.ty) fun y hy => cD.2 (.inr (.inr (.inl ⟨b, hb, .inl hy⟩)))
  have g3 := (c3 b hb).1
  exact ⟨q5, by omega⟩
end
theorem aG8 {K : Nat} : ∀ {l : List Core}, (∀ x ∈ l, tyM x ≤ K) → aPw l ≤ K
 | [], _ => by rw [aPw]; exact zero_le _
 | c :: l, h => by
  rw [aPw];have := h c zq2;have := aG8 (l := l) fun x hx => h x (zq3 _ hx)
  omega
theorem aG9 {K : Nat} : ∀ {l : List Bind}, (∀ x ∈ l, fw x.ty ≤ K ∧ tyM x.body ≤ K) → aHa l ≤ K
 | [], _ => by rw [aHa]; exact zero_le _
 | .mk s t c :: l, h => by
  rw [aHa];have h1 : fw t ≤ K ∧ tyM c ≤ K := h _ zq2;have := aG9 (l := l) fun x hx => h x (zq3 _ hx)
  omega
theorem aHb {K : Nat} : ∀ {l : List Alt}, (∀ x ∈ l, tyM x.body ≤ K) → aMu l ≤ K
 | [], _ => by rw [aMu]; exact zero_le _
 | .mk f n s v c :: l, h => by
  rw [aMu];have h1 : tyM c ≤ K := h _ zq2;have := aHb (l := l) fun x hx => h x (zq3 _ hx)
  omega
theorem CG.tyM {D M X : Nat} : ∀ (k : Nat) (c : Core), m30 c ≤ k → CG D M X c → tyM c ≤ M + D
 | 0, c, h, _ => by have := eT c; omega
 | k + 1, .mk f n s t ks bs al, h, hc => by
  obtain ⟨h1, h2, h3⟩ := hc.ty;have g1 := aQz h1;have g2 := hc.sc;have g3 := aG8 (K := M + D) (l := ks) fun x hx => CG.tyM k x (by have := (hc.kid hx).2.2; omega) (hc.kid hx).1
  have g4 := aG9 (K := M + D) (l := bs) fun x hx => ⟨le_trans (aQz (h3 x hx).1) (h3 x hx).2, CG.tyM k x.body (by have := (hc.bind hx).2; omega) (hc.bind hx).1⟩
  have g5 := aHb (K := M + D) (l := al) fun x hx => CG.tyM k x.body (by have := (hc.alt hx).2; omega) (hc.alt hx).1
  rw [Go.Proofs.YtmoekkcdkjopgaaGreatDoor.tyM];omega
theorem CG.allT {D M X : Nat} {p : Ty → Prop} (hp : ∀ t, wfS t = true → fvm t ≤ M + D → p t) : ∀ (k : Nat) (c : Core), m30 c ≤ k → CG D M X c → allT p c
 | 0, c, h, _ => by have := eT c; omega
 | k + 1, .mk f n s t ks bs al, h, hc => by
  obtain ⟨h1, h2, h3⟩ := hc.ty;rw [Go.Proofs.YtmoekkcdkjopgaaGreatDoor.allT]
  exact ⟨hp t h1 h2, rK.2 fun x hx => CG.allT hp k x (by have := (hc.kid hx).2.2; omega) (hc.kid hx).1,
   kY.2 fun x hx => ⟨hp x.ty (h3 x hx).1 (h3 x hx).2, CG.allT hp k x.body (by have := (hc.bind hx).2; omega) (hc.bind hx).1⟩,
   kZ.2 fun x hx => CG.allT hp k x.body (by have := (hc.alt hx).2; omega) (hc.alt hx).1⟩
theorem CG.tyG {D M X : Nat} (hI : eD 540000000000) (hMD : M + D ≤ 700000) {c : Core} (hc : CG D M X c) : Go.Proofs.YtmoekkcdkjopgaaGreatDoor.allT TyG c := hc.allT (fun t h1 h2 => aXm hI t h1 (by omega)) _ c (le_refl _)
theorem CG.types {D M X : Nat} (hMD : M + D ≤ 700000) {c : Core} (hc : CG D M X c) : aY Tryz.prog 61 [.pa (aA c)] [] (bN (tyR c)) [] ∧ (tyR c).length ≤ 700000 := by
 have h1 := hc.tyM _ c (le_refl _);have h2 := cO c;have h3 := hc.sz;have h4 : Big = 250000000000 := rfl;exact ⟨zD _ c (le_refl _) (by omega) (by omega), by have := hc.sc; omega⟩
noncomputable def sTR : Nat → Core → Str → Ty → Core
 | 0, c, _, _ => c
 | k + 1, .mk f n nm t ks bs al, name, u =>
  if f = 7 ∧ (nm = name ∨ ¬ name ∈ tyR (.mk f n nm t ks bs al)) then .mk f n nm t ks bs al
  else if f = 7 ∧ nm ∈ tfR u then
   jU (fun t => mB t [(name, u)]) (fun x => sTR k x name u) (.mk f n (aZ (tfR u ++ ks.flatMap tyR)) t (ks.map fun x => sTR k x nm (vT (aZ (tfR u ++ ks.flatMap tyR)))) bs al)
  else jU (fun t => mB t [(name, u)]) (fun x => sTR k x name u) (.mk f n nm t ks bs al)
structure UOk (u : Ty) : Prop where
 wf : wfS u = true
 fv : fvm u ≤ 700000
theorem UOk.ps {u : Ty} (h : UOk u) (name : Str) : PsOk [(name, u)] := ⟨by simp, fun p hp => by rw [mem_singleton.1 hp]; exact ⟨h.wf, h.fv⟩, by simp⟩
theorem UOk.var (z : Str) : UOk (vT z) := ⟨aG1, by unfold vT; rw [aKg]; decide⟩
theorem x7 (ps : List (Str × Ty)) : mB zTy ps = zTy := aHk (tn zTy) zTy (le_refl _) rfl ps fun p _ h => by
 have : tfR zTy = [] := rfl;rw [this] at h; cases h
theorem aZf (A : Alg) (ρ : Str → Nat) (name : Str) (u : Ty) : aId A ρ [(name, u)] = fJ ρ name (tW A u ρ) := by
 funext x;unfold aId fJ;by_cases e : x = name
 ·rw [if_pos e, List.find?_cons_of_pos (by simp [e])]
 ·rw [if_neg e, List.find?_cons_of_neg (by simp; exact fun h => e h.symm)]; rfl
structure SB (X : Nat) (c : Core) (name : Str) (u : Ty) (r : Core) : Prop where
 imp : aY Tryz.prog 23 [.pa (aA c), Go.AM.T name, tyV u] [] (.pa (aA r)) []
 q : cI (QL X) r
 cw : ∀ (A : Alg) (E : Nat) (ρ : Str → Nat), cw A E r ρ ≤ cw A E c (fJ ρ name (tW A u ρ))
 ty : ∀ x ∈ tyR r, x ∈ tyR c ∨ x ∈ tfR u
 tl : tlC r ≤ tlC c
 sz : m30 r ≤ m30 c
theorem pO {s s' : Str} {bh bh' : List (Str × Ty)} {ah ah' : List (Str × List Str)} (hs : w30 s' ≤ w30 s) (hb : bh'.map (·.1) = bh.map (·.1)) (ha : ah' = ah) : lw s' bh' ah' ≤ lw s bh ah := by
 subst ha;unfold lw;have e : ∀ l : List (Str × Ty), (l.map fun p => 1 + w30 p.1) = (l.map (·.1)).map fun x => 1 + w30 x := fun l => by rw [map_map]; rfl
 rw [e bh, e bh', hb];omega
section
variable {X : Nat} {ts : Ty → Ty} {sb : Core → Core} {f n : Int} {nm nm1 : Str} {t : Ty} {ks ks1 : List Core} {bs : List Bind} {al : List Alt}
theorem aFj (h : QL X f nm t ks.length (bs.map bhd) (al.map ahd)) (hn : w30 nm1 ≤ w30 nm) (hn5 : f = 5 → nm1 = nm) (hn7 : f = 7 → ¬ nm1 = []) (hk : ks1.length = ks.length) (hz : ts zTy = zTy) (h0 : wfS (ts t) = true) (hb : ∀ b ∈ bs, wfS (ts b.ty) = true)
  (h1 : ∀ x ∈ ks1, cI (QL X) (sb x)) (h2 : ∀ b ∈ bs, cI (QL X) (sb b.body)) (h3 : ∀ a ∈ al, cI (QL X) (sb a.body)) : cI (QL X) (jU ts sb (.mk f n nm1 t ks1 bs al)) := by
 obtain ⟨g1, g2, g3, g4, g5, g6, g7, g8⟩ := h;rw [jU];have ea : (al.map fun a => Alt.mk a.form a.n a.name a.vars (sb a.body)).map ahd = al.map ahd := by rw [map_map]; rfl
 have eb : ((bs.map fun b => Bind.mk b.name (ts b.ty) (sb b.body)).map bhd).map (·.1) = (bs.map bhd).map (·.1) := by rw [map_map, map_map, map_map]; rfl
 refine bC.2 ⟨⟨?_, fun h7 => ⟨by rw [(g2 h7).1]; exact hz, hn7 h7⟩, h0, fun p hp => ?_, le_trans (pO hn eb ea) g5, fun h5 => by rw [hn5 h5]; exact g6 h5, fun p hp => ?_, by rw [ea]; exact g8⟩, fun x hx => ?_, fun x hx => ?_, fun x hx => ?_⟩
 ·rw [length_map, length_map, length_map, length_map, length_map, hk];rw [length_map, length_map] at g1;exact g1
 ·obtain ⟨b, hb', rfl⟩ := mem_map.1 hp;obtain ⟨b0, hb0, rfl⟩ := mem_map.1 hb';exact hb b0 hb0
 ·obtain ⟨b, hb', rfl⟩ := mem_map.1 hp;obtain ⟨b0, hb0, rfl⟩ := mem_map.1 hb';exact g7 (bhd b0) (mem_map.2 ⟨b0, hb0, rfl⟩)
 ·obtain ⟨y, hy, rfl⟩ := mem_map.1 hx; exact h1 y hy
 ·obtain ⟨y, hy, rfl⟩ := mem_map.1 hx; exact h2 y hy
 ·obtain ⟨y, hy, rfl⟩ := mem_map.1 hx; exact h3 y hy
theorem aC9 (hf : tlC (.mk f n nm1 t ks1 bs al) ≤ tlC (.mk f n nm t ks bs al)) (h1 : ∀ x ∈ ks1, tlC (sb x) ≤ tlC x) (h2 : ∀ b ∈ bs, tlC (sb b.body) ≤ tlC b.body) (h3 : ∀ a ∈ al, tlC (sb a.body) ≤ tlC a.body) :
  tlC (jU ts sb (.mk f n nm1 t ks1 bs al)) ≤ tlC (.mk f n nm t ks bs al) := by
 refine le_trans ?_ hf;rw [jU]
 conv => rhs; rw [tlC]
 refine xD.2 ⟨fun x hx => ?_, fun x hx => ?_, fun x hx => ?_⟩
 ·obtain ⟨y, hy, rfl⟩ := mem_map.1 hx;exact le_trans (h1 y hy) (le_trans (aAm.1 (le_refl _) y hy) (le_max_left ..))
 ·obtain ⟨y, hy, rfl⟩ := mem_map.1 hx;exact le_trans (h2 y hy) (le_trans (aAn.1 (le_refl _) y hy) (le_trans (le_max_left ..) (le_max_right ..)))
 ·obtain ⟨y, hy, rfl⟩ := mem_map.1 hx;exact le_trans (h3 y hy) (le_trans (aAo.1 (le_refl _) y hy) (le_trans (le_max_right ..) (le_max_right ..)))
end
theorem aHm {z : Str} : tfR (vT z) = [z] := by unfold vT; rw [tfR, if_pos rfl]
theorem aOz (hI : eD 540000000000) {D M X : Nat} (hMD : M + D ≤ 700000) : ∀ (k : Nat) (c : Core), m30 c ≤ k → CG D M X c → ∀ (name : Str) (u : Ty), UOk u → SB X c name u (sTR k c name u) := by
 intro k
 induction k with
 | zero => intro c h; have := eT c; omega
 | succ k ih =>
 intro c h hc name u hu;have hTG := hc.tyG hI hMD;obtain ⟨hty, htl⟩ := hc.types hMD;have hcs := cO c;have hsz := hc.sz;have hBig : Big = 250000000000 := rfl;have hfr := nN (tn u) u (le_refl _) hu.wf (le_trans hu.fv (by decide));have hfl := nA u;have hufv := hu.fv;obtain ⟨f, n, nm, t, ks, bs, al⟩ := c;obtain ⟨ht0, ht1, htb⟩ := hc.ty;have hq := hc.q;obtain ⟨q1, q2, q3, q4⟩ := bC.1 hq;rw [sTR];have hps := hu.ps name;have htt : ∀ v, wfS v = true → fvm v ≤ M + D → wfS (mB v [(name, u)]) = true ∧ aY Tryz.prog 65 [tyV v, bN [name], .one (.c (.sl 4 [cG u]))] [] (tyV (mB v [(name, u)])) [] := fun v h1 h2 => aRb hI (tn v) v (le_refl _) h1 (by omega) _ hps
 have hcwt : ∀ v, wfS v = true → fvm v ≤ M + D → ∀ A ρ, tW A (mB v [(name, u)]) ρ ≤ tW A v (fJ ρ name (tW A u ρ)) := fun v h1 h2 A ρ => by
  have := aVc A (tn v) v (le_refl _) h1 (by omega) _ hps ρ;rwa [aZf] at this
 have htft : ∀ v, wfS v = true → ∀ x ∈ tfR (mB v [(name, u)]), x ∈ tfR v ∨ x ∈ tfR u := fun v h1 x hx => by
  rcases aR3 (tn v) v (le_refl _) h1 _ x hx with h | ⟨p, hp, _, h⟩
  ·exact .inl h.1
  ·rw [mem_singleton.1 hp] at h; exact .inr h
 by_cases h7 : f = 7
 ·subst h7;obtain ⟨⟨kid, rfl⟩, rfl, rfl⟩ := iR hq (.inr (.inr rfl));obtain ⟨g1, g2, g3⟩ := hc.kid (x := kid) zq2;rw [if_pos rfl] at g2;obtain rfl : t = zTy := (q1.2.1 rfl).1
  have hz0 : tfR zTy = [] := rfl;by_cases hs : nm = name ∨ ¬ name ∈ tyR (.mk 7 n nm zTy [kid] [] [])
  ·rw [if_pos ⟨rfl, hs⟩];have hno : ¬ name ∈ tyR (.mk 7 n nm zTy [kid] [] []) := by
    rcases hs with rfl | hs
    ·intro hin;rcases cD.1 hin with h | ⟨x, _, _, h | h⟩ | ⟨b, hb, _⟩ | ⟨a, ha, _⟩
     ·rw [hz0] at h; cases h
     ·exact h rfl
     ·exact h rfl
     ·cases hb
     ·cases ha
    ·exact hs
   refine ⟨aK7 7 n nm name zTy u [kid] [] [] (by omega) hTG rfl ?_, hq, fun A E ρ => ?_, fun x hx => .inl hx, le_refl _, le_refl _⟩
   ·by_cases e : nm = name
    ·exact .inl e
    ·exact .inr ⟨e, _, hty, hno, by omega⟩
   ·refine le_of_eq (nI fun x hx => ?_);unfold fJ;rw [if_neg fun e => hno (by rw [← e]; exact hx)]
  have hne : nm ≠ name := fun e => hs (.inl e)
  have hin : name ∈ tyR (.mk 7 n nm zTy [kid] [] []) := Classical.byContradiction fun e => hs (.inr e)
  have hink : name ∈ tyR kid := by
   rcases cD.1 hin with h | ⟨x, hx, h, _⟩ | ⟨b, hb, _⟩ | ⟨a, ha, _⟩
   ·rw [hz0] at h; cases h
   ·rw [← mem_singleton.1 hx]; exact h
   ·cases hb
   ·cases ha
  rw [if_neg fun e => hs e.2];obtain ⟨hkty, hktl⟩ := g1.types hMD;have hend : ∀ (nm1 : Str) (kid1 : Core), w30 nm1 ≤ w30 nm → CG D M X kid1 → m30 kid1 ≤ m30 kid → tlC kid1 ≤ tlC kid → (∀ x ∈ tyR kid1, x = nm1 ∨ x ∈ tyR kid ∨ x ∈ tfR u) → (∀ x ∈ tyR kid1, x = nm → nm1 = nm ∨ nm ∈ tfR u) → ¬ nm1 ∈ tfR u → ¬ nm1 = [] →
    (∀ (A : Alg) (E : Nat) (ρ : Str → Nat), cw A E kid1 (fJ (fJ ρ nm1 E) name (tW A u ρ)) ≤ cw A E kid (fJ (fJ ρ name (tW A u ρ)) nm E)) →
    aY Tryz.prog 62 [.one (.vp 700 0), bN (tfR u)] (gHl 7 n nm zTy [kid] [] []) (.tup []) (gHl 7 n nm1 zTy [kid1] [] []) →
    SB X (.mk 7 n nm zTy [kid] [] []) name u (jU (fun t => mB t [(name, u)]) (fun x => sTR k x name u) (.mk 7 n nm1 zTy [kid1] [] [])) := fun nm1 kid1 hw hk1 hkm hkt hkx hky hno hn1 hkc himp => by
   have hS := ih kid1 (by omega) hk1 name u hu;refine ⟨yZ 7 n nm nm1 name zTy u [kid] [kid1] [] [] (fun t => mB t [(name, u)]) (fun x => sTR k x name u) (by omega) hTG rfl (fun _ => ⟨hne, rfl, rfl, _, _, hty, hin, by omega, hfr, himp⟩) (fun e => absurd rfl e) (fun v hv => ?_) (fun x hx => ?_), ?_, fun A E ρ => ?_, fun x hx => ?_, ?_, ?_⟩
   ·rcases hv with rfl | ⟨b, hb, _⟩
    ·exact (htt zTy rfl ht1).2
    ·cases hb
   ·rcases hx with hx | ⟨b, hb, _⟩ | ⟨a, ha, _⟩
    ·rw [mem_singleton.1 hx]; exact hS.imp
    ·cases hb
    ·cases ha
   ·exact aFj (ks := [kid]) (nm := nm) q1 hw (fun e => absurd e (by decide)) (fun _ => hn1) rfl (x7 _) (by rw [x7]; rfl) (fun b hb => by cases hb) (fun x hx => by rw [mem_singleton.1 hx]; exact hS.q) (fun b hb => by cases hb) (fun a ha => by cases ha)
   ·rw [jU];obtain ⟨c0, c1, c2, _, _⟩ := fW.1 (le_refl (cw A E (.mk 7 n nm zTy [kid] [] []) (fJ ρ name (tW A u ρ))));refine fW.2 ⟨c0, by rw [x7]; exact le_trans (le_of_eq (gP (tn zTy) zTy (le_refl _) fun x hx => by rw [hz0] at hx; cases hx)) c1, fun x hx => ?_, fun b hb => (by cases hb), fun a ha => (by cases ha)⟩;obtain ⟨y, hy, rfl⟩ := mem_map.1 hx;rw [mem_singleton.1 hy, if_pos rfl];have c2 := c2 kid zq2;rw [if_pos rfl] at c2;refine le_trans (hS.cw A E (fJ ρ nm1 E)) (le_trans ?_ c2);have e : tW A u (fJ ρ nm1 E) = tW A u ρ := gP (tn u) u (le_refl _) fun y hy => by
     unfold fJ;rw [if_neg fun e => hno (by rw [← e]; exact hy)]
    rw [e];exact hkc A E ρ
   ·rw [jU] at hx;rcases cD.1 hx with h | ⟨y, hy, h, hne'⟩ | ⟨b, hb, _⟩ | ⟨a, ha, _⟩
    ·rw [x7, hz0] at h; cases h
    ·obtain ⟨y0, hy0, rfl⟩ := mem_map.1 hy;rw [mem_singleton.1 hy0] at h;have hne' : ¬ x = nm1 := hne'.resolve_left (fun e => e rfl);rcases hS.ty x h with h | h
     ·rcases hkx x h with h' | h' | h'
      ·exact absurd h' hne'
      ·by_cases e : x = nm
       ·rcases hky x h e with e2 | e2
        ·exact absurd (e.trans e2.symm) hne'
        ·exact .inr (by rw [e]; exact e2)
       ·exact .inl (cD.2 (.inr (.inl ⟨kid, zq2, h', .inr e⟩)))
      ·exact .inr h'
     ·exact .inr h
    ·cases hb
    ·cases ha
   ·refine aC9 ?_ (fun x hx => by rw [mem_singleton.1 hx]; exact hS.tl) (fun b hb => by cases hb) (fun a ha => by cases ha);rw [tlC, tlC, nU, nU, nU, nU];omega
   ·exact aJv hw (by rw [cS, cS, cS, cS]; omega) (fun x hx => by rw [mem_singleton.1 hx]; exact hS.sz) (fun b hb => by cases hb) (fun a ha => by cases ha)
  by_cases hnf : nm ∈ tfR u
  ·rw [if_pos ⟨rfl, hnf⟩];have efm : [kid].flatMap tyR = tyR kid := by simp
   rw [efm, map_cons, map_nil];have hzo := fV (tfR u ++ tyR kid);have hz30 : (aZ (tfR u ++ tyR kid)).length ≤ 30 := mK _ (by rw [length_append]; omega);have hzn := w9 (tfR u ++ tyR kid);generalize hze : aZ (tfR u ++ tyR kid) = z at hzo hz30 hzn;have hS1 := ih kid (by omega) g1 nm (vT z) (UOk.var z);have hkid1 : CG D M X (sTR k kid nm (vT z)) := by
    refine ⟨hS1.q, ?_, ?_, le_trans hS1.sz g1.sz⟩
    ·have := hS1.cw j9 0 r0;have e : tW j9 (vT z) r0 = 0 := rfl;rw [e, aH5] at this;exact le_trans this g1.dep
    ·have h1 := cZ (a := z :: tyR kid) (c := sTR k kid nm (vT z)) fun x hx => by
      rcases hS1.ty x hx with h | h
      ·exact zq3 _ h
      ·rw [aHm] at h; rw [mem_singleton.1 h]; exact zq2
     rw [length_cons] at h1;have h2 := hS1.tl;omega
   have hcl := aE4 n nm zTy kid (sTR k kid nm (vT z)) (tfR u) (by omega) hnf hI hkty (by omega) (by rw [hze]; exact hS1.imp);rw [hze] at hcl;refine hend z _ (aFl hz30) hkid1 hS1.sz hS1.tl (fun x hx => ?_) (fun _ _ _ => .inr hnf) (fun h => hzo (mem_append.2 (.inl h))) hzn (fun A E ρ => ?_) hcl
   ·rcases hS1.ty x hx with h | h
    ·exact .inr (.inl h)
    ·rw [aHm] at h; exact .inl (mem_singleton.1 h)
   ·refine le_trans (hS1.cw A E _) (le_of_eq (nI fun x hx => ?_));have hzn : ¬ z = name := fun e => hzo (by rw [e]; exact mem_append.2 (.inr hink))
    have e : tW A (vT z) (fJ (fJ ρ z E) name (tW A u ρ)) = E := by
     unfold vT;rw [tW, if_pos rfl];unfold fJ;rw [if_neg hzn, if_pos rfl]
    rw [e];unfold fJ;by_cases e1 : x = nm
    ·rw [if_pos e1, if_pos e1]
    ·rw [if_neg e1, if_neg e1];by_cases e2 : x = name
     ·rw [if_pos e2, if_pos e2]
     ·rw [if_neg e2, if_neg e2, if_neg fun e3 => hzo (by rw [← e3]; exact mem_append.2 (.inr hx))]
  ·rw [if_neg fun e => hnf e.2];refine hend nm kid (le_refl _) g1 (le_refl _) (le_refl _) (fun x hx => .inr (.inl hx)) (fun _ _ _ => .inl rfl) hnf (q1.2.1 rfl).2 (fun A E ρ => ?_) (aE5 n nm zTy kid (tfR u) (by omega) hnf);refine le_of_eq (nI fun x _ => ?_);unfold fJ;by_cases e1 : x = nm
   ·rw [if_pos e1, if_pos e1, if_neg fun e2 => hne (e1.symm.trans e2)]
   ·rw [if_neg e1, if_neg e1]
 ·rw [if_neg fun e => h7 e.1, if_neg fun e => h7 e.1];have hk : ∀ x ∈ ks, SB X x name u (sTR k x name u) := fun x hx => ih x (by have := (hc.kid hx).2.2; omega) (hc.kid hx).1 name u hu
  have hb : ∀ x ∈ bs, SB X x.body name u (sTR k x.body name u) := fun x hx => ih x.body (by have := (hc.bind hx).2; omega) (hc.bind hx).1 name u hu
  have ha : ∀ x ∈ al, SB X x.body name u (sTR k x.body name u) := fun x hx => ih x.body (by have := (hc.alt hx).2; omega) (hc.alt hx).1 name u hu
  refine ⟨yZ f n nm nm name t u ks ks bs al (fun t => mB t [(name, u)]) (fun x => sTR k x name u) (by omega) hTG rfl (fun e => absurd e h7) (fun _ => ⟨rfl, rfl⟩) (fun v hv => ?_) (fun x hx => ?_), ?_, fun A E ρ => ?_, fun x hx => ?_, ?_, ?_⟩
  ·rcases hv with rfl | ⟨b, hb', rfl⟩
   ·exact (htt _ ht0 ht1).2
   ·exact (htt _ (htb b hb').1 (htb b hb').2).2
  ·rcases hx with hx | ⟨b, hb', rfl⟩ | ⟨a, ha', rfl⟩
   ·exact (hk x hx).imp
   ·exact (hb b hb').imp
   ·exact (ha a ha').imp
  ·exact aFj q1 (le_refl _) (fun _ => rfl) (fun e => absurd e h7) rfl (x7 _) (htt t ht0 ht1).1 (fun b hb' => (htt b.ty (htb b hb').1 (htb b hb').2).1) (fun x hx => (hk x hx).q) (fun x hx => (hb x hx).q) (fun x hx => (ha x hx).q)
  ·rw [jU];obtain ⟨c0, c1, c2, c3, c4⟩ := fW.1 (le_refl (cw A E (.mk f n nm t ks bs al) (fJ ρ name (tW A u ρ))));refine fW.2 ⟨c0, le_trans (hcwt t ht0 ht1 A ρ) c1, fun x hx => ?_, fun x hx => ?_, fun x hx => ?_⟩
   ·obtain ⟨y, hy, rfl⟩ := mem_map.1 hx;have := c2 y hy;rw [if_neg h7] at this ⊢;exact le_trans ((hk y hy).cw A E ρ) this
   ·obtain ⟨y, hy, rfl⟩ := mem_map.1 hx;exact ⟨le_trans (hcwt y.ty (htb y hy).1 (htb y hy).2 A ρ) (c3 y hy).1, le_trans ((hb y hy).cw A E ρ) (c3 y hy).2⟩
   ·obtain ⟨y, hy, rfl⟩ := mem_map.1 hx;exact le_trans ((ha y hy).cw A E ρ) (c4 y hy)
  ·rw [jU] at hx;rcases cD.1 hx with h | ⟨y, hy, h, _⟩ | ⟨y, hy, h⟩ | ⟨y, hy, h⟩
   ·exact (htft t ht0 x h).imp (fun h => cD.2 (.inl h)) id
   ·obtain ⟨y0, hy0, rfl⟩ := mem_map.1 hy;exact ((hk y0 hy0).ty x h).imp (fun h => cD.2 (.inr (.inl ⟨y0, hy0, h, .inl h7⟩))) id
   ·obtain ⟨y0, hy0, rfl⟩ := mem_map.1 hy;rcases h with h | h
    ·exact (htft y0.ty (htb y0 hy0).1 x h).imp (fun h => cD.2 (.inr (.inr (.inl ⟨y0, hy0, .inl h⟩)))) id
    ·exact ((hb y0 hy0).ty x h).imp (fun h => cD.2 (.inr (.inr (.inl ⟨y0, hy0, .inr h⟩)))) id
   ·obtain ⟨y0, hy0, rfl⟩ := mem_map.1 hy;exact ((ha y0 hy0).ty x h).imp (fun h => cD.2 (.inr (.inr (.inr ⟨y0, hy0, h⟩)))) id
  ·exact aC9 (le_refl _) (fun x hx => (hk x hx).tl) (fun x hx => (hb x hx).tl) (fun x hx => (ha x hx).tl)
  ·exact aJv (le_refl _) (le_refl _) (fun x hx => (hk x hx).sz) (fun x hx => (hb x hx).sz) (fun x hx => (ha x hx).sz)
noncomputable def aXh : Core → List Str → Core
 | .mk f n nm t ks bs al, far => if nm ∈ far then .mk f n (aZ (far ++ ks.flatMap tyR)) t (ks.map fun x => sTR (m30 x) x nm (vT (aZ (far ++ ks.flatMap tyR)))) bs al else .mk f n nm t ks bs al
open Classical in
noncomputable def dB : Nat → Core → Str → Core → Core
 | 0, c, _, _ => c
 | k + 1, c, s, b => if c.form = 1 ∧ c.name = s then b else oZ (dB k) s b (if c.form = 7 ∧ s ∈ pfR c then aXh c (tyR b) else c)
structure RX (X : Nat) (b p r : Core) : Prop where
 q : cI (QL X) r
 cw : ∀ (A : Alg) (E : Nat) (ρ : Str → Nat), cw A E r ρ ≤ max (cw A E p ρ) (cw A E b ρ)
 ty : ∀ x ∈ tyR r, x ∈ tyR p ∨ x ∈ tyR b
 tl : tlC r ≤ tlC p + tlC b
structure R0 (p q : Core) : Prop where
 cw : ∀ (A : Alg) (E : Nat) (ρ : Str → Nat), cw A E q ρ ≤ cw A E p ρ
 ty : ∀ x ∈ tyR q, x ∈ tyR p
 tl : tlC q ≤ tlC p
 sz : m30 q ≤ m30 p
theorem R0.refl (p : Core) : R0 p p := ⟨fun _ _ _ => le_refl _, fun _ h => h, le_refl _, le_refl _⟩
theorem R0.trans {p q r : Core} (h : R0 p q) (k : R0 q r) : R0 p r := ⟨fun A E ρ => le_trans (k.cw A E ρ) (h.cw A E ρ), fun x hx => h.ty x (k.ty x hx), le_trans k.tl h.tl, le_trans k.sz h.sz⟩
theorem R0.rx {X : Nat} {b p q r : Core} (h : R0 p q) (k : RX X b q r) : RX X b p r :=
 ⟨k.q, fun A E ρ => le_trans (k.cw A E ρ) (by have := h.cw A E ρ; omega), fun x hx => (k.ty x hx).imp (h.ty x) id, by have := k.tl; have := h.tl; omega⟩
theorem R0.cg {D M X : Nat} {p q : Core} (h : R0 p q) (hp : CG D M X p) (hq : cI (QL X) q) : CG D M X q :=
 ⟨hq, le_trans (h.cw j9 0 r0) hp.dep, by have := hp.sc; have := h.tl; have := cZ (a := tyR p) h.ty; omega, le_trans h.sz hp.sz⟩
structure TB (X : Nat) (c : Core) (s : Str) (b r : Core) : Prop where
 imp : aY Tryz.prog 25 [.pa (aA c), Go.AM.T s, .pa (aA b)] [] (.pa (aA r)) []
 rx : RX X b c r
 sz : ∀ B, 1 ≤ B → m30 b ≤ 31 * B → m30 r ≤ m30 c * B
theorem aMt {z : Str} : tyR (vC z) = [] := rfl
theorem aMx {z : Str} : tlC (vC z) = 0 := rfl
theorem aOm {A : Alg} {E : Nat} {ρ : Str → Nat} {z : Str} : cw A E (vC z) ρ = A.k := by
 refine Nat.le_antisymm (fW.2 ⟨le_refl _, ?_, fun x hx => (by cases hx), fun x hx => (by cases hx), fun x hx => (by cases hx)⟩) (aZ7 _)
 exact le_of_eq (gP (tn zTy) zTy (le_refl _) fun x hx => by
  have : tfR zTy = [] := rfl
  rw [this] at hx; cases hx)
theorem TB.r0 {X : Nat} {c : Core} {s z : Str} {r : Core} (hz : z.length ≤ 30) (h : TB X c s (vC z) r) : R0 c r :=
 ⟨fun A E ρ => by have := h.rx.cw A E ρ; rw [aOm] at this; have := aZ7 (A := A) (E := E) (ρ := ρ) c; omega,
  fun x hx => (h.rx.ty x hx).resolve_right (by rw [aMt]; exact not_mem_nil), by have := h.rx.tl; rw [aMx] at this; omega,
  by have := h.sz 1 (le_refl _) (by rw [aQq hz]; exact le_refl _); rwa [mul_one] at this⟩
theorem CG.vC {D M X : Nat} {z : Str} (hz : z.length ≤ 30) (hX : 31 ≤ X) : CG D M X (vC z) := by
 refine ⟨bC.2 ⟨⟨rfl, fun h => by omega, rfl, fun p hp => (by cases hp), ?_, fun h => by omega, fun p hp => (by cases hp), fun p hp => (by cases hp)⟩, fun x hx => (by cases hx), fun x hx => (by cases hx), fun x hx => (by cases hx)⟩, ?_, ?_, ?_⟩
 ·show lw z [] [] ≤ X;unfold lw w30;simp only [map_nil, sum_nil];omega
 ·rw [aOm]; exact zero_le _
 ·rw [aMt, aMx]; exact zero_le _
 ·rw [aQq hz]; decide
section
variable {sb : Core → Str → Core → Core} {P : Core → Prop} {X : Nat} {s : Str} {b : Core}
theorem mE {ns : List Str} {ps : List Core} (hP : ∀ p ∈ ps, P p) (hPq : ∀ p, P p → cI (QL X) p) (hz : ∀ p n z, P p → z.length ≤ 30 → P (sb p n (vC z)) ∧ R0 p (sb p n (vC z))) (hs : ∀ p, P p → RX X b p (sb p s b))
  (hl : (ps.flatMap pfR).length + 2 * ns.length + (pfR b).length ≤ 540000000000) : A2 (RX X b) ps (cK sb s b ns ps).2 ∧ A2 NR ns (cK sb s b ns ps).1 := by
 obtain ⟨⟨qs, h1, h2⟩, h3⟩ := aDw (sb := sb) (Rel := fun p q => P p → (P q ∧ R0 p q)) (fun p h => ⟨h, R0.refl p⟩)
  (fun p q r hpq hqr h => by
   obtain ⟨a1, a2⟩ := hpq h;obtain ⟨b1, b2⟩ := hqr a1
   exact ⟨b1, a2.trans b2⟩) (s := s) (b := b) (ns := ns) (ps := ps) (fun p n z hzl h => hz p n z h hzl) hl
 have key : ∀ {ps qs : List Core}, A2 (fun p q => P p → (P q ∧ R0 p q)) ps qs → (∀ p ∈ ps, P p) → A2 (RX X b) ps qs ∧ A2 (RX X b) ps (qs.map fun p => sb p s b) := by
  intro ps qs h
  induction h with
  | nil => intro _; exact ⟨.nil, .nil⟩
  | cons r _ ih =>
   intro hp;obtain ⟨i1, i2⟩ := ih fun p h => hp p (zq3 _ h)
   obtain ⟨g1, g2⟩ := r (hp _ zq2);exact ⟨.cons ⟨hPq _ g1, fun A E ρ => le_trans (g2.cw A E ρ) (le_max_left ..), fun x hx => .inl (g2.ty x hx), le_trans g2.tl (Nat.le_add_right _ _)⟩ i1, .cons (g2.rx (hs _ g1)) i2⟩
 obtain ⟨k1, k2⟩ := key h1 hP;refine ⟨?_, h3⟩;rcases h2 with h2 | h2
 ·rw [h2]; exact k1
 ·rw [h2]; exact k2
end
mutual
theorem l0 : ∀ c : Core, allT (fun _ => True) c
 | .mk f n s t ks bs al => ⟨trivial, u0 ks, u4 bs, u5 al⟩
theorem u0 : ∀ l : List Core, zX (fun _ => True) l
 | [] => trivial
 | c :: l => ⟨l0 c, u0 l⟩
theorem u4 : ∀ l : List Bind, wQ (fun _ => True) l
 | [] => trivial
 | .mk s t c :: l => ⟨trivial, l0 c, u4 l⟩
theorem u5 : ∀ l : List Alt, wR (fun _ => True) l
 | [] => trivial
 | .mk f n s v c :: l => ⟨l0 c, u5 l⟩
end
theorem kI : ∀ {ts : List Ty} {ns : List Str} {ps : List Core}, ns.length = ts.length → ps.length = ts.length → (mkB ts ns ps).map Bind.name = ns
 | [], [], _, _, _ => by unfold mkB; rfl
 | t :: ts, n :: ns, p :: ps, h1, h2 => by
  simp only [length_cons] at h1 h2;rw [mkB, map_cons, kI (ts := ts) (by omega) (by omega)]; rfl
section
variable {sb : Core → Str → Core → Core} {X : Nat} {s : Str} {b : Core} {f n : Int} {nm : Str} {t : Ty} {ks : List Core} {bs : List Bind} {al : List Alt}
theorem aUb (h7 : f ≠ 7) (hq : cI (QL X) (.mk f n nm t ks bs al)) (hg : A2 (RX X b) (ks ++ bs.map Bind.body) (cK sb s b (gvN f nm bs) (ks ++ bs.map Bind.body)).2) (hn : A2 NR (gvN f nm bs) (cK sb s b (gvN f nm bs) (ks ++ bs.map Bind.body)).1)
  (ha : ∀ a ∈ al, A2 (RX X b) [a.body] (cK sb s b a.vars [a.body]).2 ∧ A2 NR a.vars (cK sb s b a.vars [a.body]).1) : RX X b (.mk f n nm t ks bs al) (oZ sb s b (.mk f n nm t ks bs al)) := by
 obtain ⟨⟨q1, q2, q3, q4, q5, q6, q7, q8⟩, qk, qb, qa⟩ := bC.1 hq;have hA : ∀ a ∈ al, RX X b a.body (j1 sb s b a).body ∧ A2 NR a.vars (j1 sb s b a).vars ∧ (j1 sb s b a).name = a.name := fun a ha' => by
  obtain ⟨g1, g2⟩ := ha a ha';refine ⟨?_, g2, rfl⟩;show RX X b a.body ((cK sb s b a.vars [a.body]).2.headD a.body);cases hx : (cK sb s b a.vars [a.body]).2 with
  | nil => rw [hx] at g1; cases g1
  | cons y l' =>
   rw [hx] at g1;cases g1 with
   | cons h _ => exact h
 have hone : f = 5 → bs = [] := fun h5 => (iR hq (.inl h5)).2.1
 rw [oZ];unfold zNm zKs zBs;generalize cK sb s b (gvN f nm bs) (ks ++ bs.map Bind.body) = r at hg hn ⊢;obtain ⟨r1, r2⟩ := r;dsimp only at *;have hK : A2 (RX X b) ks (r2.take ks.length) := by
  have := hg.take ks.length;rwa [take_left] at this
 have hB : A2 (RX X b) (bs.map Bind.body) (r2.drop ks.length) := by
  have := hg.drop ks.length;rwa [drop_left] at this
 have hBl : (r2.drop ks.length).length = bs.length := by rw [hB.length, length_map]
 have hmB : ∀ x ∈ mkB (bs.map Bind.ty) r1 (r2.drop ks.length), ∃ y ∈ bs, RX X b y.body x.body := fun x hx => by
  obtain ⟨p, hp, h⟩ := hB.mem x.body (kJ hx).1;obtain ⟨y, hy, rfl⟩ := mem_map.1 hp;exact ⟨y, hy, h⟩
 have hmT : ∀ x ∈ mkB (bs.map Bind.ty) r1 (r2.drop ks.length), ∃ y ∈ bs, y.ty = x.ty := fun x hx => mem_map.1 (kJ hx).2
 have hnl := hn.length;have hbn : ((mkB (bs.map Bind.ty) r1 (r2.drop ks.length)).map fun x => 1 + w30 x.name).sum ≤ (bs.map fun x => 1 + w30 x.name).sum ∧ (mkB (bs.map Bind.ty) r1 (r2.drop ks.length)).length = bs.length := by
  by_cases h5 : f = 5
  ·have := hone h5; subst this;show ((mkB [] r1 _).map _).sum ≤ _ ∧ (mkB [] r1 _).length = _;unfold mkB; exact ⟨le_refl _, rfl⟩
  ·unfold gvN at hn hnl;rw [if_neg h5, nil_append] at hn hnl;rw [length_map] at hnl;have e1 : ∀ l : List Bind, (l.map fun x => 1 + w30 x.name) = (l.map Bind.name).map fun v => 1 + w30 v := fun l => by rw [map_map]; rfl
   rw [e1, e1, kI (by rw [length_map]; exact hnl) (by rw [length_map]; exact hBl)];exact ⟨xE hn, by rw [qY (by rw [length_map]; exact hnl) (by rw [length_map]; exact hBl), length_map]⟩
 have hbh : ∀ x ∈ mkB (bs.map Bind.ty) r1 (r2.drop ks.length), nh x.name := fun x hx => by
  by_cases h5 : f = 5
  ·have := hone h5; subst this;have hx : x ∈ mkB [] r1 (r2.drop ks.length) := hx;unfold mkB at hx; cases hx
  ·have hn2 := hn;unfold gvN at hn2 hnl;rw [if_neg h5, nil_append] at hn2 hnl;rw [length_map] at hnl;have hxm : x.name ∈ (mkB (bs.map Bind.ty) r1 (r2.drop ks.length)).map Bind.name := mem_map.2 ⟨x, hx, rfl⟩;rw [kI (by rw [length_map]; exact hnl) (by rw [length_map]; exact hBl)] at hxm;obtain ⟨v, hv, hr⟩ := hn2.mem _ hxm;obtain ⟨y, hy, rfl⟩ := mem_map.1 hv;exact hr.nh (q7 (bhd y) (mem_map.2 ⟨y, hy, rfl⟩))
 have hnm : w30 (if f = 5 then r1.headD nm else nm) ≤ w30 nm := by
  split
  ·rename_i hf;unfold gvN at hn;rw [if_pos hf] at hn;cases hn with
   | cons h _ => exact h.w
  ·exact le_refl _
 refine ⟨bC.2 ⟨⟨?_, fun h => absurd h h7, q3, fun p hp => ?_, ?_, fun h5 => ?_, fun p hp => ?_, fun p hp v hv => ?_⟩, fun x hx => ?_, fun x hx => ?_, fun x hx => ?_⟩, fun A E ρ => ?_, fun x hx => ?_, ?_⟩
 ·rw [length_map, length_map, length_map, hbn.2, hK.length];rw [length_map, length_map] at q1;exact q1
 ·obtain ⟨x, hx, rfl⟩ := mem_map.1 hp;obtain ⟨y, hy, e⟩ := hmT x hx;have := q4 (bhd y) (mem_map.2 ⟨y, hy, rfl⟩);show wfS x.ty = true;rw [← e]; exact this
 ·refine le_trans ?_ q5;unfold lw;rw [map_map, map_map, map_map, map_map, map_map];have ea : (al.map (((fun p : Str × List Str => 1 + w30 p.1 + (p.2.map fun v => 1 + w30 v).sum) ∘ ahd) ∘ j1 sb s b)).sum ≤ (al.map ((fun p : Str × List Str => 1 + w30 p.1 + (p.2.map fun v => 1 + w30 v).sum) ∘ ahd)).sum := by
   clear ha q1 q5 hq qa q8
   induction al with
   | nil => exact le_refl _
   | cons a l ih =>
    have h1 := ih fun x hx => hA x (zq3 _ hx)
    obtain ⟨_, h2, h3⟩ := hA a zq2;have h2 := xE h2;simp only [map_cons, sum_cons, Function.comp, ahd] at h1 ⊢;rw [h3];omega
  have eb := hbn.1;have ec : ∀ l : List Bind, (l.map ((fun p : Str × Ty => 1 + w30 p.1) ∘ bhd)).sum = (l.map fun x => 1 + w30 x.name).sum := fun l => rfl
  rw [ec, ec];omega
 ·rw [if_pos h5];unfold gvN at hn;rw [if_pos h5] at hn;cases hn with
  | cons h _ => exact h.nh (q6 h5)
 ·obtain ⟨x, hx, rfl⟩ := mem_map.1 hp;exact hbh x hx
 ·obtain ⟨a, ha', rfl⟩ := mem_map.1 hp;obtain ⟨a0, ha0, rfl⟩ := mem_map.1 ha';obtain ⟨w, hw, hr⟩ := (hA a0 ha0).2.1.mem v hv;exact hr.nh (q8 (ahd a0) (mem_map.2 ⟨a0, ha0, rfl⟩) w hw)
 ·obtain ⟨p, _, h⟩ := hK.mem x hx; exact h.q
 ·obtain ⟨y, _, h⟩ := hmB x hx; exact h.q
 ·obtain ⟨a, ha', rfl⟩ := mem_map.1 hx; exact (hA a ha').1.q
 ·obtain ⟨c0, c1, c2, c3, c4⟩ := fW.1 (le_refl (cw A E (.mk f n nm t ks bs al) ρ));rw [if_neg h7] at c2;generalize cw A E (.mk f n nm t ks bs al) ρ = K at *;refine fW.2 ⟨by omega, by omega, fun x hx => ?_, fun x hx => ⟨?_, ?_⟩, fun x hx => ?_⟩
  ·obtain ⟨p, hp, h⟩ := hK.mem x hx;rw [if_neg h7];have h1 := h.cw A E ρ;have h2 := c2 p hp;omega
  ·obtain ⟨y, hy, e⟩ := hmT x hx;rw [← e];have := (c3 y hy).1
   omega
  ·obtain ⟨y, hy, h⟩ := hmB x hx;have h1 := h.cw A E ρ;have h2 := (c3 y hy).2
   omega
  ·obtain ⟨a, ha', rfl⟩ := mem_map.1 hx;have h1 := (hA a ha').1.cw A E ρ;have h2 := c4 a ha';omega
 ·rcases cD.1 hx with h | ⟨y, hy, h, _⟩ | ⟨y, hy, h⟩ | ⟨y, hy, h⟩
  ·exact .inl (cD.2 (.inl h))
  ·obtain ⟨p, hp, g⟩ := hK.mem y hy;exact (g.ty x h).imp (fun h => cD.2 (.inr (.inl ⟨p, hp, h, .inl h7⟩))) id
  ·rcases h with h | h
   ·obtain ⟨z, hz, e⟩ := hmT y hy;exact .inl (cD.2 (.inr (.inr (.inl ⟨z, hz, .inl (by rw [e]; exact h)⟩))))
   ·obtain ⟨z, hz, g⟩ := hmB y hy;exact (g.ty x h).imp (fun h => cD.2 (.inr (.inr (.inl ⟨z, hz, .inr h⟩)))) id
  ·obtain ⟨a, ha', rfl⟩ := mem_map.1 hy;exact ((hA a ha').1.ty x h).imp (fun h => cD.2 (.inr (.inr (.inr ⟨a, ha', h⟩)))) id
 ·obtain ⟨d1, d2, d3⟩ := mQ (f := f) (n := n) (s := nm) (t := t) (ks := ks) (bs := bs) (al := al);rw [if_neg h7] at d1;generalize tlC (.mk f n nm t ks bs al) = K at *;have := (xD (K := K + tlC b) (f := f) (n := n) (s := (if f = 5 then r1.headD nm else nm)) (t := t) (ks := r2.take ks.length) (bs := mkB (bs.map Bind.ty) r1 (r2.drop ks.length)) (al := al.map (j1 sb s b))).2 ⟨fun x hx => ?_, fun x hx => ?_, fun x hx => ?_⟩
  ·rwa [if_neg h7, zero_add] at this
  ·obtain ⟨p, hp, h⟩ := hK.mem x hx;have := h.tl;have := d1 p hp;omega
  ·obtain ⟨y, hy, h⟩ := hmB x hx;have := h.tl;have := d2 y hy;omega
  ·obtain ⟨a, ha', rfl⟩ := mem_map.1 hx;have := (hA a ha').1.tl;have := d3 a ha';omega
end
theorem tJ (hI : eD 540000000000) {D M X : Nat} (hMD : M + D ≤ 700000) (hX : 31 ≤ X) : ∀ (k : Nat) (c : Core), m30 c ≤ k → CG D M X c → ∀ (s : Str) (b : Core), CG D M X b → TB X c s b (dB k c s b) := by
 intro k
 induction k with
 | zero => intro c h; have := eT c; omega
 | succ k ih =>
 intro c h hc s b hb;have hTG := hc.tyG hI hMD;have hTGb := hb.tyG hI hMD;have hcs := cO c;have hbs := cO b;have hsz := hc.sz;have hszb := hb.sz;have hBig : Big = 250000000000 := rfl;have hpfb := j0 b;have hpfc := j0 c;have hfreec := oE (aR c) c (le_refl _) (by omega);have hfreeb := oE (aR b) b (le_refl _) (by omega);obtain ⟨hbty, hbtl⟩ := hb.types hMD;have hm31 := eT c;have hb31 := eT b;obtain ⟨f, n, nm, t, ks, bs, al⟩ := c;have hq := hc.q;rw [dB];by_cases hv : f = 1 ∧ nm = s
 ·rw [if_pos (show (Core.mk f n nm t ks bs al).form = 1 ∧ (Core.mk f n nm t ks bs al).name = s from hv)];exact ⟨aK4 f n nm t ks bs al s b hv (by omega) hTGb, ⟨hb.q, fun A E ρ => le_max_right .., fun x hx => .inr hx, le_add_left _ _⟩, fun B _ hb' => le_trans hb' (mul_le_mul_right _ hm31)⟩
 rw [if_neg (show ¬ ((Core.mk f n nm t ks bs al).form = 1 ∧ (Core.mk f n nm t ks bs al).name = s) from hv)]
 let P : Core → Prop := fun x => m30 x < m30 (.mk f n nm t ks bs al) ∧ CG D M X x
 have hsub : ∀ p, P p → ∀ n' b', CG D M X b' → TB X p n' b' (dB k p n' b') := fun p hp n' b' hb' => ih p (by have := hp.1; omega) hp.2 n' b' hb'
 have hz : ∀ p m z, P p → z.length ≤ 30 → P (dB k p m (vC z)) ∧ R0 p (dB k p m (vC z)) := fun p m z hp hzl => by
  have h1 := hsub p hp m (vC z) (CG.vC hzl hX);have h2 := h1.r0 hzl;exact ⟨⟨lt_of_le_of_lt h2.sz hp.1, h2.cg hp.2 h1.rx.q⟩, h2⟩
 have hfree : ∀ p, P p → aY Tryz.prog 67 [.pa (aA p)] [] (bN (pfR p)) [] := fun p hp => oE (aR p) p (le_refl _) (by have := cO p; have := hp.1; omega)
 have hok : ∀ ps, (∀ p ∈ ps, P p) → PutOk (dB k) P s b ps := fun ps hps => ⟨hps, fun p hp => hfree p (hps p hp), hfreeb, fun p m z hp hzl => (hz p m z hp hzl).1, fun p m z hp hzl => (hsub p hp m (vC z) (CG.vC hzl hX)).imp, fun p hp => (hsub p hp s b hb).imp, hI⟩
 have hPq : ∀ p, P p → cI (QL X) p := fun p hp => hp.2.q
 have hS : ∀ p, P p → RX X b p (dB k p s b) := fun p hp => (hsub p hp s b hb).rx
 have hSB : ∀ B, 1 ≤ B → m30 b ≤ 31 * B → ∀ p, P p → wfC (dB k p s b) = true ∧ allT (fun _ => True) (dB k p s b) ∧ m30 (dB k p s b) ≤ m30 p * B := fun B hB hbB p hp => by
  have h1 := hsub p hp s b hb;exact ⟨aAc _ h1.rx.q, l0 _, h1.sz B hB hbB⟩
 have hPQ : ∀ p, P p → wfC p = true ∧ allT (fun _ => True) p := fun p hp => ⟨aAc _ hp.2.q, l0 _⟩
 have hzs : ∀ p m z, P p → z.length ≤ 30 → P (dB k p m (vC z)) ∧ m30 (dB k p m (vC z)) ≤ m30 p := fun p m z hp hzl => ⟨(hz p m z hp hzl).1, (hz p m z hp hzl).2.sz⟩
 by_cases h7 : f = 7
 ·subst h7;obtain ⟨⟨kid, rfl⟩, rfl, rfl⟩ := iR hq (.inr (.inr rfl));obtain ⟨g1, g2, g3⟩ := hc.kid (x := kid) zq2;rw [if_pos rfl] at g2;obtain ⟨q1, _⟩ := bC.1 hq;have hnmn : ¬ nm = [] := (q1.2.1 rfl).2
  obtain rfl : t = zTy := (q1.2.1 rfl).1
  have hz0 : tfR zTy = [] := rfl;have hgn : ∀ nm', gvN 7 nm' [] = [] := fun nm' => by unfold gvN; rw [if_neg (by decide)]; rfl
  have easm : ∀ nm' k1, oZ (dB k) s b (.mk 7 n nm' zTy [k1] [] []) = .mk 7 n nm' zTy ((cK (dB k) s b [] [k1]).2.take 1) [] [] := fun nm' k1 => by
   rw [oZ];unfold zNm zKs zBs;rw [hgn, if_neg (by decide)];rfl
  have hpk : P kid := ⟨g3, g1⟩
  have hpfk : pfR (.mk 7 n nm zTy [kid] [] []) = pfP [] [] (pfR kid) := by
   rw [pfR, if_neg (by decide), pH, pH, rM, rR, hgn]
  have hmem : ∀ x, x ∈ pfR (.mk 7 n nm zTy [kid] [] []) ↔ x ∈ pfR kid := fun x => by
   rw [hpfk];constructor
   ·intro hx;have key : ∀ (l o : List Str), x ∈ pfP [] o l → x ∈ o ∨ x ∈ l := by
     intro l
     induction l with
     | nil => intro o h; exact .inl h
     | cons y l ih2 =>
      intro o h;rcases ih2 (pfG [] o y) h with h | h
      ·unfold pfG at h;rw [if_neg (by simp)] at h;rcases vK.1 h with h | h
       ·exact .inl h
       ·exact .inr (by rw [h]; exact zq2)
      ·exact .inr (zq3 _ h)
    rcases key _ _ hx with h | h
    ·cases h
    ·exact h
   ·exact fun hx => qT hx (by simp)
  have hlk : ∀ k1, P k1 → (([k1] : List Core).flatMap pfR).length + 2 * (gvN 7 nm []).length + (pfR b).length ≤ 540000000000 := fun k1 hk1 => by
   rw [hgn];have := j0 k1;have := hk1.1;simp only [flatMap_cons, flatMap_nil, append_nil, length_nil];omega
  by_cases hin : s ∈ pfR (.mk 7 n nm zTy [kid] [] [])
  ·rw [if_pos (show (Core.mk 7 n nm zTy [kid] [] []).form = 7 ∧ _ from ⟨rfl, hin⟩)];have hink := (hmem s).1 hin;have hend : ∀ (nm1 : Str) (k1 : Core), w30 nm1 ≤ w30 nm → P k1 → m30 k1 ≤ m30 kid → tlC k1 ≤ tlC kid → (∀ x ∈ tyR k1, x = nm1 ∨ x ∈ tyR kid) → (∀ x ∈ tyR k1, x = nm → nm1 = nm ∨ nm ∈ tyR b) → ¬ nm1 ∈ tyR b → ¬ nm1 = [] →
     (∀ (A : Alg) (E : Nat) (ρ : Str → Nat), cw A E k1 (fJ ρ nm1 E) ≤ cw A E kid (fJ ρ nm E)) →
     aY Tryz.prog 62 [.one (.vp 700 0), bN (tyR b)] (gHl 7 n nm zTy [kid] [] []) (.tup []) (gHl 7 n nm1 zTy [k1] [] []) →
     TB X (.mk 7 n nm zTy [kid] [] []) s b (oZ (dB k) s b (.mk 7 n nm1 zTy [k1] [] [])) := fun nm1 k1 hw hk1 hkm hkt hkx hky hno hn1 hkc himp => by
    have himpS := oD (dB k) P 7 n nm nm1 zTy [kid] [k1] [] [] s b (by omega) hTG hv rfl (fun e => absurd e (by decide)) (fun _ => ⟨rfl, rfl, _, hfreec, by omega, fun _ => ⟨_, hbty, himp⟩, fun e => absurd hin e⟩) (fun e => absurd rfl e)
     (hok _ fun p hp => by
      have : p = k1 := by simpa using hp
      rw [this]; exact hk1) (fun a ha => by cases ha) (by
      have h1 := hlk k1 hk1;rw [hgn] at h1;simp only [map_nil, append_nil, length_nil, length_cons] at h1 ⊢;have := j0 k1;have := hk1.1;simp only [flatMap_cons, flatMap_nil, append_nil] at h1 ⊢
      omega) (fun a ha => by cases ha)
    obtain ⟨hA, _⟩ := mE (sb := dB k) (P := P) (X := X) (s := s) (b := b) (ns := []) (ps := [k1]) (fun p hp => by rw [mem_singleton.1 hp]; exact hk1) hPq hz hS (by have := hlk k1 hk1; rwa [hgn] at this);rw [easm] at himpS ⊢;have hszB : ∀ B, 1 ≤ B → m30 b ≤ 31 * B → m30 (.mk 7 n nm1 zTy ((cK (dB k) s b [] [k1]).2.take 1) [] []) ≤ m30 (.mk 7 n nm zTy [kid] [] []) * B := fun B hB hbB => by
     have hg := aA4 (sb := dB k) (P := P) (T := fun _ => True) (s := s) (b := b) (ns := []) (ps := [k1]) hB (fun p hp => by rw [mem_singleton.1 hp]; exact hk1) hzs hPQ (hSB B hB hbB) (by have := hlk k1 hk1; rwa [hgn] at this);have hsm := aEe (hg.sm.take 1);have e : ([k1] : List Core).take 1 = [k1] := rfl;rw [e, cS, cS, add_zero] at hsm;rw [m30, m30, fR, iL, cS, cS, add_zero, add_zero, add_zero, add_mul];have h5 : 1 + w30 nm1 ≤ (1 + w30 nm) * B := le_trans (by omega) (le_mul_of_pos_right _ hB);have h6 : m30 k1 * B ≤ m30 kid * B := mul_le_mul_right _ hkm;omega
    cases hx : (cK (dB k) s b [] [k1]).2 with
    | nil => rw [hx] at hA; cases hA
    | cons y l' =>
     rw [hx] at hA himpS hszB;cases hA with
     | cons hy _ =>
      refine ⟨himpS, ⟨bC.2 ⟨⟨rfl, fun _ => ⟨rfl, hn1⟩, rfl, fun p hp => (by cases hp), ?_⟩, fun x hx => ?_, fun x hx => (by cases hx), fun x hx => (by cases hx)⟩, fun A E ρ => ?_, fun x hx => ?_, ?_⟩, hszB⟩
      ·exact ⟨le_trans (pO hw rfl rfl) q1.2.2.2.2.1, fun e => absurd e (by decide), fun p hp => (by cases hp), fun p hp => (by cases hp)⟩
      ·have : x = y := by simpa using hx
       rw [this]; exact hy.q
      ·obtain ⟨c0, c1, c2, _, _⟩ := fW.1 (le_refl (cw A E (.mk 7 n nm zTy [kid] [] []) ρ));have c2 := c2 kid zq2;rw [if_pos rfl] at c2;refine fW.2 ⟨by omega, by omega, fun x hx => ?_, fun x hx => (by cases hx), fun x hx => (by cases hx)⟩;have : x = y := by simpa using hx
       rw [this, if_pos rfl];have h1 := hy.cw A E (fJ ρ nm1 E);have h2 := hkc A E ρ;have h3 : cw A E b (fJ ρ nm1 E) = cw A E b ρ := nI fun y hy => by
        unfold fJ;rw [if_neg fun e => hno (by rw [← e]; exact hy)]
       omega
      ·rcases cD.1 hx with h | ⟨z, hz', h, hne'⟩ | ⟨z, hz', _⟩ | ⟨z, hz', _⟩
       ·rw [hz0] at h; cases h
       ·have : z = y := by simpa using hz'
        rw [this] at h;have hne' : ¬ x = nm1 := hne'.resolve_left (fun e => e rfl);rcases hy.ty x h with h | h
        ·rcases hkx x h with h' | h'
         ·exact absurd h' hne'
         ·by_cases e : x = nm
          ·rcases hky x h e with e2 | e2
           ·exact absurd (e.trans e2.symm) hne'
           ·exact .inr (by rw [e]; exact e2)
          ·exact .inl (cD.2 (.inr (.inl ⟨kid, zq2, h', .inr e⟩)))
        ·exact .inr h
       ·cases hz'
       ·cases hz'
      ·have d1 := hy.tl;show tlC (.mk 7 n nm1 zTy [y] [] []) ≤ tlC (.mk 7 n nm zTy [kid] [] []) + tlC b;rw [tlC, tlC, nU, nU, nU, nU, xB, xC];omega
   rw [aXh];by_cases hnb : nm ∈ tyR b
   ·rw [if_pos hnb];have efm : [kid].flatMap tyR = tyR kid := by simp
    rw [efm, map_cons, map_nil];obtain ⟨hkty, hktl⟩ := g1.types hMD;have hzo := fV (tyR b ++ tyR kid);have hz30 : (aZ (tyR b ++ tyR kid)).length ≤ 30 := mK _ (by rw [length_append]; omega);have hzn := w9 (tyR b ++ tyR kid);generalize hze : aZ (tyR b ++ tyR kid) = z at hzo hz30 hzn;have hS1 := aOz hI hMD (m30 kid) kid (le_refl _) g1 nm (vT z) (UOk.var z);have hkid1 : CG D M X (sTR (m30 kid) kid nm (vT z)) := by
     refine ⟨hS1.q, ?_, ?_, le_trans hS1.sz g1.sz⟩
     ·have := hS1.cw j9 0 r0;have e : tW j9 (vT z) r0 = 0 := rfl;rw [e, aH5] at this;exact le_trans this g1.dep
     ·have h1 := cZ (a := z :: tyR kid) (c := sTR (m30 kid) kid nm (vT z)) fun x hx => by
       rcases hS1.ty x hx with h | h
       ·exact zq3 _ h
       ·rw [aHm] at h; rw [mem_singleton.1 h]; exact zq2
      rw [length_cons] at h1;have h2 := hS1.tl;omega
    have hcl := aE4 n nm zTy kid (sTR (m30 kid) kid nm (vT z)) (tyR b) (by omega) hnb hI hkty (by omega) (by rw [hze]; exact hS1.imp);rw [hze] at hcl;refine hend z _ (aFl hz30) ⟨lt_of_le_of_lt hS1.sz g3, hkid1⟩ hS1.sz hS1.tl (fun x hx => ?_) (fun _ _ _ => .inr hnb) (fun h => hzo (mem_append.2 (.inl h))) hzn (fun A E ρ => ?_) hcl
    ·rcases hS1.ty x hx with h | h
     ·exact .inr h
     ·rw [aHm] at h; exact .inl (mem_singleton.1 h)
    ·refine le_trans (hS1.cw A E _) (le_of_eq (nI fun x hx => ?_));have e : tW A (vT z) (fJ ρ z E) = E := by
      unfold vT;rw [tW, if_pos rfl];unfold fJ;rw [if_pos rfl]
     rw [e];unfold fJ;by_cases e1 : x = nm
     ·rw [if_pos e1, if_pos e1]
     ·rw [if_neg e1, if_neg e1, if_neg fun e3 => hzo (by rw [← e3]; exact mem_append.2 (.inr hx))]
   ·rw [if_neg hnb];exact hend nm kid (le_refl _) hpk (le_refl _) (le_refl _) (fun x hx => .inr hx) (fun _ _ _ => .inl rfl) hnb hnmn (fun A E ρ => le_refl _) (aE5 n nm zTy kid (tyR b) (by omega) hnb)
  ·rw [if_neg (show ¬ ((Core.mk 7 n nm zTy [kid] [] []).form = 7 ∧ s ∈ pfR (Core.mk 7 n nm zTy [kid] [] [])) from fun h => hin h.2)];have hnk : ¬ s ∈ pfR kid := fun h => hin ((hmem s).2 h)
   have himpS := oD (dB k) P 7 n nm nm zTy [kid] [kid] [] [] s b (by omega) hTG hv rfl (fun e => absurd e (by decide)) (fun _ => ⟨rfl, rfl, _, hfreec, by omega, fun e => absurd e hin, fun _ => ⟨rfl, rfl⟩⟩) (fun e => absurd rfl e)
    (hok _ fun p hp => by
     have : p = kid := by simpa using hp
     rw [this]; exact hpk) (fun a ha => by cases ha) (by
     have h1 := hlk kid hpk;rw [hgn] at h1;simp only [map_nil, append_nil, length_nil, length_cons] at h1 ⊢;have := j0 kid;have := hpk.1;simp only [flatMap_cons, flatMap_nil, append_nil] at h1 ⊢
     omega) (fun a ha => by cases ha)
   have e5 : cK (dB k) s b [] [kid] = ([], [kid]) := by
    unfold cK;rw [if_neg];exact fun h => hnk (by simpa using h.1)
   rw [easm, e5] at himpS ⊢;have himpS : aY Tryz.prog 25 [.pa (aA (.mk 7 n nm zTy [kid] [] [])), Go.AM.T s, .pa (aA b)] [] (.pa (aA (.mk 7 n nm zTy [kid] [] []))) [] := himpS;show TB X (.mk 7 n nm zTy [kid] [] []) s b (.mk 7 n nm zTy [kid] [] []);exact ⟨himpS, ⟨hq, fun A E ρ => le_max_left .., fun x hx => .inl hx, Nat.le_add_right _ _⟩, fun B hB _ => le_mul_of_pos_right _ hB⟩
 ·rw [if_neg (show ¬ ((Core.mk f n nm t ks bs al).form = 7 ∧ s ∈ pfR (Core.mk f n nm t ks bs al)) from fun h => h7 h.1)];have hP1 : ∀ x ∈ ks, P x := fun x hx => ⟨(hc.kid hx).2.2, (hc.kid hx).1⟩
  have hP2 : ∀ x ∈ bs, P x.body := fun x hx => ⟨(hc.bind hx).2, (hc.bind hx).1⟩
  have hP3 : ∀ x ∈ al, P x.body := fun x hx => ⟨(hc.alt hx).2, (hc.alt hx).1⟩
  have hPs : ∀ p ∈ ks ++ bs.map Bind.body, P p := fun p hp => by
   rcases mem_append.1 hp with hp | hp
   ·exact hP1 p hp
   ·obtain ⟨x, hx, rfl⟩ := mem_map.1 hp;exact hP2 x hx
  have hm := hsz;rw [m30] at hm;have hfm := aEo (ks ++ bs.map Bind.body);rw [pN] at hfm;have hbsb := r4 bs;have hksl := aEd ks;have hgv := aBg (f := f) (nm := nm) (bs := bs);have hla : ∀ a ∈ al, (pfR a.body).length + 2 * a.vars.length + (pfR b).length + 1 ≤ 540000000000 := fun a ha => by
   have h1 := gD ha;have h2 := qF a.vars;have h3 := j0 a.body;omega
  have hM : ((ks ++ bs.map Bind.body).flatMap pfR).length + 2 * (1 + bs.length) + (pfR b).length + (ks.length + bs.length) ≤ 540000000000 := by omega
  have himpS := oD (dB k) P f n nm nm t ks ks bs al s b (by omega) hTG hv rfl (fun hf => iR hq (.inl hf)) (fun e => absurd e h7) (fun _ => ⟨rfl, rfl⟩) (hok _ hPs) (fun a ha => hok _ fun p hp => by rw [mem_singleton.1 hp]; exact hP3 a ha) hM hla;have hgl : ((ks ++ bs.map Bind.body).flatMap pfR).length + 2 * (gvN f nm bs).length + (pfR b).length ≤ 540000000000 := by omega
  have hal' : ∀ a ∈ al, (([a.body] : List Core).flatMap pfR).length + 2 * a.vars.length + (pfR b).length ≤ 540000000000 := fun a ha => by
   have := hla a ha;simp only [flatMap_cons, flatMap_nil, append_nil];omega
  obtain ⟨hA, hN⟩ := mE (sb := dB k) (P := P) (X := X) (s := s) (b := b) (ns := gvN f nm bs) hPs hPq hz hS hgl;have hAa : ∀ a ∈ al, A2 (RX X b) [a.body] (cK (dB k) s b a.vars [a.body]).2 ∧ A2 NR a.vars (cK (dB k) s b a.vars [a.body]).1 := fun a ha =>
   mE (sb := dB k) (P := P) (X := X) (s := s) (b := b) (fun p hp => by rw [mem_singleton.1 hp]; exact hP3 a ha) hPq hz hS (hal' a ha)
  refine ⟨himpS, aUb h7 hq hA hN hAa, fun B hB hbB => ?_⟩;have hg := aA4 (sb := dB k) (P := P) (T := fun _ => True) (s := s) (b := b) (ns := gvN f nm bs) hB hPs hzs hPQ (hSB B hB hbB) hgl;have hga : ∀ a ∈ al, PK B (fun _ => True) a.vars [a.body] (cK (dB k) s b a.vars [a.body]) := fun a ha => aA4 hB (fun p hp => by rw [mem_singleton.1 hp]; exact hP3 a ha) hzs hPQ (hSB B hB hbB) (hal' a ha)
  exact (aLy (n := n) (nm := nm) hB hg hga trivial (fun x hx => trivial) (fun hf => iR hq hf) (fun hf => u6 hq hf)).2.2
theorem v8 {G : List Str} {x : Str} : ∀ {l o : List Str}, x ∈ pfP G o l → x ∈ o ∨ (x ∈ l ∧ ¬ x ∈ G)
 | [], o, h => .inl h
 | y :: l, o, h => by
  rcases v8 (l := l) (o := pfG G o y) h with h | ⟨h, hG⟩
  ·unfold pfG at h;split at h
   ·exact .inl h
   ·rename_i hy;rcases vK.1 h with h | h
    ·exact .inl h
    ·exact .inr ⟨by rw [h]; exact zq2, by rw [h]; exact hy⟩
  ·exact .inr ⟨zq3 _ h, hG⟩
theorem aDz {G : List Str} {x : Str} : ∀ {l : List Core} {o : List Str}, x ∈ pH G l o → x ∈ o ∨ ∃ c ∈ l, x ∈ pfR c ∧ ¬ x ∈ G
 | [], o, h => by rw [pH] at h; exact .inl h
 | c :: l, o, h => by
  rw [pH] at h;rcases aDz h with h | ⟨d, hd, h⟩
  ·rcases v8 h with h | h
   ·exact .inl h
   ·exact .inr ⟨c, zq2, h⟩
  ·exact .inr ⟨d, zq3 _ hd, h⟩
theorem aD0 {G : List Str} {x : Str} : ∀ {l : List Bind} {o : List Str}, x ∈ rM G l o → x ∈ o ∨ ∃ c ∈ l, x ∈ pfR c.body ∧ ¬ x ∈ G
 | [], o, h => by rw [rM] at h; exact .inl h
 | .mk s t c :: l, o, h => by
  rw [rM] at h;rcases aD0 h with h | ⟨d, hd, h⟩
  ·rcases v8 h with h | h
   ·exact .inl h
   ·exact .inr ⟨.mk s t c, zq2, h⟩
  ·exact .inr ⟨d, zq3 _ hd, h⟩
theorem aD1 {x : Str} : ∀ {l : List Alt} {o : List Str}, x ∈ rR l o → x ∈ o ∨ ∃ a ∈ l, x ∈ pfR a.body ∧ ¬ x ∈ a.vars
 | [], o, h => by rw [rR] at h; exact .inl h
 | .mk f n s v c :: l, o, h => by
  rw [rR] at h;rcases aD1 h with h | ⟨d, hd, h⟩
  ·rcases v8 h with h | h
   ·exact .inl h
   ·exact .inr ⟨.mk f n s v c, zq2, h⟩
  ·exact .inr ⟨d, zq3 _ hd, h⟩
section
variable {f n : Int} {nm : Str} {t : Ty} {ks : List Core} {bs : List Bind} {al : List Alt} {x : Str}
theorem oN (hf : f ≠ 1) : x ∈ pfR (.mk f n nm t ks bs al) ↔ (∃ p ∈ ks ++ bs.map Bind.body, x ∈ pfR p ∧ ¬ x ∈ gvN f nm bs) ∨ ∃ a ∈ al, x ∈ pfR a.body ∧ ¬ x ∈ a.vars := by
 constructor
 ·intro h;rw [pfR, if_neg hf] at h;rcases aD1 h with h | h
  ·rcases aD0 h with h | ⟨b, hb, h⟩
   ·rcases aDz h with h | ⟨c, hc, h⟩
    ·cases h
    ·exact .inl ⟨c, mem_append.2 (.inl hc), h⟩
   ·exact .inl ⟨b.body, mem_append.2 (.inr (mem_map.2 ⟨b, hb, rfl⟩)), h⟩
  ·exact .inr h
 ·rintro (⟨p, hp, h1, h2⟩ | ⟨a, ha, h1, h2⟩)
  ·rw [pfR, if_neg hf];refine vF ?_;rcases mem_append.1 hp with hp | hp
   ·exact vD (vA hp h1 h2)
   ·obtain ⟨b, hb, rfl⟩ := mem_map.1 hp;exact vB hb h1 h2
  ·rw [pfR, if_neg hf];exact vE ha h1 h2
end
mutual
def mS (σ : Str → Nat) : Core → Nat
 | .mk f _ s _ ks bs al => (if f = 1 then σ s else 1 + w30 s) + mSs σ ks + mSb σ bs + mSa σ al
def mSs (σ : Str → Nat) : List Core → Nat
 | [] => 0
 | c :: l => mS σ c + mSs σ l
def mSb (σ : Str → Nat) : List Bind → Nat
 | [] => 0
 | .mk s _ c :: l => 1 + w30 s + mS σ c + mSb σ l
def mSa (σ : Str → Nat) : List Alt → Nat
 | [] => 0
 | .mk _ _ s vs c :: l => 1 + w30 s + (vs.map fun v => 1 + w30 v).sum + mS σ c + mSa σ l
end
structure Sg (σ : Str → Nat) : Prop where
 ge : ∀ s, 1 + w30 s ≤ σ s
 fr : ∀ l, (aZ l).length ≤ 30 → σ (aZ l) ≤ 31
section
variable {σ : Str → Nat}
theorem aZv {z : Str} : mS σ (vC z) = σ z := by unfold vC; rw [mS, if_pos rfl, mSs, mSb, mSa]; rfl
theorem aJr {g : Core → Core} : ∀ {l : List Core}, (∀ x ∈ l, mS σ (g x) ≤ mS σ x) → mSs σ (l.map g) ≤ mSs σ l
 | [], _ => le_refl _
 | c :: l, h => by
  rw [map_cons, mSs, mSs];have := h c zq2;have := aJr (l := l) fun x hx => h x (zq3 _ hx)
  omega
theorem aJs {ts : Ty → Ty} {g : Core → Core} : ∀ {l : List Bind}, (∀ x ∈ l, mS σ (g x.body) ≤ mS σ x.body) → mSb σ (l.map fun b => .mk b.name (ts b.ty) (g b.body)) ≤ mSb σ l
 | [], _ => le_refl _
 | .mk s t c :: l, h => by
  rw [map_cons, mSb, mSb];have h1 := h _ zq2;have h2 := aJs (ts := ts) (l := l) fun x hx => h x (zq3 _ hx)
  simp only [Bind.body, Bind.name] at h1 h2 ⊢;omega
theorem aJt {g : Core → Core} : ∀ {l : List Alt}, (∀ x ∈ l, mS σ (g x.body) ≤ mS σ x.body) → mSa σ (l.map fun a => .mk a.form a.n a.name a.vars (g a.body)) ≤ mSa σ l
 | [], _ => le_refl _
 | .mk f n s vs c :: l, h => by
  rw [map_cons, mSa, mSa];have h1 := h _ zq2;have h2 := aJt (l := l) fun x hx => h x (zq3 _ hx)
  simp only [Alt.body, Alt.name, Alt.vars] at h1 h2 ⊢;omega
theorem aQp {ts : Ty → Ty} {sb : Core → Core} {f n : Int} {nm nm1 : Str} {t : Ty} {ks ks1 : List Core} {bs : List Bind} {al : List Alt} (h1f : f = 1 → nm1 = nm) (hn : w30 nm1 ≤ w30 nm) (hk : mSs σ ks1 ≤ mSs σ ks)
  (h1 : ∀ x ∈ ks1, mS σ (sb x) ≤ mS σ x) (h2 : ∀ b ∈ bs, mS σ (sb b.body) ≤ mS σ b.body) (h3 : ∀ a ∈ al, mS σ (sb a.body) ≤ mS σ a.body) :
  mS σ (jU ts sb (.mk f n nm1 t ks1 bs al)) ≤ mS σ (.mk f n nm t ks bs al) := by
 rw [jU, mS, mS];have := aJr h1;have := aJs (ts := ts) h2;have := aJt h3;by_cases e : f = 1
 ·rw [if_pos e, if_pos e, h1f e]; omega
 ·rw [if_neg e, if_neg e]; omega
end
theorem kA : ∀ (k : Nat) (c : Core) (name : Str) (u : Ty), skT (sTR k c name u) = skT c
 | 0, c, _, _ => rfl
 | k + 1, .mk f n nm t ks bs al, name, u => by
  rw [sTR];split
  ·rfl
  ·split
   ·rename_i h;refine aH3 (fun h7 => absurd h.1 h7) ?_ (fun x _ => kA k x name u) (fun b _ => kA k b.body name u) (fun a _ => kA k a.body name u);rw [map_map];exact map_congr_left fun x _ => kA k x nm _
   ·exact aH3 (fun _ => rfl) rfl (fun x _ => kA k x name u) (fun b _ => kA k b.body name u) (fun a _ => kA k a.body name u)
theorem aWi (k : Nat) (c : Core) (name : Str) (u : Ty) : pfR (sTR k c name u) = pfR c := by rw [← aIz, kA, aIz]
theorem aRy (hI : eD 540000000000) {D M X : Nat} (hMD : M + D ≤ 700000) {kid : Core} (g1 : CG D M X kid) (g2 : (tyR kid).length + 2 * tlC kid + 1 ≤ M) (k : Nat) (hk : m30 kid ≤ k) (nm z : Str) : CG D M X (sTR k kid nm (vT z)) := by
 have hS1 := aOz hI hMD k kid hk g1 nm (vT z) (UOk.var z);refine ⟨hS1.q, ?_, ?_, le_trans hS1.sz g1.sz⟩
 ·have := hS1.cw j9 0 r0;have e : tW j9 (vT z) r0 = 0 := rfl;rw [e, aH5] at this;exact le_trans this g1.dep
 ·have h1 := cZ (a := z :: tyR kid) (c := sTR k kid nm (vT z)) fun x hx => by
   rcases hS1.ty x hx with h | h
   ·exact zq3 _ h
   ·rw [aHm] at h; rw [mem_singleton.1 h]; exact zq2
  rw [length_cons] at h1;have h2 := hS1.tl;omega
theorem aWs (hI : eD 540000000000) {D M X : Nat} (hMD : M + D ≤ 700000) {σ : Str → Nat} : ∀ (k : Nat) (c : Core), m30 c ≤ k → CG D M X c → ∀ (name : Str) (u : Ty), UOk u → mS σ (sTR k c name u) ≤ mS σ c := by
 intro k
 induction k with
 | zero => intro c h; have := eT c; omega
 | succ k ih =>
 intro c h hc name u hu;obtain ⟨f, n, nm, t, ks, bs, al⟩ := c;rw [sTR];split
 ·exact le_refl _
 ·split
  ·rename_i h7;obtain ⟨rfl, hnf⟩ := h7;obtain ⟨⟨kid, rfl⟩, rfl, rfl⟩ := iR hc.q (.inr (.inr rfl));obtain ⟨g1, g2, g3⟩ := hc.kid (x := kid) zq2;rw [if_pos rfl] at g2;obtain ⟨_, hktl⟩ := g1.types hMD;have hfl := nA u;have hufv := hu.fv;have efm : [kid].flatMap tyR = tyR kid := by simp
   rw [efm, map_cons, map_nil];have hz30 : (aZ (tfR u ++ tyR kid)).length ≤ 30 := mK _ (by rw [length_append]; omega);have h1 := ih kid (by omega) g1 nm (vT (aZ (tfR u ++ tyR kid))) (UOk.var _);have hk1 := aRy hI hMD g1 g2 k (by omega) nm (aZ (tfR u ++ tyR kid));have hS1 := (aOz hI hMD k kid (by omega) g1 nm (vT (aZ (tfR u ++ tyR kid))) (UOk.var _)).sz;have h2 := ih _ (by omega) hk1 name u hu;refine aQp (fun e => absurd e (by decide)) (aFl hz30) (by rw [mSs, mSs, mSs, mSs]; omega) (fun x hx => ?_) (fun b hb => by cases hb) (fun a ha => by cases ha);rw [mem_singleton.1 hx]; exact h2
  ·exact aQp (fun _ => rfl) (le_refl _) (le_refl _) (fun x hx => ih x (by have := (hc.kid hx).2.2; omega) (hc.kid hx).1 name u hu) (fun x hx => ih x.body (by have := (hc.bind hx).2; omega) (hc.bind hx).1 name u hu) (fun x hx => ih x.body (by have := (hc.alt hx).2; omega) (hc.alt hx).1 name u hu)
def Fr (z : Str) : Prop := ∃ l, z = aZ l
section
variable {sb : Core → Str → Core → Core} {P : Core → Prop}
theorem vY {far : List Str} : ∀ {ns : List Str} {st : List Str × List Core × List Str}, (∀ x ∈ st.1, x ∈ (iU sb far ns st).1) ∧ ∀ n ∈ ns, n ∈ (iU sb far ns st).1 ∨ n ∈ far
 | [], st => ⟨fun _ h => h, fun n hn => by cases hn⟩
 | n :: ns, st => by
  obtain ⟨h1, h2⟩ := vY (far := far) (ns := ns) (st := dE sb far st n);have e : iU sb far (n :: ns) st = iU sb far ns (dE sb far st n) := rfl;rw [e];refine ⟨fun x hx => h1 x ?_, fun m hm => ?_⟩
  ·unfold dE; split <;> exact mem_append.2 (.inl hx)
  ·rcases mem_cons.1 hm with rfl | hm
   ·by_cases hf : m ∈ far
    ·exact .inr hf
    ·refine .inl (h1 m ?_);unfold dE; rw [if_neg hf]; exact mem_append.2 (.inr (mem_singleton.2 rfl))
   ·exact h2 m hm
structure RN (p : Core) (out : List Str) (q : Core) : Prop where
 pf : ∀ x ∈ pfR q, x ∈ pfR p ∨ x ∈ out
 ms : ∀ σ, Sg σ → mS σ q ≤ mS σ p
theorem aBm {far : List Str} (hz : ∀ p n z, P p → Fr z → z.length ≤ 30 → P (sb p n (vC z)) ∧ (∀ x ∈ pfR (sb p n (vC z)), x ∈ pfR p ∨ x = z) ∧ ∀ σ, Sg σ → mS σ (sb p n (vC z)) ≤ mS σ p) :
  ∀ {ns : List Str} {st : List Str × List Core × List Str}, st.2.2.length + ns.length ≤ 540000000000 → (∀ p ∈ st.2.1, P p) → A2 (fun p q => P q ∧ RN p (iU sb far ns st).1 q) st.2.1 (iU sb far ns st).2.1
 | [], st, _, hP => by
  show A2 (fun p q => P q ∧ RN p st.1 q) st.2.1 st.2.1;have key : ∀ l : List Core, (∀ p ∈ l, P p) → A2 (fun p q => P q ∧ RN p st.1 q) l l := by
   intro l
   induction l with
   | nil => intro _; exact .nil
   | cons p l ih => intro h; exact .cons ⟨h p zq2, fun x hx => .inl hx, fun _ _ => le_refl _⟩ (ih fun q hq => h q (zq3 _ hq))
  exact key _ hP
 | n :: ns, st, hl, hP => by
  simp only [length_cons] at hl;have hg := n8 (sb := sb) (far := far) (st := st) (n := n);have e : iU sb far (n :: ns) st = iU sb far ns (dE sb far st n) := rfl;rw [e];have hf : (aZ st.2.2).length ≤ 30 := mK _ (by omega);by_cases hn : n ∈ far
  ·have es : dE sb far st n = (st.1 ++ [aZ st.2.2], st.2.1.map (fun p => sb p n (vC (aZ st.2.2))), st.2.2 ++ [aZ st.2.2]) := by unfold dE; rw [if_pos hn]
   rw [es] at hg ⊢;have hP2 : ∀ p ∈ st.2.1.map (fun p => sb p n (vC (aZ st.2.2))), P p := fun p hp => by
    obtain ⟨q, hq, rfl⟩ := mem_map.1 hp;exact (hz q n _ (hP q hq) ⟨_, rfl⟩ hf).1
   have hr := aBm hz (far := far) (ns := ns) (st := (st.1 ++ [aZ st.2.2], st.2.1.map (fun p => sb p n (vC (aZ st.2.2))), st.2.2 ++ [aZ st.2.2])) (by omega) hP2;have hout := (vY (sb := sb) (far := far) (ns := ns) (st := (st.1 ++ [aZ st.2.2], st.2.1.map (fun p => sb p n (vC (aZ st.2.2))), st.2.2 ++ [aZ st.2.2]))).1 (aZ st.2.2) (mem_append.2 (.inr (mem_singleton.2 rfl)))
   generalize iU sb far ns (st.1 ++ [aZ st.2.2], st.2.1.map (fun p => sb p n (vC (aZ st.2.2))), st.2.2 ++ [aZ st.2.2]) = r at hr hout ⊢;dsimp only at hr;have key : ∀ (l : List Core) (m : List Core), (∀ p ∈ l, P p) → A2 (fun p q => P q ∧ RN p r.1 q) (l.map (fun p => sb p n (vC (aZ st.2.2)))) m → A2 (fun p q => P q ∧ RN p r.1 q) l m := by
    intro l
    induction l with
    | nil => intro m _ h; cases h; exact .nil
    | cons p l ih2 =>
     intro m hp h;cases h with
     | cons h1 h2 =>
      obtain ⟨_, z2, z3⟩ := hz p n _ (hp p zq2) ⟨_, rfl⟩ hf;refine .cons ⟨h1.1, fun x hx => ?_, fun σ hσ => le_trans (h1.2.ms σ hσ) (z3 σ hσ)⟩ (ih2 _ (fun q hq => hp q (zq3 _ hq)) h2);rcases h1.2.pf x hx with h | h
      ·rcases z2 x h with h | h
       ·exact .inl h
       ·exact .inr (by rw [h]; exact hout)
      ·exact .inr h
   exact key _ _ hP hr
  ·have es : dE sb far st n = (st.1 ++ [n], st.2.1, st.2.2) := by unfold dE; rw [if_neg hn]
   rw [es] at hg ⊢;exact aBm hz (far := far) (ns := ns) (st := (st.1 ++ [n], st.2.1, st.2.2)) (by omega) hP
structure RB (s : Str) (b : Core) (ns out : List Str) (p q : Core) : Prop where
 pf : ∀ x ∈ pfR q, ¬ x ∈ out → (x ∈ pfR p ∧ ¬ x = s ∧ ¬ x ∈ ns) ∨ x ∈ pfR b
 ms : ∀ σ, Sg σ → mS σ b ≤ σ s → mS σ q ≤ mS σ p
theorem aIv {s : Str} {b : Core} {ns : List Str} {ps : List Core} (hP : ∀ p ∈ ps, P p)
  (hz : ∀ p n z, P p → Fr z → z.length ≤ 30 → P (sb p n (vC z)) ∧ (∀ x ∈ pfR (sb p n (vC z)), x ∈ pfR p ∨ x = z) ∧ ∀ σ, Sg σ → mS σ (sb p n (vC z)) ≤ mS σ p)
  (hs : ∀ p, P p → (∀ x ∈ pfR (sb p s b), (x ∈ pfR p ∧ ¬ x = s) ∨ x ∈ pfR b) ∧ ∀ σ, Sg σ → mS σ b ≤ σ s → mS σ (sb p s b) ≤ mS σ p)
  (hl : (ps.flatMap pfR).length + 2 * ns.length + (pfR b).length ≤ 540000000000) : A2 (RB s b ns (cK sb s b ns ps).1) ps (cK sb s b ns ps).2 := by
 unfold cK;split
 ·rename_i hin;have hg := aBm hz (far := pfR b) (ns := ns) (st := ([], ps, ps.flatMap pfR ++ ns ++ pfR b)) (by simp only [length_append]; omega) hP;have ho := (vY (sb := sb) (far := pfR b) (ns := ns) (st := ([], ps, ps.flatMap pfR ++ ns ++ pfR b))).2
  generalize iU sb (pfR b) ns ([], ps, ps.flatMap pfR ++ ns ++ pfR b) = r at hg ho ⊢;dsimp only at hg ⊢;have key : ∀ (l m : List Core), A2 (fun p q => P q ∧ RN p r.1 q) l m → A2 (RB s b ns r.1) l (m.map fun p => sb p s b) := by
   intro l m h
   induction h with
   | nil => exact .nil
   | cons h1 _ ih2 =>
    refine .cons ⟨fun x hx hxo => ?_, fun σ hσ hb => le_trans ((hs _ h1.1).2 σ hσ hb) (h1.2.ms σ hσ)⟩ ih2;rcases (hs _ h1.1).1 x hx with ⟨h, hxs⟩ | h
    ·rcases h1.2.pf x h with h | h
     ·by_cases hxn : x ∈ ns
      ·rcases ho x hxn with h' | h'
       ·exact absurd h' hxo
       ·exact .inr h'
      ·exact .inl ⟨h, hxs, hxn⟩
     ·exact absurd h hxo
    ·exact .inr h
  exact key _ _ hg
 ·rename_i hin;have key : ∀ l : List Core, (∀ p ∈ l, p ∈ ps) → A2 (RB s b ns ns) l l := by
   intro l
   induction l with
   | nil => intro _; exact .nil
   | cons p l ih2 =>
    intro h;refine .cons ⟨fun x hx hxo => .inl ⟨hx, fun e => hin ⟨mem_flatMap.2 ⟨p, h p zq2, by rw [← e]; exact hx⟩, by rw [← e]; exact hxo⟩, hxo⟩, fun _ _ _ => le_refl _⟩ (ih2 fun q hq => h q (zq3 _ hq))
  exact key ps fun p hp => hp
end
section
variable {σ : Str → Nat}
theorem aWr {l m : List Core} (h : A2 (fun p q => mS σ q ≤ mS σ p) l m) : mSs σ m ≤ mSs σ l := by
 induction h with
 | nil => exact le_refl _
 | cons r _ ih => rw [mSs, mSs]; omega
theorem aQn : ∀ {ts : List Ty} {ns : List Str} {ps : List Core} {bs : List Bind}, A2 (fun (b : Bind) n => w30 n ≤ w30 b.name) bs ns → A2 (fun (b : Bind) p => mS σ p ≤ mS σ b.body) bs ps → mSb σ (mkB ts ns ps) ≤ mSb σ bs
 | [], _, _, _, _, _ => by unfold mkB; rw [mSb]; exact zero_le _
 | t :: ts, _, _, _, .nil, .nil => by unfold mkB; rw [mSb]; exact le_refl _
 | t :: ts, n :: ns, p :: ps, .mk s ty c :: bs, .cons h1 h2, .cons h3 h4 => by
  unfold mkB;rw [mSb, mSb];have := aQn (ts := ts) h2 h4;have h1 : w30 n ≤ w30 s := h1;have h3 : mS σ p ≤ mS σ c := h3;omega
end
structure PL (c : Core) (s : Str) (b r : Core) : Prop where
 pf : ∀ x ∈ pfR r, (x ∈ pfR c ∧ ¬ x = s) ∨ x ∈ pfR b
 ms : ∀ σ, Sg σ → mS σ b ≤ σ s → mS σ r ≤ mS σ c
section
variable {sb : Core → Str → Core → Core} {X : Nat} {s : Str} {b : Core} {f n : Int} {nm : Str} {t : Ty} {ks : List Core} {bs : List Bind} {al : List Alt}
theorem aUc (hf1 : f ≠ 1) (hq : cI (QL X) (.mk f n nm t ks bs al)) (hn : A2 NR (gvN f nm bs) (cK sb s b (gvN f nm bs) (ks ++ bs.map Bind.body)).1)
  (hg : A2 (RB s b (gvN f nm bs) (cK sb s b (gvN f nm bs) (ks ++ bs.map Bind.body)).1) (ks ++ bs.map Bind.body) (cK sb s b (gvN f nm bs) (ks ++ bs.map Bind.body)).2)
  (ha : ∀ a ∈ al, A2 NR a.vars (cK sb s b a.vars [a.body]).1 ∧ A2 (RB s b a.vars (cK sb s b a.vars [a.body]).1) [a.body] (cK sb s b a.vars [a.body]).2) : PL (.mk f n nm t ks bs al) s b (oZ sb s b (.mk f n nm t ks bs al)) := by
 have hA : ∀ a ∈ al, RB s b a.vars (j1 sb s b a).vars a.body (j1 sb s b a).body ∧ A2 NR a.vars (j1 sb s b a).vars := fun a ha' => by
  obtain ⟨g2, g1⟩ := ha a ha';refine ⟨?_, g2⟩;show RB s b a.vars (cK sb s b a.vars [a.body]).1 a.body ((cK sb s b a.vars [a.body]).2.headD a.body);cases hx : (cK sb s b a.vars [a.body]).2 with
  | nil => rw [hx] at g1; cases g1
  | cons y l' =>
   rw [hx] at g1;cases g1 with
   | cons h _ => exact h
 have hone : f = 5 → bs = [] := fun h5 => (iR hq (.inl h5)).2.1
 rw [oZ];unfold zNm zKs zBs;generalize cK sb s b (gvN f nm bs) (ks ++ bs.map Bind.body) = r at hg hn ⊢;obtain ⟨r1, r2⟩ := r;dsimp only at *;have hK := hg.take ks.length;rw [take_left] at hK;have hB := hg.drop ks.length;rw [drop_left] at hB;have hBl : (r2.drop ks.length).length = bs.length := by rw [hB.length, length_map]
 have hnl := hn.length;have hgv : gvN f (if f = 5 then r1.headD nm else nm) (mkB (bs.map Bind.ty) r1 (r2.drop ks.length)) = r1 := by
  by_cases h5 : f = 5
  ·have := hone h5; subst this;unfold gvN at hn hnl ⊢;rw [if_pos h5] at hn hnl;rw [if_pos h5, if_pos h5]
   match r1, hnl with
   | [y], _ => show [y] ++ (mkB [] [y] _).map Bind.name = [y]; unfold mkB; rfl
  ·unfold gvN at hnl ⊢;rw [if_neg h5, nil_append] at hnl;rw [length_map] at hnl;rw [if_neg h5, nil_append, kI (by rw [length_map]; exact hnl) (by rw [length_map]; exact hBl)]
 refine ⟨fun x hx => ?_, fun σ hσ hb => ?_⟩
 ·rcases (oN hf1).1 hx with ⟨q, hq', h1, h2⟩ | ⟨a, ha', h1, h2⟩
  ·rw [hgv] at h2;have hqm : q ∈ r2 := by
    rcases mem_append.1 hq' with h | h
    ·exact mem_of_mem_take h
    ·obtain ⟨y, hy, rfl⟩ := mem_map.1 h;exact mem_of_mem_drop (kJ hy).1
   obtain ⟨p, hp, hr⟩ := hg.mem q hqm;rcases hr.pf x h1 h2 with ⟨g1, g2, g3⟩ | h
   ·exact .inl ⟨(oN hf1).2 (.inl ⟨p, hp, g1, g3⟩), g2⟩
   ·exact .inr h
  ·obtain ⟨a0, ha0, rfl⟩ := mem_map.1 ha';rcases (hA a0 ha0).1.pf x h1 h2 with ⟨g1, g2, g3⟩ | h
   ·exact .inl ⟨(oN hf1).2 (.inr ⟨a0, ha0, g1, g3⟩), g2⟩
   ·exact .inr h
 ·rw [mS, mS, if_neg hf1, if_neg hf1];have e1 : w30 (if f = 5 then r1.headD nm else nm) ≤ w30 nm := by
   split
   ·rename_i hf;unfold gvN at hn;rw [if_pos hf] at hn;cases hn with
    | cons h _ => exact h.w
   ·exact le_refl _
  have e2 : mSs σ (r2.take ks.length) ≤ mSs σ ks := aWr (A2.mono (fun p q h => h.ms σ hσ hb) hK);have e3 : mSb σ (mkB (bs.map Bind.ty) r1 (r2.drop ks.length)) ≤ mSb σ bs := by
   by_cases hf : f = 5
   ·have := hone hf; subst this;show mSb σ (mkB [] _ _) ≤ _;unfold mkB; rw [mSb]; exact zero_le _
   ·have h4 := hn;unfold gvN at h4;rw [if_neg hf, nil_append] at h4;exact aQn (A2.mapL (A2.mono (fun a b h => h.w) h4)) (A2.mapL (A2.mono (fun p q h => h.ms σ hσ hb) hB))
  have e4 : mSa σ (al.map (j1 sb s b)) ≤ mSa σ al := by
   clear ha hq
   induction al with
   | nil => exact le_refl _
   | cons a l ihl =>
    obtain ⟨af, an, anm, vs, ab⟩ := a;obtain ⟨g1, g2⟩ := hA _ zq2;have := ihl fun x hx => hA x (zq3 _ hx)
    have g3 := g1.ms σ hσ hb;have g4 := xE g2;have e : j1 sb s b (Alt.mk af an anm vs ab) = .mk af an anm (j1 sb s b (Alt.mk af an anm vs ab)).vars (j1 sb s b (Alt.mk af an anm vs ab)).body := rfl;have g3 : mS σ (j1 sb s b (Alt.mk af an anm vs ab)).body ≤ mS σ ab := g3;have g4 : ((j1 sb s b (Alt.mk af an anm vs ab)).vars.map fun v => 1 + w30 v).sum ≤ (vs.map fun v => 1 + w30 v).sum := g4;rw [map_cons, e, mSa, mSa];omega
  omega
end
theorem aR9 (hI : eD 540000000000) {D M X : Nat} (hMD : M + D ≤ 700000) (hX : 31 ≤ X) : ∀ (k : Nat) (c : Core), m30 c ≤ k → CG D M X c → ∀ (s : Str) (b : Core), CG D M X b → PL c s b (dB k c s b) := by
 intro k
 induction k with
 | zero => intro c h; have := eT c; omega
 | succ k ih =>
 intro c h hc s b hb;have hBig : Big = 250000000000 := rfl;have hsz := hc.sz;have hszb := hb.sz;have hpfb := j0 b;obtain ⟨hbty, hbtl⟩ := hb.types hMD;obtain ⟨f, n, nm, t, ks, bs, al⟩ := c;have hq := hc.q;rw [dB];by_cases hv : f = 1 ∧ nm = s
 ·rw [if_pos (show (Core.mk f n nm t ks bs al).form = 1 ∧ (Core.mk f n nm t ks bs al).name = s from hv)];obtain ⟨rfl, rfl⟩ := hv;refine ⟨fun x hx => .inr hx, fun σ hσ hb' => le_trans hb' ?_⟩;rw [mS, if_pos rfl]; omega
 rw [if_neg (show ¬ ((Core.mk f n nm t ks bs al).form = 1 ∧ (Core.mk f n nm t ks bs al).name = s) from hv)]
 let P : Core → Prop := fun x => m30 x < m30 (.mk f n nm t ks bs al) ∧ CG D M X x
 have hsub : ∀ p, P p → ∀ n' b', CG D M X b' → PL p n' b' (dB k p n' b') := fun p hp n' b' hb' => ih p (by have := hp.1; omega) hp.2 n' b' hb'
 have hsubT : ∀ p, P p → ∀ n' b', CG D M X b' → TB X p n' b' (dB k p n' b') := fun p hp n' b' hb' => tJ hI hMD hX k p (by have := hp.1; omega) hp.2 n' b' hb'
 have hz : ∀ p m z, P p → Fr z → z.length ≤ 30 → P (dB k p m (vC z)) ∧ (∀ x ∈ pfR (dB k p m (vC z)), x ∈ pfR p ∨ x = z) ∧ ∀ σ, Sg σ → mS σ (dB k p m (vC z)) ≤ mS σ p := fun p m z hp hF hzl => by
  have hcg := CG.vC (D := D) (M := M) hzl hX;have h1 := hsubT p hp m (vC z) hcg;have h2 := h1.r0 hzl;have h3 := hsub p hp m (vC z) hcg;refine ⟨⟨lt_of_le_of_lt h2.sz hp.1, h2.cg hp.2 h1.rx.q⟩, fun x hx => (h3.pf x hx).imp And.left fun h => ?_, fun σ hσ => h3.ms σ hσ ?_⟩
  ·have : pfR (vC z) = [z] := rfl;rw [this] at h; exact mem_singleton.1 h
  ·rw [aZv];obtain ⟨l, rfl⟩ := hF;have := hσ.fr l hzl;have := hσ.ge m;have := gU m;omega
 have hzR : ∀ p m z, P p → z.length ≤ 30 → P (dB k p m (vC z)) ∧ R0 p (dB k p m (vC z)) := fun p m z hp hzl => by
  have h1 := hsubT p hp m (vC z) (CG.vC hzl hX);have h2 := h1.r0 hzl;exact ⟨⟨lt_of_le_of_lt h2.sz hp.1, h2.cg hp.2 h1.rx.q⟩, h2⟩
 have hPq : ∀ p, P p → cI (QL X) p := fun p hp => hp.2.q
 have hSR : ∀ p, P p → RX X b p (dB k p s b) := fun p hp => (hsubT p hp s b hb).rx
 have hs : ∀ p, P p → (∀ x ∈ pfR (dB k p s b), (x ∈ pfR p ∧ ¬ x = s) ∨ x ∈ pfR b) ∧ ∀ σ, Sg σ → mS σ b ≤ σ s → mS σ (dB k p s b) ≤ mS σ p := fun p hp => ⟨(hsub p hp s b hb).pf, (hsub p hp s b hb).ms⟩
 by_cases hf1 : f = 1
 ·subst hf1;obtain ⟨rfl, rfl, rfl⟩ := u6 hq rfl;rw [if_neg (fun h => absurd h.1 (by show ¬ (1 : Int) = 7; decide))];have hne : ¬ nm = s := fun e => hv ⟨rfl, e⟩
  have e : oZ (dB k) s b (.mk 1 n nm t [] [] []) = .mk 1 n nm t [] [] [] := by
   rw [oZ];unfold zNm zKs zBs;rw [if_neg (by decide)];have : (([] : List Core) ++ ([] : List Bind).map Bind.body) = [] := rfl;rw [this];have hp : cK (dB k) s b (gvN 1 nm []) [] = (gvN 1 nm [], []) := by
    unfold cK;rw [if_neg fun h => by cases h.1]
   rw [hp];rfl
  rw [e]
  exact ⟨fun x hx => .inl ⟨hx, fun e => hne (by
   have : pfR (.mk 1 n nm t [] [] []) = [nm] := rfl
   rw [this] at hx; rw [← mem_singleton.1 hx, e])⟩, fun _ _ _ => le_refl _⟩
 have hend : ∀ nm1 ks1, (f = 5 → nm1 = nm) → cI (QL X) (.mk f n nm1 t ks1 bs al) → (∀ x ∈ ks1, P x) → cS ks1 ≤ cS ks → PL (.mk f n nm1 t ks1 bs al) s b (oZ (dB k) s b (.mk f n nm1 t ks1 bs al)) := fun nm1 ks1 _ hq1 hP1 hkm => by
  have hP2 : ∀ x ∈ bs, P x.body := fun x hx => ⟨(hc.bind hx).2, (hc.bind hx).1⟩
  have hP3 : ∀ x ∈ al, P x.body := fun x hx => ⟨(hc.alt hx).2, (hc.alt hx).1⟩
  have hPs : ∀ p ∈ ks1 ++ bs.map Bind.body, P p := fun p hp => by
   rcases mem_append.1 hp with hp | hp
   ·exact hP1 p hp
   ·obtain ⟨x, hx, rfl⟩ := mem_map.1 hp;exact hP2 x hx
  have hm := hsz;rw [m30] at hm;have hfm := aEo (ks1 ++ bs.map Bind.body);rw [pN] at hfm;have hbsb := r4 bs;have hgv := aBg (f := f) (nm := nm1) (bs := bs);have hgl : ((ks1 ++ bs.map Bind.body).flatMap pfR).length + 2 * (gvN f nm1 bs).length + (pfR b).length ≤ 540000000000 := by omega
  have hal' : ∀ a ∈ al, (([a.body] : List Core).flatMap pfR).length + 2 * a.vars.length + (pfR b).length ≤ 540000000000 := fun a ha => by
   have h1 := gD ha;have h2 := qF a.vars;have h3 := j0 a.body;simp only [flatMap_cons, flatMap_nil, append_nil];omega
  have hN := (mE (sb := dB k) (P := P) (X := X) (s := s) (b := b) (ns := gvN f nm1 bs) hPs hPq hzR hSR hgl).2
  have hRB := aIv (sb := dB k) (P := P) (s := s) (b := b) (ns := gvN f nm1 bs) hPs hz hs hgl;exact aUc hf1 hq1 hN hRB fun a ha => ⟨(mE (sb := dB k) (P := P) (X := X) (s := s) (b := b) (fun p hp => by rw [mem_singleton.1 hp]; exact hP3 a ha) hPq hzR hSR (hal' a ha)).2, aIv (sb := dB k) (P := P) (s := s) (b := b) (fun p hp => by rw [mem_singleton.1 hp]; exact hP3 a ha) hz hs (hal' a ha)⟩
 have hPk : ∀ x ∈ ks, P x := fun x hx => ⟨(hc.kid hx).2.2, (hc.kid hx).1⟩
 by_cases hcl : f = 7 ∧ s ∈ pfR (.mk f n nm t ks bs al)
 ·rw [if_pos (show (Core.mk f n nm t ks bs al).form = 7 ∧ s ∈ pfR (Core.mk f n nm t ks bs al) from hcl), aXh];by_cases hnb : nm ∈ tyR b
  ·rw [if_pos hnb];obtain ⟨rfl, hin⟩ := hcl;obtain ⟨⟨kid, rfl⟩, rfl, rfl⟩ := iR hq (.inr (.inr rfl));obtain ⟨g1, g2, g3⟩ := hc.kid (x := kid) zq2;rw [if_pos rfl] at g2;obtain ⟨_, hktl⟩ := g1.types hMD;obtain ⟨q1, _⟩ := bC.1 hq;have efm : [kid].flatMap tyR = tyR kid := by simp
   rw [efm, map_cons, map_nil];have hz30 : (aZ (tyR b ++ tyR kid)).length ≤ 30 := mK _ (by rw [length_append]; omega);have hzn := w9 (tyR b ++ tyR kid);generalize aZ (tyR b ++ tyR kid) = z at hz30 hzn;have hS1 := aOz hI hMD (m30 kid) kid (le_refl _) g1 nm (vT z) (UOk.var z);have hkid1 := aRy hI hMD g1 g2 (m30 kid) (le_refl _) nm z;have hq1 : cI (QL X) (.mk 7 n z t [sTR (m30 kid) kid nm (vT z)] [] []) := by
    refine bC.2 ⟨⟨q1.1, fun h => ⟨(q1.2.1 h).1, hzn⟩, q1.2.2.1, fun p hp => (by cases hp), le_trans (pO (aFl hz30) rfl rfl) q1.2.2.2.2.1, fun e => absurd e (by decide), fun p hp => (by cases hp), fun p hp => (by cases hp)⟩, fun x hx => ?_, fun x hx => (by cases hx), fun x hx => (by cases hx)⟩;rw [mem_singleton.1 hx]; exact hkid1.q
   have hr := hend z [sTR (m30 kid) kid nm (vT z)] (fun e => absurd e (by decide)) hq1 (fun x hx => by rw [mem_singleton.1 hx]; exact ⟨lt_of_le_of_lt hS1.sz g3, hkid1⟩) (by rw [cS, cS, cS, cS]; have := hS1.sz; omega);refine ⟨fun x hx => (hr.pf x hx).imp (fun h => ⟨?_, h.2⟩) id, fun σ hσ hb' => le_trans (hr.ms σ hσ hb') ?_⟩
   ·rcases (oN (by decide)).1 h.1 with ⟨p, hp, h1, h2⟩ | ⟨a, ha, _⟩
    ·have hpe : p = sTR (m30 kid) kid nm (vT z) := by simpa using hp
     rw [hpe, aWi] at h1;exact (oN (by decide)).2 (.inl ⟨kid, by simp, h1, by unfold gvN; rw [if_neg (by decide)]; simp⟩)
    ·cases ha
   ·rw [mS, mS, if_neg (by decide), if_neg (by decide), mSs, mSs, mSs, mSs, mSb, mSa];have := aWs hI hMD (σ := σ) (m30 kid) kid (le_refl _) g1 nm (vT z) (UOk.var z);have := aFl (s := nm) hz30;omega
  ·rw [if_neg hnb];exact hend nm ks (fun _ => rfl) hq hPk (le_refl _)
 ·rw [if_neg (show ¬ ((Core.mk f n nm t ks bs al).form = 7 ∧ s ∈ pfR (Core.mk f n nm t ks bs al)) from hcl)];exact hend nm ks (fun _ => rfl) hq hPk (le_refl _)
def s9 {α : Type} (L : List α) (i : Nat) : List α := L.reverse.take i ++ ((L.drop i).take (L.length - 2 * i) ++ L.reverse.drop (L.length - i))
section
variable {α : Type} {L : List α} {i : Nat}
theorem uU (h : 2 * i ≤ L.length) (k : Nat) : (s9 L i)[k]? = if k < i then L.reverse[k]? else if k < L.length - i then L[k]? else L.reverse[k]? := by
 have h1 : (L.reverse.take i).length = i := by rw [length_take, List.length_reverse]; omega
 have h2 : ((L.drop i).take (L.length - 2 * i)).length = L.length - 2 * i := by rw [length_take, length_drop]; omega
 unfold s9;by_cases hk : k < i
 ·rw [if_pos hk, List.getElem?_append_left (by omega), List.getElem?_take_of_lt hk]
 ·rw [if_neg hk, List.getElem?_append_right (by omega), h1];by_cases hk2 : k < L.length - i
  ·rw [if_pos hk2, List.getElem?_append_left (by omega), List.getElem?_take_of_lt (by omega), List.getElem?_drop];congr 1; omega
  ·rw [if_neg hk2, List.getElem?_append_right (by omega), h2, List.getElem?_drop];congr 1; omega
theorem aDp (h : 2 * i ≤ L.length) : (s9 L i).length = L.length := by
 unfold s9;simp only [length_append, length_take, List.length_reverse, length_drop];omega
theorem aIg (h : 2 * i + 1 < L.length) {x y : α} (hx : (s9 L i)[i]? = some x) (hy : (s9 L i)[L.length - 1 - i]? = some y) : ((s9 L i).set i y).set (L.length - 1 - i) x = s9 L (i + 1) := by
 refine List.ext_getElem? fun k => ?_
 have hl := aDp (L := L) (i := i) (by omega);rw [uU (by omega)] at hx hy;rw [if_neg (by omega), if_pos (by omega)] at hx hy;rw [List.getElem?_set, List.getElem?_set, length_set, hl, uU (by omega), uU (by omega)];have hr : ∀ j, j < L.length → L.reverse[j]? = L[L.length - 1 - j]? := fun j hj => List.getElem?_reverse hj
 by_cases h1 : L.length - 1 - i = k
 ·subst h1;rw [if_pos rfl, if_pos (by omega), if_neg (by omega), if_neg (by omega), hr _ (by omega), ← hx];congr 1; omega
 ·rw [if_neg h1];by_cases h2 : i = k
  ·subst h2;rw [if_pos rfl, if_pos (by omega), if_pos (by omega), hr _ (by omega), ← hy]
  ·rw [if_neg h2];by_cases h3 : k < i
   ·rw [if_pos h3, if_pos (by omega)]
   ·rw [if_neg h3, if_neg (show ¬ k < i + 1 by omega)];by_cases h4 : k < L.length - (i + 1)
    ·rw [if_pos (by omega), if_pos h4]
    ·rw [if_neg (show ¬ k < L.length - i by omega), if_neg h4]
theorem aM9 (h : 2 * i ≤ L.length) (h2 : L.length ≤ 2 * i + 1) : s9 L i = L.reverse := by
 refine List.ext_getElem? fun k => ?_
 rw [uU h];have hr : ∀ j, j < L.length → L.reverse[j]? = L[L.length - 1 - j]? := fun j hj => List.getElem?_reverse hj
 by_cases h3 : k < i
 ·rw [if_pos h3]
 ·rw [if_neg h3];by_cases h4 : k < L.length - i
  ·rw [if_pos h4, hr k (by omega)];congr 1; omega
  ·rw [if_neg h4]
theorem aIf : s9 L 0 = L := by unfold s9; simp
end
theorem aK8 (L : List Core) (hL : L.length ≤ 570000000000) : aY Tryz.prog 159 [.one (.hs 720 0 L.length L.length)] [(720, .arr 37 10 (L.map aA) 0)] (.tup []) [(720, .arr 37 10 (L.reverse.map aA) 0)] := by
 have hkL : (L.map aA).length = L.length := length_map _;refine c8 (n := 28) tok Tryz.func159 rfl rfl rfl ?_;refine a8 (ag [] rfl ?_);refine aC ?_;refine aJ (fun i : Nat => mk [(0, .one (.hs 720 0 L.length L.length)), (2, I .i64 i), (3, I .i64 ((L.length : Int) - 1 - i))] [(720, .arr 37 10 ((s9 L i).map aA) 0)]) (fun i => 2 * i ≤ L.length) (fun i => L.length - i) 0 (zero_le _) (sl (he := ⟨rfl, rfl, by show some (I .i64 _) = some (I .i64 _); congr 2; simp, trivial⟩) (hh := ⟨⟨_, rfl, .arrS (by rw [aIf])⟩, trivial⟩)) ?_;intro i hi;have hrl := aDp (L := L) hi;have hkr : ((s9 L i).map aA).length = L.length := by rw [length_map, hrl]
 refine a8 (a8 (ag [] rfl ?_));refine aB rfl (fun hb => ?_) (fun hb => ?_)
 ·have hlt : (i : Int) < (L.length : Int) - 1 - i := zq0 hb;obtain ⟨x, hx⟩ := aL (l := s9 L i) (k := i) (by omega);obtain ⟨y, hy⟩ := aL (l := s9 L i) (k := L.length - 1 - i) (by omega);have hst := aIg (by omega) hx hy;have hx' := cE aA hx;have hy' := cE aA hy;have ej : (L.length : Int) - 1 - i = ((L.length - 1 - i : Nat) : Int) := by omega
  have hne : i ≠ L.length - 1 - i := by omega
  have hj : L.length - 1 - i < L.length := by omega
  have hil : i < L.length := by omega
  have hy2 : (((s9 L i).map aA).set i (aA y))[L.length - 1 - i]? = some (aA y) := by rw [List.getElem?_set_ne hne]; exact hy'
  have hst' : (((s9 L i).map aA).set i (aA y)).set (L.length - 1 - i) (aA x) = (s9 L (i + 1)).map aA := by rw [← hst, map_set, map_set]
  have hks : (((s9 L i).map aA).set i (aA y)).length = L.length := by rw [length_set, hkr]
  refine aD ?_;refine AWp.sub (st2 := mk [(0, .one (.hs 720 0 L.length L.length)), (2, I .i64 i), (3, I .i64 ((L.length - 1 - i : Nat) : Int))] [(720, .arr 37 10 ((s9 L i).map aA) 0)]) (sl (he := ⟨rfl, rfl, congrArg (fun x => some (I .i64 x)) ej, trivial⟩)) ?_;generalize L.length - 1 - i = j at *;refine a8 (aC ?_);refine ag [(7, .row j (aA y)), (11, .row i (aA x)), (13, .row i (aA x)), (15, .row j (aA y))] rfl ?_;refine ag [] rfl ?_;refine ⟨i + 1, by omega, by dsimp only; omega, sl (he := ⟨rfl, rfl, ?_, trivial⟩) (hh := ⟨⟨_, rfl, .arrS hst'⟩, trivial⟩)⟩;show some (I .i64 ((j : Int) - 1)) = some (I .i64 ((L.length : Int) - 1 - ((i + 1 : Nat) : Int)));congr 2; omega
 ·have hge : ¬ (i : Int) < (L.length : Int) - 1 - i := zq1 hb;rw [aM9 hi (by omega)];refine aK ?_;exact ⟨.inl rfl, ⟨_, _, .nil, .nil, rfl⟩, ⟨⟨_, rfl, .arr⟩, trivial⟩, rfl⟩
theorem aFi {X : Nat} {f n : Int} {s : Str} {t : Ty} {ks : List Core} {bs : List Bind} {al : List Alt} (h : cI (QL X) (.mk f n s t ks bs al)) (hf : f = 4 ∨ f = 10) : (∃ a b, ks = [a, b]) ∧ bs = [] ∧ al = [] := by
 obtain ⟨h1, _⟩ := bC.1 h;have g := h1.1;unfold okF at g;rw [if_pos hf] at g;obtain ⟨g1, g2, g3⟩ := zq0 g;rw [length_map] at g2 g3;refine ⟨?_, length_eq_zero_iff.1 g2, length_eq_zero_iff.1 g3⟩
 match ks, g1 with
 | [a, b], _ => exact ⟨a, b, rfl⟩
theorem aO0 (c : Core) (hsz : aR c ≤ 570000000000) : aY Tryz.prog 67 [.pa (aA c)] [] (ouV (pfR c)) [(500, ouO (pfR c))] := nO c (fun x _ => oE (aR x) x (le_refl _)) hsz
theorem aQ4 : ∀ (k n : Nat), n < 10 ^ (k + 1) → (Lib.decDigits n).length ≤ k + 1
 | 0, n, h => by rw [Lib.decDigits, dif_pos (by omega)]; exact le_refl _
 | k + 1, n, h => by
  rw [Lib.decDigits];split
  ·simp
  ·rw [length_append];have := aQ4 k (n / 10) (by rw [Nat.pow_succ] at h; omega);simp only [length_cons, length_nil];omega
noncomputable def jI (c : Core) (l : List (Str × Str)) : Core := l.foldl (fun c p => dB (m30 c) c p.1 (vC p.2)) c
noncomputable def qP (c : Core) (l : List (Str × Core)) : Core := l.foldl (fun c p => dB (m30 c) c p.1 p.2) c
structure PO (D M X B : Nat) (c : Core) (l : List Core) : Prop where
 q : cI (QL X) c
 dep : cw j9 0 c r0 ≤ D
 bq : ∀ b ∈ l, cI (QL X) b
 bdep : ∀ b ∈ l, cw j9 0 b r0 ≤ D
 ty : ∃ U : List Str, U.length + 2 * (tlC c + (l.map tlC).sum) ≤ M ∧ (∀ x ∈ tyR c, x ∈ U) ∧ ∀ b ∈ l, ∀ x ∈ tyR b, x ∈ U
 one : 1 ≤ B
 bsz : ∀ b ∈ l, m30 b ≤ 31 * B
 sz : m30 c * B ≤ Big
 bsum : (l.map m30).sum ≤ Big
structure PR (X B : Nat) (c : Core) (l : List Core) (r : Core) : Prop where
 q : cI (QL X) r
 cw : ∀ (A : Alg) (E : Nat) (ρ : Str → Nat) (K : Nat), cw A E c ρ ≤ K → (∀ b ∈ l, cw A E b ρ ≤ K) → cw A E r ρ ≤ K
 ty : ∀ x ∈ tyR r, x ∈ tyR c ∨ ∃ b ∈ l, x ∈ tyR b
 tl : tlC r ≤ tlC c + (l.map tlC).sum
 sz : m30 r ≤ m30 c * B
theorem uK {l : List Core} {g : Core → Nat} {b : Core} (h : b ∈ l) : g b ≤ (l.map g).sum := by
 induction l with
 | nil => cases h
 | cons x l ih =>
  rw [map_cons, sum_cons];rcases mem_cons.1 h with e | h
  ·rw [e]; omega
  ·have := ih h; omega
section
variable {D M X B : Nat} {c : Core} {l : List Core}
theorem PO.cg (h : PO D M X B c l) : CG D M X c := by
 obtain ⟨U, h1, h2, _⟩ := h.ty;refine ⟨h.q, h.dep, ?_, le_trans (le_mul_of_pos_right _ h.one) h.sz⟩;have := cZ h2;omega
theorem PO.cgb (h : PO D M X B c l) {b : Core} (hb : b ∈ l) : CG D M X b := by
 obtain ⟨U, h1, _, h3⟩ := h.ty;refine ⟨h.bq b hb, h.bdep b hb, ?_, le_trans (uK hb) h.bsum⟩;have := cZ (h3 b hb);have := uK (g := tlC) hb;omega
theorem aDg {g : Core → Nat} : ∀ {l : List Core} {i : Nat}, ((l.take i).map g).sum ≤ (l.map g).sum
 | [], i => by simp
 | x :: l, 0 => by simp
 | x :: l, i + 1 => by
  rw [take_succ_cons, map_cons, map_cons, sum_cons, sum_cons];have := aDg (g := g) (l := l) (i := i);omega
end
theorem nB {α β γ : Type} (g : γ → α × β → γ) (z : γ) {a : List α} {b : List β} {i : Nat} {x : α} {y : β} (ha : a[i]? = some x) (hb : b[i]? = some y) : ((a.zip b).take (i + 1)).foldl g z = g (((a.zip b).take i).foldl g z) (x, y) := by
 have h : (a.zip b)[i]? = some (x, y) := by rw [List.getElem?_zip_eq_some]; exact ⟨ha, hb⟩
 rw [take_add_one, h, foldl_append]; rfl
theorem aA6 {l : List Core} : ∀ i, ((l.take i).flatMap pfR).length ≤ (l.map m30).sum := by
 induction l with
 | nil => intro i; simp
 | cons c l ih =>
  intro i;cases i with
  | zero => simp
  | succ i =>
   rw [take_succ_cons, flatMap_cons, length_append, map_cons, sum_cons];have := j0 c;have := ih i;omega
theorem y1 {l : List Core} {i : Nat} {b : Core} (h : l[i]? = some b) : (l.take (i + 1)).flatMap pfR = (l.take i).flatMap pfR ++ pfR b := by
 rw [take_add_one, h, flatMap_append]; simp
end Go.Proofs.YtmoekkcdkjopgaaGreatDoor
