/-
  Texts Am0 to Am6 in one.
-/
import Derived.Lib.ItoaNum
import Derived.WalkKit
import Derived.Below
import Derived.OrdersIn
import Derived.Deep.MidRow
open List (all_eq_true cons_append drop_append drop_drop drop_of_length_le drop_succ_cons drop_take eq_nil_of_length_eq_zero filter_cons flatten_cons length_append length_cons length_nil map_cons map_nil mem_cons mem_map nil_append nodup_cons take_succ_cons take_take)
open Nat (add_assoc add_mul add_zero eq_of_beq_eq_true le_of_ble_eq_true le_refl le_trans lt_of_lt_of_le min_eq_left mul_le_mul_right sub_zero zero_add zero_le)
namespace Go.AM
open Go
def aGo : Option Nat := some 0
def aIh : Array Value := (Lib.pow10Tab.map fun z => Value.int .u64 z).toArray
def aDs (w : World) : Prop := ∀ g, aGo = some g → g < w.heap.size ∧ ∃ t fr, w.heap[g]? = some (.cells aIh t fr)
def aJj (w : World) (F : Nat → Prop) : Prop := aDs w ∧ ∀ g, aGo = some g → ¬ F g
inductive C where
 | int (k : IntKind) (n : Int)
 | bool (b : Bool)
 | str (s : List UInt8)
 | nl
 | sl (es : Nat) (l : List (List C))
 | sn (es : Nat) (l : List (List C))
 | np
 | pt (l : List C)
 | mp (agg : Bool) (l : List (List C))
 | zv (k : Nat)
 | any
 | fn (f : FuncId)
 | clo (f : FuncId) (l : List C)
 | sg (te es : Nat) (l : List (List C))
 deriving Inhabited
inductive MK where
 | all (es : Array MapEntry) (clk : Nat)
 | part (ks : List UInt8 → Prop)
 | top (te lo hi : Nat)
def aFm (k : List UInt8) (es : Array MapEntry) : Prop := ∃ e ∈ es.toList, e.key = .string ⟨⟨k⟩⟩
def MK.has : MK → List UInt8 → Prop
 | .all es _, k => aFm k es
 | .part ks, k => ks k
 | .top _ _ _, _ => False
def MK.le : MK → MK → Prop
 | .all es clk, m => m = .all es clk
 | .part ks, m => ∀ k, ks k → m.has k
 | .top te lo hi, m => m = .top te lo hi
theorem MK.le_refl (m : MK) : m.le m := by cases m <;> simp [MK.le, MK.has]
theorem MK.le_has {m m' : MK} (h : m.le m') {k : List UInt8} (e : m.has k) : m'.has k := by
 cases m with
 | all es clk => simp only [MK.le] at h; subst h; exact e
 | part ks => exact h k e
 | top te lo hi => cases e
theorem MK.le_trans {m m' m'' : MK} (h : m.le m') (k : m'.le m'') : m.le m'' := by
 cases m with
 | all es clk => simp only [MK.le] at h; subst h; exact k
 | part ks => exact fun s e => MK.le_has k (h s e)
 | top te lo hi => simp only [MK.le] at h; subst h; exact k
def MK.holds : MK → Option Obj → Prop
 | .all es clk, o => o = some (.map es clk)
 | .part ks, o => ∃ es clk, o = some (.map es clk) ∧ ∀ k, ks k → aFm k es
 | .top te _ hi, o => ∃ vs, o = some (.cells ⟨vs⟩ te (0, 0)) ∧ hi ≤ vs.length
theorem MK.holds_some {m : MK} {o : Option Obj} (h : m.holds o) : ∃ x, o = some x := by
 cases m with
 | all es clk => exact ⟨_, h⟩
 | part ks => obtain ⟨es, clk, h1, _⟩ := h; exact ⟨_, h1⟩
 | top te lo hi => obtain ⟨vs, h1, _⟩ := h; exact ⟨_, h1⟩
structure Sto where
 cell : Nat → Nat → Option Value
 mapo : Nat → Option MK
def Sto.le (S S' : Sto) : Prop := (∀ b o v, S.cell b o = some v → S'.cell b o = some v) ∧ (∀ b m, S.mapo b = some m → ∃ m', S'.mapo b = some m' ∧ m.le m')
theorem Sto.le_refl (S : Sto) : S.le S := ⟨fun _ _ _ h => h, fun _ m h => ⟨m, h, m.le_refl⟩⟩
theorem Sto.le_trans {S S' S'' : Sto} (h : S.le S') (k : S'.le S'') : S.le S'' := ⟨fun b o v e => k.1 b o v (h.1 b o v e), fun b m e => by
 obtain ⟨m', h1, h2⟩ := h.2 b m e;obtain ⟨m'', h3, h4⟩ := k.2 b m' h1
 exact ⟨m'', h3, MK.le_trans h2 h4⟩⟩
theorem Sto.le_all {S S' : Sto} (h : S.le S') {b : Nat} {es : Array MapEntry} {clk : Nat} (e : S.mapo b = some (.all es clk)) : S'.mapo b = some (.all es clk) := by
 obtain ⟨m', h1, h2⟩ := h.2 b _ e;simp only [MK.le] at h2;rw [h1, h2]
theorem Sto.le_top {S S' : Sto} (h : S.le S') {b te lo hi : Nat} (e : S.mapo b = some (.top te lo hi)) : S'.mapo b = some (.top te lo hi) := by
 obtain ⟨m', h1, h2⟩ := h.2 b _ e;simp only [MK.le] at h2;rw [h1, h2]
def Sto.free (S : Sto) : Prop := ∀ b te lo hi, S.mapo b = some (.top te lo hi) → ∀ o, lo ≤ o → S.cell b o = none
def Sto.noTop (S : Sto) : Prop := ∀ b m, S.mapo b = some m → ∃ es clk, m = .all es clk
def aGl : Nat → Value
 | 0 => .map none
 | 1 => .nilFunc
 | _ => .nilIface
def dF (S : Sto) (b o : Nat) (vs : List Value) : Prop := ∀ i v, vs[i]? = some v → S.cell b (o + i) = some v
theorem dF.mono {S S' : Sto} (h : S.le S') {b o : Nat} {vs : List Value} (k : dF S b o vs) : dF S' b o vs := fun i v e => h.1 _ _ _ (k i v e)
mutual
def Rep (S : Sto) : C → Value → Prop
 | .int k n, v => v = .int k n
 | .bool b, v => v = .bool b
 | .str s, v => v = .string ⟨⟨s⟩⟩
 | .nl, v => v = .slice none 0 0
 | .sl es l, v => ∃ a len cap, v = .slice a len cap ∧ len = l.length ∧ len ≤ cap ∧ cap ≤ maxLen ∧ (a = none → len = 0 ∧ cap = 0) ∧
   (∀ ad, a = some ad → cap ≠ 0 → ad.spot = none) ∧ ∃ b o, (∀ ad, a = some ad → ad.block = b ∧ ad.off = o) ∧ aR S es b l o
 | .sn es l, v => ∃ b o sp len cap, v = .slice (some ⟨b, o, sp⟩) len cap ∧ len = l.length ∧ len ≤ cap ∧ cap ≤ maxLen ∧ (cap ≠ 0 → sp = none) ∧ aR S es b l o
 | .np, v => v = .pointer none
 | .pt l, v => ∃ b o, v = .pointer (some ⟨b, o, none⟩) ∧ ∃ vs, bR S l vs ∧ dF S b o vs
 | .mp agg l, v => ∃ b es clk, v = .map (some b) ∧ S.mapo b = some (.all es clk) ∧ (aZ S agg l es.toList ∨ uX S agg l es)
 | .zv k, v => v = aGl k
 | .any, v => v.cells = #[v] ∧ v.oneCell' = true
 | .fn f, v => v = .func (.func f) #[] ⟨[]⟩
 | .clo f l, v => ∃ vs, v = .func (.func f) #[] ⟨vs⟩ ∧ bR S l vs
 | .sg te es l, v => ∃ a len cap, v = .slice a len cap ∧ len = l.length ∧ len ≤ cap ∧ cap ≤ maxLen ∧ ((a = none ∧ len = 0 ∧ cap = 0) ∨ ∃ b o, a = some ⟨b, o, none⟩ ∧ aR S es b l o ∧ S.mapo b = some (.top te (o + l.length * es) (o + cap * es)))
def bR (S : Sto) : List C → List Value → Prop
 | [], vs => vs = []
 | c :: cs, vs => ∃ v vs', vs = v :: vs' ∧ Rep S c v ∧ bR S cs vs'
def aR (S : Sto) (es b : Nat) : List (List C) → Nat → Prop
 | [], _ => True
 | r :: rs, o => r.length = es ∧ (∃ vs, bR S r vs ∧ dF S b o vs) ∧ aR S es b rs (o + es)
def aZ (S : Sto) (agg : Bool) : List (List C) → List MapEntry → Prop
 | [], es => es = []
 | r :: rs, es => ∃ e es', es = e :: es' ∧ (∃ vs, bR S r (e.key :: vs) ∧ (e.val = if agg then .agg ⟨vs⟩ else vs.headD undef) ∧ (agg = false → vs.length = 1)) ∧ aZ S agg rs es'
def eM (S : Sto) (agg : Bool) : List (List C) → MapEntry → Prop
 | [], _ => False
 | r :: rs, e => (∃ vs, bR S r (e.key :: vs) ∧ (e.val = if agg then .agg ⟨vs⟩ else vs.headD undef) ∧ (agg = false → vs.length = 1)) ∨ eM S agg rs e
def uX (S : Sto) (agg : Bool) : List (List C) → Array MapEntry → Prop
 | [], _ => False
 | r :: rs, es => r = [] ∧ (∀ e ∈ es.toList, eM S agg rs e) ∧ ∀ k cs, (.str k :: cs) ∈ rs → aFm k es
end
mutual
theorem Rep.mono {S S' : Sto} (h : S.le S') : ∀ (c : C) (v : Value), Rep S c v → Rep S' c v
 | .int _ _, _, k => by simpa [Rep] using k
 | .bool _, _, k => by simpa [Rep] using k
 | .str _, _, k => by simpa [Rep] using k
 | .nl, _, k => by simpa [Rep] using k
 | .np, _, k => by simpa [Rep] using k
 | .zv _, _, k => by simpa [Rep] using k
 | .any, _, k => by simp only [Rep] at k ⊢; exact k
 | .fn _, _, k => by simpa [Rep] using k
 | .clo _ l, v, k => by
  simp only [Rep] at k ⊢;obtain ⟨vs, h1, h2⟩ := k;exact ⟨vs, h1, bR.mono h l vs h2⟩
 | .sg te es l, v, k => by
  simp only [Rep] at k ⊢;obtain ⟨a, len, cap, h1, h2, h3, h4, h5⟩ := k;refine ⟨a, len, cap, h1, h2, h3, h4, h5.imp id fun ⟨b, o, h6, h7, h8⟩ => ⟨b, o, h6, aR.mono h es b l o h7, Sto.le_top h h8⟩⟩
 | .sl es l, v, k => by
  simp only [Rep] at k ⊢;obtain ⟨a, len, cap, h1, h2, h3, h4, h5, h6, b, o, h7, h8⟩ := k;exact ⟨a, len, cap, h1, h2, h3, h4, h5, h6, b, o, h7, aR.mono h es b l o h8⟩
 | .sn es l, v, k => by
  simp only [Rep] at k ⊢;obtain ⟨b, o, sp, len, cap, h1, h2, h3, h4, h5, h6⟩ := k;exact ⟨b, o, sp, len, cap, h1, h2, h3, h4, h5, aR.mono h es b l o h6⟩
 | .pt l, v, k => by
  simp only [Rep] at k ⊢;obtain ⟨b, o, h1, vs, h2, h3⟩ := k;exact ⟨b, o, h1, vs, bR.mono h l vs h2, h3.mono h⟩
 | .mp agg l, v, k => by
  simp only [Rep] at k ⊢;obtain ⟨b, es, clk, h1, h2, h3⟩ := k;exact ⟨b, es, clk, h1, Sto.le_all h h2, h3.elim (fun h3 => .inl (aZ.mono h agg l es.toList h3)) fun h3 => .inr (uX.mono h agg l es h3)⟩
theorem bR.mono {S S' : Sto} (h : S.le S') : ∀ (c : List C) (v : List Value), bR S c v → bR S' c v
 | [], _, k => by simpa [bR] using k
 | c :: cs, vs, k => by
  simp only [bR] at k ⊢;obtain ⟨v, vs', h1, h2, h3⟩ := k;exact ⟨v, vs', h1, Rep.mono h c v h2, bR.mono h cs vs' h3⟩
theorem aR.mono {S S' : Sto} (h : S.le S') (es b : Nat) : ∀ (l : List (List C)) (o : Nat), aR S es b l o → aR S' es b l o
 | [], _, _ => by simp [aR]
 | r :: rs, o, k => by
  simp only [aR] at k ⊢;obtain ⟨h1, ⟨vs, h2, h3⟩, h4⟩ := k;exact ⟨h1, ⟨vs, bR.mono h r vs h2, h3.mono h⟩, aR.mono h es b rs (o + es) h4⟩
theorem aZ.mono {S S' : Sto} (h : S.le S') (agg : Bool) : ∀ (l : List (List C)) (es : List MapEntry), aZ S agg l es → aZ S' agg l es
 | [], _, k => by simpa [aZ] using k
 | r :: rs, es, k => by
  simp only [aZ] at k ⊢;obtain ⟨e, es', h1, ⟨vs, h2, h3⟩, h4⟩ := k;exact ⟨e, es', h1, ⟨vs, bR.mono h r _ h2, h3⟩, aZ.mono h agg rs es' h4⟩
theorem eM.mono {S S' : Sto} (h : S.le S') (agg : Bool) : ∀ (l : List (List C)) (e : MapEntry), eM S agg l e → eM S' agg l e
 | [], _, k => by simp only [eM] at k
 | r :: rs, e, k => by
  simp only [eM] at k ⊢;rcases k with ⟨vs, h2, h3⟩ | k
  ·exact .inl ⟨vs, bR.mono h r _ h2, h3⟩
  ·exact .inr (eM.mono h agg rs e k)
theorem uX.mono {S S' : Sto} (h : S.le S') (agg : Bool) : ∀ (l : List (List C)) (es : Array MapEntry), uX S agg l es → uX S' agg l es
 | [], _, k => by simp only [uX] at k
 | r :: rs, es, k => by
  simp only [uX] at k ⊢;exact ⟨k.1, fun e he => eM.mono h agg rs e (k.2.1 e he), k.2.2⟩
end
theorem bR.length {S : Sto} : ∀ {c : List C} {v : List Value}, bR S c v → v.length = c.length
 | [], _, k => by simp only [bR] at k; subst k; rfl
 | _ :: cs, _, k => by
  simp only [bR] at k;obtain ⟨v, vs', rfl, _, h⟩ := k;simp [bR.length h]
theorem bR.append {S : Sto} : ∀ {a : List C} {x : List Value} {b : List C} {y : List Value}, bR S a x → bR S b y → bR S (a ++ b) (x ++ y)
 | [], _, _, _, h, k => by simp only [bR] at h; subst h; simpa using k
 | _ :: _, _, _, _, h, k => by
  simp only [bR, cons_append] at h ⊢;obtain ⟨v, vs', rfl, h1, h2⟩ := h;exact ⟨v, vs' ++ _, rfl, h1, h2.append k⟩
theorem bR.take {S : Sto} : ∀ {a : List C} {x : List Value} (n : Nat), bR S a x → bR S (a.take n) (x.take n)
 | _, _, 0, _ => by simp [bR]
 | [], _, n + 1, h => by simp only [bR] at h; subst h; simp [bR]
 | _ :: _, _, n + 1, h => by
  simp only [bR, take_succ_cons] at h ⊢;obtain ⟨v, vs', rfl, h1, h2⟩ := h;exact ⟨v, vs'.take n, by simp, h1, h2.take n⟩
theorem bR.drop {S : Sto} : ∀ {a : List C} {x : List Value} (n : Nat), bR S a x → bR S (a.drop n) (x.drop n)
 | _, _, 0, h => by simpa using h
 | [], _, n + 1, h => by simp only [bR] at h; subst h; simp [bR]
 | _ :: _, _, n + 1, h => by
  simp only [bR, drop_succ_cons] at h ⊢;obtain ⟨v, vs', rfl, h1, h2⟩ := h;simpa using h2.drop n
theorem aR.get {S : Sto} {es b : Nat} : ∀ {l : List (List C)} {o : Nat}, aR S es b l o → ∀ (i : Nat) (r : List C), l[i]? = some r → r.length = es ∧ ∃ vs, bR S r vs ∧ dF S b (o + i * es) vs
 | [], _, _, i, r, h => by simp at h
 | x :: xs, o, k, i, r, h => by
  simp only [aR] at k;obtain ⟨h1, h2, h3⟩ := k;cases i with
  | zero => simp at h; subst h; simpa using ⟨h1, h2⟩
  | succ i =>
   simp at h;have := h3.get i r h;rw [show o + es + i * es = o + (i + 1) * es by rw [add_mul]; omega] at this;exact this
theorem aR.drop {S : Sto} {es b : Nat} : ∀ {l : List (List C)} {o : Nat} (n : Nat), aR S es b l o → aR S es b (l.drop n) (o + n * es)
 | _, _, 0, h => by simpa using h
 | [], _, n + 1, _ => by simp [aR]
 | x :: xs, o, n + 1, h => by
  simp only [aR, drop_succ_cons] at h ⊢;have := h.2.2.drop n;rw [show o + es + n * es = o + (n + 1) * es by rw [add_mul]; omega] at this;exact this
theorem aR.take {S : Sto} {es b : Nat} : ∀ {l : List (List C)} {o : Nat} (n : Nat), aR S es b l o → aR S es b (l.take n) o
 | _, _, 0, _ => by simp [aR]
 | [], _, n + 1, _ => by simp [aR]
 | x :: xs, o, n + 1, h => by
  simp only [aR, take_succ_cons] at h ⊢;exact ⟨h.1, h.2.1, h.2.2.take n⟩
theorem aR.of_flat {S : Sto} {es b : Nat} : ∀ {l : List (List C)} {o : Nat} {vs : List Value}, (∀ r ∈ l, r.length = es) → bR S l.flatten vs → dF S b o vs → aR S es b l o
 | [], _, _, _, _, _ => by simp [aR]
 | r :: rs, o, vs, hl, h, hc => by
  have hr : r.length = es := hl r (by simp);simp only [aR, flatten_cons] at h ⊢;have h1 := h.take r.length;have h2 := h.drop r.length;simp only [List.take_left', List.drop_left'] at h1 h2;refine ⟨hr, ⟨_, h1, fun i v e => ?_⟩, aR.of_flat (fun x hx => hl x (by simp [hx])) h2 fun i v e => ?_⟩
  ·rw [List.getElem?_take] at e;split at e
   ·exact hc i v e
   ·cases e
  ·rw [List.getElem?_drop, hr] at e;have := hc (es + i) v e;rwa [← add_assoc] at this
inductive R where
 | c (x : C)
 | hs (id off len sz : Nat)
 | tl (id off len sz : Nat)
 | vp (id off : Nat)
 | ep (id i fo sz : Nat)
 | mr (id : Nat)
 | clo (f : FuncId) (caps : List R)
 | mth (f : FuncId) (recv : R)
 | yl (id : Nat)
 | ra (id off len sz : Nat)
 | rp (id i fo sz : Nat)
 | ras (n es : Nat) (l : List R)
 | pas (l : List R)
 deriving Inhabited
inductive V where
 | one (r : R)
 | pa (l : List C)
 | ma (l : List R)
 | tup (l : List V)
 deriving Inhabited
structure LI where
 n : Nat
 params : Array Tmp
 asg : Code
 body : Code
 deriving Inhabited
inductive AObj where
 | var (t : TypeId) (cells : List R)
 | arr (te es : Nat) (elems : List (List C)) (fz : Nat)
 | map (agg : Bool) (ents : List (List C))
 | dead
 | lp (st : LoopState) (jump : Option Code) (i : LI) (e : List (Nat × V))
 | dfr
 | rarr (te es : Nat) (elems : List (List R))
 | tok (r : R) (k : List UInt8)
 deriving Inhabited
abbrev cH := Nat → Option AObj
abbrev Mu := Nat → Option (Nat × Nat × Nat)
mutual
def b5 (S : Sto) (μ : Mu) (H : cH) : R → Value → Prop
 | .c x, v => Rep S x v
 | .hs id off len sz, v => (∃ a l c, v = .slice a l c) ∧ (H id = some .dead ∨ ∃ te es elems fz, H id = some (.arr te es elems fz) ∧ sz ≤ elems.length ∧
   (sz = elems.length → off + len ≤ sz ∧ ((μ id = none ∧ elems = [] ∧ v = .slice none 0 0) ∨ ∃ b base cap, μ id = some (b, base, cap) ∧ v = .slice (some ⟨b, base + off * es, none⟩) len (cap - off))))
 | .tl id off len sz, v => (∃ a l c, v = .slice a l c) ∧ (H id = some .dead ∨ ∃ te es elems fz, H id = some (.arr te es elems fz) ∧ sz ≤ elems.length ∧
   (sz = elems.length → off + len = sz ∧ ∃ b base cap, μ id = some (b, base, cap) ∧ off ≤ cap ∧ v = .slice (some ⟨b, if cap = off then base else base + off * es, none⟩) len (cap - off)))
 | .vp id off, v => ∃ t cells b c, H id = some (.var t cells) ∧ μ id = some (b, c) ∧ v = .pointer (some ⟨b, off, none⟩)
 | .ep id i fo sz, v => (∃ a, v = .pointer a) ∧ (H id = some .dead ∨ ∃ te es elems fz, H id = some (.arr te es elems fz) ∧ sz ≤ elems.length ∧
   (sz = elems.length → i < sz ∧ ∃ b base cap, μ id = some (b, base, cap) ∧ v = .pointer (some ⟨b, base + i * es + fo, none⟩)))
 | .mr id, v => ∃ agg ents b c, H id = some (.map agg ents) ∧ μ id = some (b, c) ∧ v = .map (some b)
 | .clo f caps, v => ∃ vs, v = .func (.func f) #[] ⟨vs⟩ ∧ aO S μ H caps vs
 | .mth f recv, v => ∃ u, v = .func (.func f) #[u] #[] ∧ b5 S μ H recv u
 | .yl id, v => ∃ st j i e b c, H id = some (.lp st j i e) ∧ μ id = some (b, c) ∧ v = .func (.yield b) #[] #[]
 | .ra id off len sz, v => (∃ a l c, v = .slice a l c) ∧ (H id = some .dead ∨ ∃ te es elems, H id = some (.rarr te es elems) ∧ sz ≤ elems.length ∧
   (sz = elems.length → off + len ≤ sz ∧ ((μ id = none ∧ elems = [] ∧ v = .slice none 0 0) ∨ ∃ b base cap, μ id = some (b, base, cap) ∧ v = .slice (some ⟨b, base + off * es, none⟩) len (cap - off))))
 | .rp id i fo sz, v => (∃ a, v = .pointer a) ∧ (H id = some .dead ∨ ∃ te es elems, H id = some (.rarr te es elems) ∧ sz ≤ elems.length ∧
   (sz = elems.length → i < sz ∧ ∃ b base cap, μ id = some (b, base, cap) ∧ v = .pointer (some ⟨b, base + i * es + fo, none⟩)))
 | .ras n es l, v => ∃ a cap, v = .slice a n cap ∧ n * es = l.length ∧ n ≤ cap ∧ cap ≤ maxLen ∧ (a = none → n = 0 ∧ cap = 0) ∧ (∀ ad, a = some ad → ad.spot = none) ∧ ∃ b o, (∀ ad, a = some ad → ad.block = b ∧ ad.off = o) ∧
   ∃ vs, aO S μ H l vs ∧ dF S b o vs
 | .pas l, v => ∃ b o, v = .pointer (some ⟨b, o, none⟩) ∧ ∃ vs, aO S μ H l vs ∧ dF S b o vs
def aO (S : Sto) (μ : Mu) (H : cH) : List R → List Value → Prop
 | [], vs => vs = []
 | r :: rs, vs => ∃ v vs', vs = v :: vs' ∧ b5 S μ H r v ∧ aO S μ H rs vs'
end
mutual
def aQ (S : Sto) (μ : Mu) (H : cH) : V → Value → Prop
 | .one r, v => b5 S μ H r v
 | .pa l, v => ∃ vs, v = .agg ⟨vs⟩ ∧ bR S l vs
 | .ma l, v => ∃ vs, v = .agg ⟨vs⟩ ∧ aO S μ H l vs
 | .tup l, v => ∃ vs, v = .tuple ⟨vs⟩ ∧ bO S μ H l vs
def bO (S : Sto) (μ : Mu) (H : cH) : List V → List Value → Prop
 | [], vs => vs = []
 | r :: rs, vs => ∃ v vs', vs = v :: vs' ∧ aQ S μ H r v ∧ bO S μ H rs vs'
end
def i4 : List (List C) → Prop
 | [] => True
 | (.str _ :: _) :: r => i4 r
 | _ :: _ => False
def uY (S : Sto) (agg : Bool) (ents : List (List C)) (es : List MapEntry) : Prop := (ents = [[]] ∧ ∃ e', i4 e' ∧ aZ S agg e' es) ∨ aZ S agg ents es ∨ ∃ T, ents = [] :: T ∧ T ≠ [] ∧ ∀ e ∈ es, eM S agg T e
theorem uY.mono {S S' : Sto} (h : S.le S') {agg : Bool} {ents : List (List C)} {es : List MapEntry} (k : uY S agg ents es) : uY S' agg ents es :=
 k.imp (fun ⟨h1, e', h2, h3⟩ => ⟨h1, e', h2, aZ.mono h _ _ _ h3⟩) fun k => k.imp (aZ.mono h _ _ _) fun ⟨T, h1, h2, h3⟩ => ⟨T, h1, h2, fun e he => eM.mono h _ _ _ (h3 e he)⟩
theorem uY.rep {S : Sto} {agg : Bool} {ents : List (List C)} {es : List MapEntry} (hm : i4 ents) (k : uY S agg ents es) : aZ S agg ents es :=
 k.elim (fun h => by rw [h.1] at hm; simp [i4] at hm) fun k => k.elim id fun ⟨T, h, _⟩ => by rw [h] at hm; simp [i4] at hm
def yI (S : Sto) (b : Nat) (ents : List (List C)) : Prop := S.mapo b = none ∨ ∃ T ks, ents = [] :: T ∧ T ≠ [] ∧ S.mapo b = some (.part ks)
theorem yI.kn0 {S : Sto} {b : Nat} {ents : List (List C)} (h : yI S b ents) (hm : i4 ents) : S.mapo b = none := by
 rcases h with h | ⟨T, ks, h, _⟩
 ·exact h
 ·rw [h] at hm; simp [i4] at hm
theorem yI.of_eq {S S' : Sto} {b : Nat} {ents : List (List C)} (h : yI S b ents) (e : S'.mapo b = S.mapo b) : yI S' b ents :=
 h.imp (fun h => e.trans h) fun ⟨T, ks, h1, h2, h3⟩ => ⟨T, ks, h1, h2, e.trans h3⟩
def j6 (S : Sto) (μ : Mu) (H : cH) (w : World) (id : Nat) : AObj → Prop
 | .var t cells => ∃ b vs, μ id = some (b, 0, 0) ∧ w.heap[b]? = some (.cells ⟨vs⟩ t (0, 0)) ∧ aO S μ H cells vs ∧ (∀ o, S.cell b o = none) ∧ S.mapo b = none
 | .arr te es elems fz => (∀ r ∈ elems, r.length = es) ∧ ((μ id = none ∧ elems = []) ∨ ∃ b base cap vs, μ id = some (b, base, cap) ∧ w.heap[b]? = some (.cells ⟨vs⟩ te (0, 0)) ∧
   base + cap * es ≤ vs.length ∧ elems.length ≤ cap ∧ (cap ≤ maxLen ∧ S.mapo b = none) ∧ bR S elems.flatten ((vs.drop base).take (elems.length * es)) ∧
   (fz = 0 → ∀ o, base ≤ o → S.cell b o = none) ∧ (∀ o, base + elems.length * es ≤ o → S.cell b o = none) ∧ (fz = 2 → dF S b base ((vs.drop base).take (elems.length * es))))
 | .map agg ents => ∃ b es clk, μ id = some (b, 0, 0) ∧ w.heap[b]? = some (.map es clk) ∧ uY S agg ents es.toList ∧ yI S b ents
 | .dead => μ id = none
 | .lp st j i e => ∃ b r fn tmps, μ id = some (b, 0, 0) ∧ w.heap[b]? = some (.loop { state := st, pending := j, fn := fn, tmps := tmps, params := i.params, assign := i.asg, body := i.body, defers := r }) ∧
   tmps.size = i.n ∧ (∀ t v, (t, v) ∈ e → aQ S μ H v (tmps.getD t undef)) ∧ (∀ o, S.cell b o = none) ∧ S.mapo b = none
 | .dfr => ∃ b, μ id = some (b, 0, 0) ∧ w.heap[b]? = some (.deferred (some [])) ∧ (∀ o, S.cell b o = none) ∧ S.mapo b = none
 | .rarr te es elems => (∀ r ∈ elems, r.length = es) ∧ ((μ id = none ∧ elems = []) ∨ ∃ b base cap vs, μ id = some (b, base, cap) ∧ w.heap[b]? = some (.cells ⟨vs⟩ te (0, 0)) ∧
   base + cap * es ≤ vs.length ∧ elems.length ≤ cap ∧ (cap ≤ maxLen ∧ S.mapo b = none) ∧ aO S μ H elems.flatten ((vs.drop base).take (elems.length * es)) ∧ (∀ o, base ≤ o → S.cell b o = none))
 | .tok r k => μ id = none ∧ ∃ b, b5 S μ H r (.map (some b)) ∧ ∃ m, S.mapo b = some m ∧ m.has k
def AObj.succ (same : Prop) : AObj → AObj → Prop
 | .var _ _, .var _ _ => same
 | .arr _ es l _, .arr _ es' l' _ => es = es' ∧ l.length ≤ l'.length ∧ (l.length = l'.length → same)
 | .map _ _, .map _ _ => same
 | .arr _ _ _ _, .dead => True
 | .dead, .dead => True
 | .lp _ _ _ _, .lp _ _ _ _ => same
 | .dfr, .dfr => same
 | .rarr _ es l, .rarr _ es' l' => es = es' ∧ l.length ≤ l'.length ∧ (l.length = l'.length → same)
 | .rarr _ _ _, .dead => True
 | .tok _ k, .tok _ k' => k = k'
 | _, _ => False
structure Evolve (S : Sto) (μ : Mu) (H : cH) (S' : Sto) (μ' : Mu) (H' : cH) : Prop where
 le : S.le S'
 obj : ∀ id o, H id = some o → ∃ o', H' id = some o' ∧ o.succ (μ' id = μ id) o'
structure Evo0 (S : Sto) (μ : Mu) (H : cH) (S' : Sto) (μ' : Mu) (H' : cH) : Prop where
 le : S.le S'
 obj : ∀ id o, H id = some o → o ≠ .dfr → ∃ o', H' id = some o' ∧ o.succ (μ' id = μ id) o'
theorem Evolve.weak {S : Sto} {μ : Mu} {H : cH} {S' : Sto} {μ' : Mu} {H' : cH} (E : Evolve S μ H S' μ' H') : Evo0 S μ H S' μ' H' := ⟨E.le, fun id o h _ => E.obj id o h⟩
theorem AObj.succ_refl (o : AObj) {p : Prop} (h : p) : o.succ p o := by cases o <;> simp [AObj.succ, h]
theorem AObj.succ_dead {o : AObj} {p : Prop} (h : AObj.dead.succ p o) : o = .dead := by cases o <;> simp only [AObj.succ] at h; rfl
theorem AObj.succ_trans {a b c : AObj} {p q r : Prop} (h : a.succ p b) (k : b.succ q c) (hr : p → q → r) : a.succ r c := by
  cases a <;> cases b <;> simp only [AObj.succ] at h <;> cases c <;> simp only [AObj.succ] at k ⊢
  all_goals first
    | exact hr h k
    | trivial
    | exact h.trans k
    | (obtain ⟨h1, h2, h3⟩ := h
       obtain ⟨k1, k2, k3⟩ := k
       exact ⟨h1.trans k1, le_trans h2 k2, fun e => hr (h3 (by omega)) (k3 (by omega))⟩)
theorem Evolve.refl (S : Sto) (μ : Mu) (H : cH) : Evolve S μ H S μ H := ⟨S.le_refl, fun _ o h => ⟨o, h, o.succ_refl rfl⟩⟩
theorem Evolve.trans {S S' S'' : Sto} {μ μ' μ'' : Mu} {H H' H'' : cH} (h : Evolve S μ H S' μ' H') (k : Evolve S' μ' H' S'' μ'' H'') : Evolve S μ H S'' μ'' H'' :=
 ⟨Sto.le_trans h.le k.le, fun id o ho => by
  obtain ⟨o', h1, h2⟩ := h.obj id o ho;obtain ⟨o'', k1, k2⟩ := k.obj id o' h1
  exact ⟨o'', k1, AObj.succ_trans h2 k2 fun e f => f.trans e⟩⟩
section
variable {S S' : Sto} {μ μ' : Mu} {H H' : cH}
mutual
theorem b5.evolve0 (E : Evo0 S μ H S' μ' H') : ∀ (r : R) (v : Value), b5 S μ H r v → b5 S' μ' H' r v
 | .c x, v, k => by simp only [b5] at k ⊢; exact Rep.mono E.le x v k
 | .hs id off len sz, v, k => by
  simp only [b5] at k ⊢;obtain ⟨kk, k⟩ := k;refine ⟨kk, ?_⟩;rcases k with k | ⟨te, es, elems, fz, h1, h2, h3⟩
  ·obtain ⟨o', h4, h5⟩ := E.obj _ _ k (by simp);exact .inl (by rw [h4, AObj.succ_dead h5])
  obtain ⟨o', h4, h5⟩ := E.obj _ _ h1 (by simp);cases o' with
  | arr te' es' elems' fz' =>
   simp only [AObj.succ] at h5;obtain ⟨rfl, h6, h7⟩ := h5;refine .inr ⟨te', es, elems', fz', h4, le_trans h2 h6, fun e => ?_⟩;have e1 : sz = elems.length := by omega
   obtain ⟨h8, h9⟩ := h3 e1;have hm := h7 (by omega);refine ⟨h8, ?_⟩;rcases h9 with ⟨g1, g2, g3⟩ | ⟨b, base, cap, g1, g2⟩
   ·refine .inl ⟨by rw [hm, g1], ?_, g3⟩;subst g2;simp only [length_nil] at e1 h6;exact eq_nil_of_length_eq_zero (by omega)
   ·exact .inr ⟨b, base, cap, by rw [hm, g1], g2⟩
  | dead => exact .inl h4
  | _ => simp only [AObj.succ] at h5
 | .tl id off len sz, v, k => by
  simp only [b5] at k ⊢;obtain ⟨kk, k⟩ := k;refine ⟨kk, ?_⟩;rcases k with k | ⟨te, es, elems, fz, h1, h2, h3⟩
  ·obtain ⟨o', h4, h5⟩ := E.obj _ _ k (by simp);exact .inl (by rw [h4, AObj.succ_dead h5])
  obtain ⟨o', h4, h5⟩ := E.obj _ _ h1 (by simp);cases o' with
  | arr te' es' elems' fz' =>
   simp only [AObj.succ] at h5;obtain ⟨rfl, h6, h7⟩ := h5;refine .inr ⟨te', es, elems', fz', h4, le_trans h2 h6, fun e => ?_⟩;obtain ⟨h8, b, base, cap, g1, g2⟩ := h3 (by omega);exact ⟨h8, b, base, cap, by rw [h7 (by omega), g1], g2⟩
  | dead => exact .inl h4
  | _ => simp only [AObj.succ] at h5
 | .vp id off, v, k => by
  simp only [b5] at k ⊢;obtain ⟨t, cells, b, c, h1, h2, h3⟩ := k;obtain ⟨o', h4, h5⟩ := E.obj _ _ h1 (by simp);cases o' with
  | var t' cells' => simp only [AObj.succ] at h5; exact ⟨t', cells', b, c, h4, by rw [h5, h2], h3⟩
  | _ => simp only [AObj.succ] at h5
 | .ep id i fo sz, v, k => by
  simp only [b5] at k ⊢;obtain ⟨kk, k⟩ := k;refine ⟨kk, ?_⟩;rcases k with k | ⟨te, es, elems, fz, h1, h2, h3⟩
  ·obtain ⟨o', h4, h5⟩ := E.obj _ _ k (by simp);exact .inl (by rw [h4, AObj.succ_dead h5])
  obtain ⟨o', h4, h5⟩ := E.obj _ _ h1 (by simp);cases o' with
  | arr te' es' elems' fz' =>
   simp only [AObj.succ] at h5;obtain ⟨rfl, h6, h7⟩ := h5;refine .inr ⟨te', es, elems', fz', h4, le_trans h2 h6, fun e => ?_⟩;obtain ⟨h8, b, base, cap, g1, g2⟩ := h3 (by omega);exact ⟨h8, b, base, cap, by rw [h7 (by omega), g1], g2⟩
  | dead => exact .inl h4
  | _ => simp only [AObj.succ] at h5
 | .mr id, v, k => by
  simp only [b5] at k ⊢;obtain ⟨agg, ents, b, c, h1, h2, h3⟩ := k;obtain ⟨o', h4, h5⟩ := E.obj _ _ h1 (by simp);cases o' with
  | map agg' ents' => simp only [AObj.succ] at h5; exact ⟨agg', ents', b, c, h4, by rw [h5, h2], h3⟩
  | _ => simp only [AObj.succ] at h5
 | .clo f caps, v, k => by
  simp only [b5] at k ⊢;obtain ⟨vs, h1, h2⟩ := k;exact ⟨vs, h1, aO.evolve0 E caps vs h2⟩
 | .mth f recv, v, k => by
  simp only [b5] at k ⊢;obtain ⟨u, h1, h2⟩ := k;exact ⟨u, h1, b5.evolve0 E recv u h2⟩
 | .rp id i fo sz, v, k => by
  simp only [b5] at k ⊢;obtain ⟨kk, k⟩ := k;refine ⟨kk, ?_⟩;rcases k with k | ⟨te, es, elems, h1, h2, h3⟩
  ·obtain ⟨o', h4, h5⟩ := E.obj _ _ k (by simp);exact .inl (by rw [h4, AObj.succ_dead h5])
  obtain ⟨o', h4, h5⟩ := E.obj _ _ h1 (by simp);cases o' with
  | rarr te' es' elems' =>
   simp only [AObj.succ] at h5;obtain ⟨rfl, h6, h7⟩ := h5;refine .inr ⟨te', es, elems', h4, le_trans h2 h6, fun e => ?_⟩;obtain ⟨h8, b, base, cap, g1, g2⟩ := h3 (by omega);exact ⟨h8, b, base, cap, by rw [h7 (by omega), g1], g2⟩
  | dead => exact .inl h4
  | _ => simp only [AObj.succ] at h5
 | .yl id, v, k => by
  simp only [b5] at k ⊢;obtain ⟨st, j, i, e, b, c, h1, h2, h3⟩ := k;obtain ⟨o', h4, h5⟩ := E.obj _ _ h1 (by simp);cases o' with
  | lp st' j' i' e' => simp only [AObj.succ] at h5; exact ⟨st', j', i', e', b, c, h4, by rw [h5, h2], h3⟩
  | _ => simp only [AObj.succ] at h5
 | .ra id off len sz, v, k => by
  simp only [b5] at k ⊢;obtain ⟨kk, k⟩ := k;refine ⟨kk, ?_⟩;rcases k with k | ⟨te, es, elems, h1, h2, h3⟩
  ·obtain ⟨o', h4, h5⟩ := E.obj _ _ k (by simp);exact .inl (by rw [h4, AObj.succ_dead h5])
  obtain ⟨o', h4, h5⟩ := E.obj _ _ h1 (by simp);cases o' with
  | rarr te' es' elems' =>
   simp only [AObj.succ] at h5;obtain ⟨rfl, h6, h7⟩ := h5;refine .inr ⟨te', es, elems', h4, le_trans h2 h6, fun e => ?_⟩;have e1 : sz = elems.length := by omega
   obtain ⟨h8, h9⟩ := h3 e1;have hm := h7 (by omega);refine ⟨h8, ?_⟩;rcases h9 with ⟨g1, g2, g3⟩ | ⟨b, base, cap, g1, g2⟩
   ·refine .inl ⟨by rw [hm, g1], ?_, g3⟩;subst g2;simp only [length_nil] at e1 h6;exact eq_nil_of_length_eq_zero (by omega)
   ·exact .inr ⟨b, base, cap, by rw [hm, g1], g2⟩
  | dead => exact .inl h4
  | _ => simp only [AObj.succ] at h5
 | .ras n es l, v, k => by
  simp only [b5] at k ⊢;obtain ⟨a, cap, h1, h2, h3, h4, h5, h6, b, o, h7, vs, h8, h9⟩ := k;exact ⟨a, cap, h1, h2, h3, h4, h5, h6, b, o, h7, vs, aO.evolve0 E l vs h8, h9.mono E.le⟩
 | .pas l, v, k => by
  simp only [b5] at k ⊢;obtain ⟨b, o, h1, vs, h8, h9⟩ := k;exact ⟨b, o, h1, vs, aO.evolve0 E l vs h8, h9.mono E.le⟩
theorem aO.evolve0 (E : Evo0 S μ H S' μ' H') : ∀ (r : List R) (v : List Value), aO S μ H r v → aO S' μ' H' r v
 | [], _, k => by simpa [aO] using k
 | r :: rs, vs, k => by
  simp only [aO] at k ⊢;obtain ⟨v, vs', h1, h2, h3⟩ := k;exact ⟨v, vs', h1, b5.evolve0 E r v h2, aO.evolve0 E rs vs' h3⟩
end
mutual
theorem aQ.evolve0 (E : Evo0 S μ H S' μ' H') : ∀ (r : V) (v : Value), aQ S μ H r v → aQ S' μ' H' r v
 | .one r, v, k => by simp only [aQ] at k ⊢; exact b5.evolve0 E r v k
 | .pa l, v, k => by
  simp only [aQ] at k ⊢;obtain ⟨vs, h1, h2⟩ := k;exact ⟨vs, h1, bR.mono E.le l vs h2⟩
 | .ma l, v, k => by
  simp only [aQ] at k ⊢;obtain ⟨vs, h1, h2⟩ := k;exact ⟨vs, h1, aO.evolve0 E l vs h2⟩
 | .tup l, v, k => by
  simp only [aQ] at k ⊢;obtain ⟨vs, h1, h2⟩ := k;exact ⟨vs, h1, bO.evolve0 E l vs h2⟩
theorem bO.evolve0 (E : Evo0 S μ H S' μ' H') : ∀ (r : List V) (v : List Value), bO S μ H r v → bO S' μ' H' r v
 | [], _, k => by simpa [bO] using k
 | r :: rs, vs, k => by
  simp only [bO] at k ⊢;obtain ⟨v, vs', h1, h2, h3⟩ := k;exact ⟨v, vs', h1, aQ.evolve0 E r v h2, bO.evolve0 E rs vs' h3⟩
end
theorem aO.evolve (E : Evolve S μ H S' μ' H') (r : List R) (v : List Value) (k : aO S μ H r v) : aO S' μ' H' r v := aO.evolve0 E.weak r v k
theorem aQ.evolve (E : Evolve S μ H S' μ' H') (r : V) (v : Value) (k : aQ S μ H r v) : aQ S' μ' H' r v := aQ.evolve0 E.weak r v k
theorem bO.evolve (E : Evolve S μ H S' μ' H') (r : List V) (v : List Value) (k : bO S μ H r v) : bO S' μ' H' r v := bO.evolve0 E.weak r v k
end
structure Ctx where
 w0 : World
 S0 : Sto
 F : Nat → Prop
 μ0 : Mu
 h0 : cH
structure FrameW (w0 : World) (F : Nat → Prop) (w : World) : Prop where
 os : w.os = w0.os
 tape : w.tape = w0.tape
 output : w.output = w0.output
 size : w0.heap.size ≤ w.heap.size
 block : ∀ k, k < w0.heap.size → ¬ F k → w.heap[k]? = w0.heap[k]?
 tab : aJj w0 F
def tI (S : Sto) (w : World) : Prop :=
 (∀ b o v, S.cell b o = some v → ∃ vs t fr, w.heap[b]? = some (.cells vs t fr) ∧ vs[o]? = some v) ∧ (∀ b m, S.mapo b = some m → m.holds w.heap[b]?)
structure Inv (G : Ctx) (S : Sto) (μ : Mu) (H : cH) (w : World) : Prop where
 holds : tI S w
 obj : ∀ id o, H id = some o → j6 S μ H w id o
 inj : ∀ i j o o' b c c', H i = some o → H j = some o' → μ i = some (b, c) → μ j = some (b, c') → i = j
 own : ∀ i o b c, H i = some o → μ i = some (b, c) → G.w0.heap.size ≤ b ∨ G.F b
 frame : FrameW G.w0 G.F w
 sle : G.S0.le S
 sto : ∀ b, b < G.w0.heap.size → ¬ G.F b → (∀ o, S.cell b o = G.S0.cell b o) ∧ S.mapo b = G.S0.mapo b
 evo : Evolve G.S0 G.μ0 G.h0 S μ H
 fre : S.free
theorem FrameW.refl (w : World) (F : Nat → Prop) (h : aJj w F) : FrameW w F w := ⟨rfl, rfl, rfl, le_refl _, fun _ _ _ => rfl, h⟩
theorem FrameW.tabAt {w0 w : World} {F : Nat → Prop} (h : FrameW w0 F w) : aDs w := fun g hg => by
 obtain ⟨h1, t, fr, h2⟩ := h.tab.1 g hg;exact ⟨lt_of_lt_of_le h1 h.size, t, fr, by rw [h.block g h1 (h.tab.2 g hg)]; exact h2⟩
theorem j6.lt {S : Sto} {μ : Mu} {H : cH} {w : World} {id : Nat} {o : AObj} (h : j6 S μ H w id o) {b : Nat} {c : Nat × Nat} (hm : μ id = some (b, c)) : b < w.heap.size := by
 have hl : ∀ {x : Obj}, w.heap[b]? = some x → b < w.heap.size := fun e => (Array.getElem?_eq_some_iff.1 e).1
 cases o with
 | var t cells =>
  obtain ⟨b', vs, h1, h2, _⟩ := h;rw [hm] at h1; cases h1; exact hl h2
 | arr te es elems fz =>
  obtain ⟨_, ⟨h1, _⟩ | ⟨b', base, cap, vs, h1, h2, _⟩⟩ := h
  ·rw [hm] at h1; cases h1
  ·rw [hm] at h1; cases h1; exact hl h2
 | map agg ents =>
  obtain ⟨b', es, clk, h1, h2, _⟩ := h;rw [hm] at h1; cases h1; exact hl h2
 | dead => rw [show μ id = none from h] at hm; cases hm
 | lp st j i e =>
  obtain ⟨b', r, fn, tmps, h1, h2, _⟩ := h;rw [hm] at h1; cases h1; exact hl h2
 | dfr =>
  obtain ⟨b', h1, h2, _⟩ := h;rw [hm] at h1; cases h1; exact hl h2
 | rarr te es elems =>
  obtain ⟨_, ⟨h1, _⟩ | ⟨b', base, cap, vs, h1, h2, _⟩⟩ := h
  ·rw [hm] at h1; cases h1
  ·rw [hm] at h1; cases h1; exact hl h2
 | tok r k => rw [h.1] at hm; cases hm
theorem j6.evolve0 {S S' : Sto} {μ μ' : Mu} {H H' : cH} {w w' : World} {id : Nat} {o : AObj} (E : Evo0 S μ H S' μ' H') (h : j6 S μ H w id o) (hm : μ' id = μ id)
  (hw : ∀ b c, μ id = some (b, c) → w'.heap[b]? = w.heap[b]? ∧ (∀ o, S'.cell b o = S.cell b o) ∧ S'.mapo b = S.mapo b) : j6 S' μ' H' w' id o := by
 cases o with
 | var t cells =>
  obtain ⟨b, vs, h1, h2, h3, h4⟩ := h;obtain ⟨g1, g2, g3⟩ := hw _ _ h1;exact ⟨b, vs, by rw [hm, h1], by rw [g1, h2], aO.evolve0 E _ _ h3, fun o => by rw [g2, h4.1], by rw [g3, h4.2]⟩
 | arr te es elems fz =>
  obtain ⟨h0, ⟨h1, h2⟩ | ⟨b, base, cap, vs, h1, h2, h3, h4, h5, h6, h7, h8, h9⟩⟩ := h
  ·exact ⟨h0, .inl ⟨by rw [hm, h1], h2⟩⟩
  ·obtain ⟨g1, g2, g3⟩ := hw _ _ h1;exact ⟨h0, .inr ⟨b, base, cap, vs, by rw [hm, h1], by rw [g1, h2], h3, h4, ⟨h5.1, by rw [g3, h5.2]⟩, bR.mono E.le _ _ h6, fun e o ho => by rw [g2, h7 e o ho], fun o e => by rw [g2, h8 o e], fun e => (h9 e).mono E.le⟩⟩
 | map agg ents =>
  obtain ⟨b, es, clk, h1, h2, h3, h4⟩ := h;obtain ⟨g1, g2, g3⟩ := hw _ _ h1;exact ⟨b, es, clk, by rw [hm, h1], by rw [g1, h2], uY.mono E.le h3, h4.of_eq g3⟩
 | dead => exact hm.trans h
 | lp st j i e =>
  obtain ⟨b, r, fn, tmps, h1, h2, h3, h4, h5, h6⟩ := h;obtain ⟨g1, g2, g3⟩ := hw _ _ h1;exact ⟨b, r, fn, tmps, by rw [hm, h1], by rw [g1, h2], h3, fun t v ht => aQ.evolve0 E _ _ (h4 t v ht), fun o => by rw [g2, h5], by rw [g3, h6]⟩
 | dfr =>
  obtain ⟨b, h1, h2, h3, h4⟩ := h;obtain ⟨g1, g2, g3⟩ := hw _ _ h1;exact ⟨b, by rw [hm, h1], by rw [g1, h2], fun o => by rw [g2, h3], by rw [g3, h4]⟩
 | rarr te es elems =>
  obtain ⟨h0, ⟨h1, h2⟩ | ⟨b, base, cap, vs, h1, h2, h3, h4, h5, h6, h7⟩⟩ := h
  ·exact ⟨h0, .inl ⟨by rw [hm, h1], h2⟩⟩
  ·obtain ⟨g1, g2, g3⟩ := hw _ _ h1;exact ⟨h0, .inr ⟨b, base, cap, vs, by rw [hm, h1], by rw [g1, h2], h3, h4, ⟨h5.1, by rw [g3, h5.2]⟩, aO.evolve0 E _ _ h6, fun o ho => by rw [g2, h7 o ho]⟩⟩
 | tok r k =>
  obtain ⟨h1, b, h2, m, h3, h4⟩ := h;obtain ⟨m', h5, h6⟩ := E.le.2 b m h3;exact ⟨by rw [hm, h1], b, b5.evolve0 E _ _ h2, m', h5, MK.le_has h6 h4⟩
theorem j6.evolve {S S' : Sto} {μ μ' : Mu} {H H' : cH} {w w' : World} {id : Nat} {o : AObj} (E : Evolve S μ H S' μ' H') (h : j6 S μ H w id o) (hm : μ' id = μ id)
  (hw : ∀ b c, μ id = some (b, c) → w'.heap[b]? = w.heap[b]? ∧ (∀ o, S'.cell b o = S.cell b o) ∧ S'.mapo b = S.mapo b) : j6 S' μ' H' w' id o := j6.evolve0 E.weak h hm hw
def upd {α : Type} (f : Nat → Option α) (k : Nat) (x : Option α) : Nat → Option α := fun i => if Nat.beq i k then x else f i
theorem aC {α : Type} (f : Nat → Option α) (k : Nat) (x : Option α) : upd f k x k = x := by simp [upd]
theorem aT {α : Type} (f : Nat → Option α) (k : Nat) (x : Option α) {i : Nat} (h : i ≠ k) : upd f k x i = f i := by
 have : Nat.beq i k = false := by
  cases hb : Nat.beq i k with
  | false => rfl
  | true => exact absurd (eq_of_beq_eq_true hb) h
 simp [upd, this]
structure WChg (w w' : World) (b : Nat) (o : Obj) : Prop where
 os : w'.os = w.os
 tape : w'.tape = w.tape
 output : w'.output = w.output
 size : w.heap.size ≤ w'.heap.size
 new : w'.heap[b]? = some o
 old : ∀ k, k < w.heap.size → k ≠ b → w'.heap[k]? = w.heap[k]?
theorem WChg.alloc (w : World) (o : Obj) : WChg w (w.alloc o) w.heap.size o :=
 ⟨rfl, rfl, rfl, by simp, heap_alloc_new w o, fun k hk _ => RowKit.Below.heap_alloc w o k hk⟩
theorem WChg.alloc_drew (w : World) (o : Obj) : WChg w (w.drew.alloc o) w.heap.size o :=
 ⟨rfl, rfl, rfl, by simp, heap_alloc_new w.drew o, fun k hk _ => RowKit.Below.heap_alloc w.drew o k hk⟩
theorem WChg.setRow (w : World) (g : Nat) (cur cs : Array Value) (t : TypeId) (fr : Nat × Nat) (hg : w.heap[g]? = some (.cells cur t fr)) : WChg w (w.setRow g cs) g (.cells cs t fr) :=
 ⟨rfl, rfl, rfl, by simp, setRow_heap w g cur cs t fr hg, fun k _ hk => setRow_other w g k cs hk⟩
theorem dS {w : World} {b : Nat} {x : Obj} (e : w.heap[b]? = some x) : b < w.heap.size := (Array.getElem?_eq_some_iff.1 e).1
theorem Inv.chg {G : Ctx} {S : Sto} {μ : Mu} {H : cH} {w w' : World} {id b : Nat} {cap : Nat × Nat} {bo : Obj} {ao : AObj} (h : Inv G S μ H w) (hw : WChg w w' b bo)
  (hb : w.heap.size ≤ b ∨ (∃ o c, H id = some o ∧ μ id = some (b, c)))
  (hE : Evolve S μ H S (upd μ id (some (b, cap))) (upd H id (some ao)))
  (hO : j6 S (upd μ id (some (b, cap))) (upd H id (some ao)) w' id ao)
  (hS : ∀ o v, S.cell b o = some v → ∃ vs t fr, bo = .cells vs t fr ∧ vs[o]? = some v) (hSm : ∀ m, S.mapo b = some m → w.heap.size ≤ b) :
  Inv G S (upd μ id (some (b, cap))) (upd H id (some ao)) w' := by
 have hnew : ∀ j o, H j = some o → j ≠ id → ∀ b' c', μ j = some (b', c') → b' ≠ b := by
  intro j o hj hne b' c' hm e;subst e;rcases hb with hb | ⟨o', c, h1, h2⟩
  ·have := (h.obj j o hj).lt hm; omega
  ·exact hne (h.inj j id o o' b' c' c hj h1 hm h2)
 refine ⟨⟨?_, ?_⟩, ?_, ?_, ?_, ?_, h.sle, h.sto, h.evo.trans hE, h.fre⟩
 ·intro b' o v e;obtain ⟨vs, t, fr, h1, h2⟩ := h.holds.1 b' o v e;by_cases hbb : b' = b
  ·subst hbb;obtain ⟨vs', t', fr', h3, h4⟩ := hS o v e;exact ⟨vs', t', fr', by rw [hw.new, h3], h4⟩
  ·exact ⟨vs, t, fr, by rw [hw.old b' (dS h1) hbb, h1], h2⟩
 ·intro b' m e;have h1 := h.holds.2 b' m e;obtain ⟨_, h2⟩ := MK.holds_some h1;by_cases hbb : b' = b
  ·subst hbb;have := hSm _ e;have := dS h2;omega
  ·rw [hw.old b' (dS h2) hbb]; exact h1
 ·intro j o hj;by_cases hji : j = id
  ·subst hji;rw [aC] at hj;cases hj;exact hO
  ·rw [aT _ _ _ hji] at hj;refine (h.obj j o hj).evolve hE (aT _ _ _ hji) fun b' c' hm => ⟨?_, fun _ => rfl, rfl⟩
   exact hw.old b' ((h.obj j o hj).lt hm) (hnew j o hj hji b' c' hm)
 ·intro i j o o' b' c c' hi hj hmi hmj;by_cases hii : i = id <;> by_cases hjj : j = id
  ·rw [hii, hjj]
  ·subst hii;rw [aC] at hmi;cases hmi;rw [aT _ _ _ hjj] at hj hmj;exact absurd rfl (hnew j o' hj hjj _ _ hmj)
  ·subst hjj;rw [aC] at hmj;cases hmj;rw [aT _ _ _ hii] at hi hmi;exact absurd rfl (hnew i o hi hii _ _ hmi)
  ·rw [aT _ _ _ hii] at hi hmi;rw [aT _ _ _ hjj] at hj hmj;exact h.inj i j o o' b' c c' hi hj hmi hmj
 ·intro i o b' c hi hm;by_cases hii : i = id
  ·subst hii;rw [aC] at hm;cases hm;rcases hb with hb | ⟨o', c', h1, h2⟩
   ·exact .inl (le_trans h.frame.size hb)
   ·exact h.own _ _ _ _ h1 h2
  ·rw [aT _ _ _ hii] at hi hm;exact h.own _ _ _ _ hi hm
 ·refine ⟨hw.os.trans h.frame.os, hw.tape.trans h.frame.tape, hw.output.trans h.frame.output, le_trans h.frame.size hw.size, fun k hk hF => ?_, h.frame.tab⟩;rw [hw.old k (lt_of_lt_of_le hk h.frame.size) ?_, h.frame.block k hk hF];rintro rfl;rcases hb with hb | ⟨o', c', h1, h2⟩
  ·have := h.frame.size; omega
  ·rcases h.own _ _ _ _ h1 h2 with h3 | h3
   ·omega
   ·exact hF h3
theorem Inv.same {G : Ctx} {S : Sto} {μ : Mu} {H : cH} {w w' : World} (h : Inv G S μ H w) (hh : w'.heap = w.heap) (ho : w'.os = w.os) (ht : w'.tape = w.tape) (hu : w'.output = w.output) : Inv G S μ H w' := by
 obtain ⟨h1, h2, h3, h4, h5, h6, h7, h8, h9⟩ := h;refine ⟨⟨fun b o v e => by rw [hh]; exact h1.1 b o v e, fun b m e => by rw [hh]; exact h1.2 b m e⟩, fun id o e => (h2 id o e).evolve (Evolve.refl _ _ _) rfl fun b c hm => ⟨by rw [hh], fun _ => rfl, rfl⟩, h3, h4, ?_, h6, h7, h8, h9⟩;exact ⟨ho.trans h5.os, ht.trans h5.tape, hu.trans h5.output, by rw [hh]; exact h5.size, fun k hk hF => by rw [hh]; exact h5.block k hk hF, h5.tab⟩
theorem tI.cell {S : Sto} {w : World} (h : tI S w) {b o : Nat} {v : Value} (e : S.cell b o = some v) : w.cell? ⟨b, o, none⟩ = some v := by
 obtain ⟨vs, t, fr, h1, h2⟩ := h.1 b o v e;simp [World.cell?, h1, h2]
structure St where
 e : Nat → Option V
 h : cH
 d : List Nat
def Marks (lo : Nat) (μ : Mu) (H : cH) : List Nat → List Deferred → Prop
 | [], ds => ds = []
 | id :: ids, ds => ∃ b c ds', ds = { target := .collected b, args := #[] } :: ds' ∧ μ id = some (b, c) ∧ H id = some .dfr ∧ lo ≤ b ∧ id ∉ ids ∧ Marks lo μ H ids ds'
theorem Marks.ren {lo : Nat} {μ μ' : Mu} {H H' : cH} (σ : Nat → Nat) : ∀ {ids : List Nat} {ds : List Deferred}, Marks lo μ H (ids.map σ) ds → (∀ id ∈ ids, H (σ id) = some .dfr → μ' id = μ (σ id) ∧ H' id = some .dfr) → Marks lo μ' H' ids ds
 | [], _, h, _ => h
 | id :: ids, _, ⟨b, c, ds', h1, h2, h3, h5, h6, h4⟩, k => by
  obtain ⟨k1, k2⟩ := k id (by simp) h3;exact ⟨b, c, ds', h1, by rw [k1, h2], k2, h5, fun h => h6 (mem_map.2 ⟨_, h, rfl⟩), Marks.ren σ h4 fun i hi => k i (by simp [hi])⟩
theorem Marks.go {lo : Nat} {μ μ' : Mu} {H H' : cH} {ids : List Nat} {ds : List Deferred} (h : Marks lo μ H ids ds) (k : ∀ id ∈ ids, H id = some .dfr → μ' id = μ id ∧ H' id = some .dfr) : Marks lo μ' H' ids ds :=
 Marks.ren (fun i => i) (by simpa using h) fun id hid => k id hid
theorem Marks.evolve {lo : Nat} {S S' : Sto} {μ μ' : Mu} {H H' : cH} (E : Evolve S μ H S' μ' H') {ids : List Nat} {ds : List Deferred} (h : Marks lo μ H ids ds) : Marks lo μ' H' ids ds :=
 h.go fun id _ hd => by
  obtain ⟨o', h1, h2⟩ := E.obj id _ hd;cases o' with
  | dfr => exact ⟨h2, h1⟩
  | _ => simp only [AObj.succ] at h2
structure Sim (G : Ctx) (n : Nat) (S : Sto) (μ : Mu) (st : St) (a : Act) (w : World) : Prop where
 inv : Inv G S μ st.h w
 size : a.tmps.size = n
 defers : Marks G.w0.heap.size μ st.h st.d a.defers
 env : ∀ t v, st.e t = some v → aQ S μ st.h v (a.tmps.getD t undef)
theorem aC2 (ts : Array Value) (d t : Nat) (v : Value) (hd : d < ts.size) : (ts.setIfInBounds d v).getD t undef = if t = d then v else ts.getD t undef := by
 simp only [Array.getD_eq_getD_getElem?, Array.getElem?_setIfInBounds];by_cases h : d = t
 ·subst h; simp [hd]
 ·have : ¬ t = d := fun e => h e.symm
  simp [h, this]
theorem Sim.put {G : Ctx} {n : Nat} {S S' : Sto} {μ μ' : Mu} {st : St} {H' : cH} {a : Act} {w w' : World} (h : Sim G n S μ st a w) (hi : Inv G S' μ' H' w') (hE : Evolve S μ st.h S' μ' H') {d : Nat} (hd : d < n) {v : Value} {x : Option V}
  (hv : ∀ y, x = some y → aQ S' μ' H' y v) : Sim G n S' μ' ⟨upd st.e d x, H', st.d⟩ (a.put (some d) v) w' := by
 refine ⟨hi, by simp [Act.put, h.size], h.defers.evolve hE, fun t y e => ?_⟩;show aQ S' μ' H' y ((a.tmps.setIfInBounds d v).getD t undef);rw [aC2 _ _ _ _ (by rw [h.size]; exact hd)];by_cases ht : t = d
 ·subst ht;rw [if_pos rfl];exact hv y (by simpa [aC] using e)
 ·rw [if_neg ht];have e' : st.e t = some y := by simpa [aT _ _ _ ht] using e
  exact aQ.evolve hE y _ (h.env t y e')
theorem Sim.put_none {G : Ctx} {n : Nat} {S S' : Sto} {μ μ' : Mu} {st : St} {H' : cH} {a : Act} {w w' : World} (h : Sim G n S μ st a w) (hi : Inv G S' μ' H' w') (hE : Evolve S μ st.h S' μ' H') (v : Value) :
  Sim G n S' μ' ⟨st.e, H', st.d⟩ (a.put none v) w' :=
 ⟨hi, h.size, h.defers.evolve hE, fun t y e => aQ.evolve hE y _ (h.env t y e)⟩
structure Rd where
 e : List Nat
 h : List Nat
structure Eff where
 d : Option (Nat × Option V)
 h : List (Nat × Option AObj)
def look {α : Type} : List (Nat × α) → Nat → Option α
 | [], _ => none
 | (k, x) :: l, i => if Nat.beq i k then some x else look l i
def jD (f : cH) (l : List (Nat × Option AObj)) : cH := fun i => match look l i with | some o => o | none => f i
theorem vC (f : cH) : jD f [] = f := rfl
theorem cD (f : cH) (id : Nat) (x : Option AObj) : jD f [(id, x)] = upd f id x := by
 funext i;simp only [look, upd, jD];cases Nat.beq i id <;> rfl
def Eff.apply (f : Eff) (st : St) : St :=
 {
   e := match f.d with | some (t, v) => upd st.e t v | none => st.e
   h := jD st.h f.h
   d := st.d }
def Eff.we (f : Eff) : List Nat := (f.d.map (·.1)).toList
def Eff.wh (f : Eff) : List Nat := f.h.map (·.1)
def lD (rd : Rd) (st st' : St) : Prop := (∀ t ∈ rd.e, st'.e t = st.e t) ∧ (∀ i ∈ rd.h, st'.h i = st.h i)
theorem lD.refl (rd : Rd) (st : St) : lD rd st st := ⟨fun _ _ => rfl, fun _ _ => rfl⟩
def Wd (ro : Option Nat) : Fence := { fn := fun _ => True, depth := none, alive := false, round := ro }
theorem Wd.fenced (P : Program) (ro : Option Nat) (m : Machine) : m.fenced P (Wd ro) := fenced_wide P m
theorem Wd.room (ro : Option Nat) (k : Nat) : (Wd ro).room k := fun _ h => by simp [Wd] at h
theorem Wd.steps {ro : Option Nat} {P : Program} {m m' : Machine} : StepsIn (Machine.fenced P (Wd ro)) P m m' ↔ Steps P m m' :=
 ⟨StepsIn.steps, fun h => (StepsIn.of_steps h).mono fun m _ => Wd.fenced P ro m⟩
theorem Wd.comes {ro : Option Nat} {P : Program} {m m' : Machine} {e : Ending} : ComesIn (Machine.fenced P (Wd ro)) P m m' e ↔ Comes P m m' e := by
 cases e with
 | returned v => exact Wd.steps
 | panicked chain => exact Wd.steps
 | outgrown => exact Iff.rfl
theorem Wd.calls {ro : Option Nat} {n : Nat} {P : Program} {f : FuncId} {args : Array Value} {w : World} {R : Ending → World → Prop} : CallsIn (Wd ro) n P f args w R ↔ Calls P f args w R :=
  ⟨fun h cs => let ⟨e, w', fr, r, s, x⟩ := h.2 cs (Wd.room _ _); ⟨e, w', fr, r, Wd.comes.1 s, x⟩,
   fun h => ⟨trivial, fun cs _ => let ⟨e, w', fr, r, s, x⟩ := h cs; ⟨e, w', fr, r, Wd.comes.2 s, x⟩⟩⟩
theorem jE {P : Program} {o : Oper} {ro : Option Nat} {ρ : Operand → Value} {w w' : World} {r : Next} (h : (execOp ρ o).run P w = .ok r w') (hr : ∀ d, r ≠ .defer d) : (o.semAt ro ρ).run P w = .ok r w' := by
 rw [Oper.semAt_eq]
 ·exact h
 ·intro c hc;rw [execOp, hc] at h;simp only [Sem.run_bind] at h;cases hq : (resolve ρ c o.type).run P w with
  | ok d w1 =>
   rw [hq] at h;simp only [Result.andThen, Sem.run_pure] at h;cases h;exact hr _ rfl
  | halt x w1 => rw [hq] at h; simp [Result.andThen] at h
section
variable {P : Program} {o : Oper} {ro : Option Nat} {a : Act} {w w' : World} {K : Act → World → Prop} {Q : Exit → Act → World → Prop}
theorem eX {v : Value} (hr : (execOp a.eval o).run P w = .ok (.value v) w') (h : K (a.put o.dst v) w') : o.wpIn (Wd ro) 0 P a w K Q := by
 refine ⟨fun _ _ => trivial, ?_⟩;rw [jE hr (by simp), Oper.uponIn_value];exact h
theorem qF (hr : (execOp a.eval o).run P w = .ok .skip w') (h : K (a.put o.dst undef) w') : o.wpIn (Wd ro) 0 P a w K Q := by
 refine ⟨fun _ _ => trivial, ?_⟩;rw [jE hr (by simp), Oper.uponIn_skip];exact h
theorem oU {f : FuncId} {args : Array Value} (hr : (execOp a.eval o).run P w = .ok (.enter f args) w')
  (h : Calls P f args w' fun
   | .returned v, w'' => K (a.put o.dst v) w''
   | .panicked chain, w'' => Q (.panic chain) a w''
   | .outgrown, _ => LetsOut Q) : o.wpIn (Wd ro) 0 P a w K Q := by
 refine ⟨fun _ _ => trivial, ?_⟩;rw [jE hr (by simp), Oper.uponIn_enter];exact ⟨fun h => by simp [Wd] at h, Wd.calls.2 h⟩
end
def Step (P : Program) (n : Nat) (o : Oper) (st : St) (rd : Rd) (f : Eff) : Prop :=
 ∀ st', lD rd st st' → ∀ G S μ a w (K : Act → World → Prop) (Q : Exit → Act → World → Prop), Sim G n S μ st' a w →
  (∀ S' μ' a' w', Sim G n S' μ' (f.apply st') a' w' → K a' w') → ∀ ro, o.wpIn (Wd ro) 0 P a w K Q
def GStep (P : Program) (n : Nat) (ops : Array Oper) (i : Nat) (st : St) (rd : Rd) (f : Eff) : Prop :=
 ∀ st', lD rd st st' → ∀ G S μ a w (K : Act → World → Prop) (Q : Exit → Act → World → Prop), Sim G n S μ st' a w →
  (∀ S' μ' a' w', Sim G n S' μ' (f.apply st') a' w' → K a' w') → ∀ ro, wpOpIn (Wd ro) 0 P ops Q i K a w
theorem GStep.plain {P : Program} {n : Nat} {ops : Array Oper} {i : Nat} {o : Oper} {st : St} {rd : Rd} {f : Eff} (ho : ops[i]? = some o) (hg : o.guard = none) (h : Step P n o st rd f) : GStep P n ops i st rd f := by
 intro st' ha G S μ a w K Q hs hk ro;unfold wpOpIn;simp only [ho];rw [if_pos (by simp [Region.wanted, hg])];exact h st' ha G S μ a w K Q hs hk ro
theorem getElem?_of_getD {ts : Array Value} {t : Nat} {b : Bool} (h : ts.getD t undef = .bool b) : ts[t]? = some (.bool b) := by
 rw [Array.getD_eq_getD_getElem?] at h;cases hq : ts[t]? with
 | none => simp [hq, undef] at h
 | some v => simp [hq] at h; rw [h]
theorem GStep.yes {P : Program} {n : Nat} {ops : Array Oper} {i j t : Nat} {want b : Bool} {o : Oper} {st : St} {rd : Rd} {f : Eff} (ho : ops[i]? = some o) (hg : o.guard = some (j, want)) (hj : (ops[j]?).bind (·.dst) = some t)
  (hb : st.e t = some (.one (.c (.bool b)))) (hw : b = want) (h : Step P n o st rd f) : GStep P n ops i st ⟨t :: rd.e, rd.h⟩ f := by
 intro st' ha G S μ a w K Q hs hk ro;have hb' : st'.e t = some (.one (.c (.bool b))) := by rw [ha.1 t (by simp), hb]
 have hv := hs.env t _ hb';simp only [aQ, b5, Rep] at hv;have hv' := getElem?_of_getD hv;unfold wpOpIn;simp only [ho];rw [if_pos (by simp [Region.wanted, hg, yielded, hj, hv', hw])];exact h st' ⟨fun t ht => ha.1 t (by simp [ht]), ha.2⟩ G S μ a w K Q hs hk ro
theorem GStep.no {P : Program} {n : Nat} {ops : Array Oper} {i j t d : Nat} {want b : Bool} {o : Oper} {st : St} (ho : ops[i]? = some o) (hg : o.guard = some (j, want)) (hd : o.dst = some d) (hdn : d < n) (hj : (ops[j]?).bind (·.dst) = some t)
  {nw : Bool} (hb : st.e t = some (.one (.c (.bool b)))) (hw' : b = nw) (hn : nw = !want) : GStep P n ops i st ⟨[t], []⟩ ⟨some (d, some (.tup [])), []⟩ := by
 have hw : b = !want := hw'.trans hn;intro st' ha G S μ a w K Q hs hk ro;have hb' : st'.e t = some (.one (.c (.bool b))) := by rw [ha.1 t (by simp), hb]
 have hv := hs.env t _ hb';simp only [aQ, b5, Rep] at hv;have hv' := getElem?_of_getD hv;unfold wpOpIn;simp only [ho];rw [if_neg (by simp [Region.wanted, hg, yielded, hj, hv', hw])];rw [hd];refine ⟨fun _ _ => trivial, hk S μ _ _ ?_⟩;exact hs.put hs.inv (Evolve.refl _ _ _) hdn (fun y hy => by cases hy; simp only [aQ]; exact ⟨[], rfl, by simp [bO]⟩)
theorem GStep.un {P : Program} {n : Nat} {ops : Array Oper} {i j t d : Nat} {want : Bool} {o : Oper} {st : St} (ho : ops[i]? = some o) (hg : o.guard = some (j, want)) (hd : o.dst = some d) (hdn : d < n) (hj : (ops[j]?).bind (·.dst) = some t)
  (hb : st.e t = some (.tup [])) : GStep P n ops i st ⟨[t], []⟩ ⟨some (d, some (.tup [])), []⟩ := by
 intro st' ha G S μ a w K Q hs hk ro;have hb' : st'.e t = some (.tup []) := by rw [ha.1 t (by simp), hb]
 have hv := hs.env t _ hb';simp only [aQ] at hv;obtain ⟨vs, hv, hvs⟩ := hv;simp only [bO] at hvs;subst hvs;have hny : yielded ops a.tmps j = none := by
  unfold yielded;rw [hj];simp only [Option.bind_some];rw [Array.getD_eq_getD_getElem?] at hv;cases hq : a.tmps[t]? with
  | none => rfl
  | some v => rw [hq] at hv; simp at hv; subst hv; rfl
 unfold wpOpIn;simp only [ho];rw [if_neg (by simp [Region.wanted, hg, hny])];rw [hd];refine ⟨fun _ _ => trivial, hk S μ _ _ ?_⟩;exact hs.put hs.inv (Evolve.refl _ _ _) hdn (fun y hy => by cases hy; simp only [aQ]; exact ⟨[], rfl, by simp [bO]⟩)
abbrev REs := List (Rd × Eff)
def dE (L : Nat → Bool) : Nat → REs → St → St
 | _, [], st => st
 | k, x :: xs, st => dE L (k + 1) xs (bif L k then x.2.apply st else st)
inductive Run (P : Program) (n : Nat) (ops : Array Oper) : Nat → St → REs → St → Prop
 | nil {k st} : Run P n ops k st [] st
 | cons {k st rd f xs st'} : GStep P n ops k st rd f → Run P n ops (k + 1) (f.apply st) xs st' → Run P n ops k st ((rd, f) :: xs) st'
theorem Run.final {P : Program} {n : Nat} {ops : Array Oper} {k : Nat} {st st' : St} {xs : REs} (h : Run P n ops k st xs st') : ∀ L : Nat → Bool, (∀ j, k ≤ j → L j = true) → dE L k xs st = st' := by
 induction h with
 | nil => intro L _; rfl
 | cons _ _ ih =>
  intro L hL;simp only [dE, hL _ (le_refl _), cond_true];exact ih L fun j hj => hL j (by omega)
theorem Run.at {P : Program} {n : Nat} {ops : Array Oper} {k : Nat} {st st' : St} {xs : REs} (h : Run P n ops k st xs st') : ∀ (i : Nat) (x : Rd × Eff), xs[i]? = some x →
  GStep P n ops (k + i) (dE (fun j => decide (j < k + i)) k xs st) x.1 x.2 := by
 induction h with
 | nil => intro i x hx; simp at hx
 | @cons k st rd f xs st' hg hr ih =>
  intro i x hx;cases i with
  | zero =>
   simp at hx;subst hx;have hz : ∀ (ys : REs) (m : Nat) (s : St), k < m → dE (fun j => decide (j < k + 0)) m ys s = s := by
    intro ys
    induction ys with
    | nil => intro m s _; rfl
    | cons y ys ih =>
     intro m s hm;simp only [dE];have : decide (m < k + 0) = false := by simp; omega
     rw [this, cond_false];exact ih (m + 1) _ (by omega)
   simp only [dE];have : decide (k < k + 0) = false := by simp
   rw [this, cond_false];rw [hz xs (k + 1) st (by omega)];exact hg
  | succ i =>
   simp at hx;have := ih i x hx;simp only [dE];have hlt : decide (k < k + (i + 1)) = true := by simp
   rw [hlt, cond_true];rw [show k + (i + 1) = k + 1 + i by omega];exact this
theorem u0 (L : Nat → Bool) : ∀ (xs : REs) (k : Nat) (st : St), (dE L k xs st).d = st.d
 | [], _, _ => rfl
 | x :: xs, k, st => by
  rw [dE, u0 L xs];cases L k <;> rfl
theorem eD (f : Eff) (st : St) {t : Nat} (h : t ∉ f.we) : (f.apply st).e t = st.e t := by
 unfold Eff.apply Eff.we at *;cases hd : f.d with
 | none => rfl
 | some p =>
  obtain ⟨k, v⟩ := p;simp only [hd] at h ⊢;exact aT _ _ _ (by simpa using h)
theorem rM {α : Type} : ∀ {l : List (Nat × α)} {i : Nat}, i ∉ l.map (·.1) → look l i = none
 | [], _, _ => rfl
 | (k, x) :: l, i, h => by
  simp at h;have hb : Nat.beq i k = false := by
   cases hb : Nat.beq i k with
   | false => rfl
   | true => exact absurd (eq_of_beq_eq_true hb) h.1
  simp only [look, hb, Bool.false_eq_true, if_false];exact rM (by simpa using h.2)
theorem dU {α : Type} : ∀ {l : List (Nat × α)} {i : Nat}, i ∈ l.map (·.1) → ∃ x, look l i = some x
 | [], _, h => by simp at h
 | (k, x) :: l, i, h => by
  by_cases hb : Nat.beq i k = true
  ·exact ⟨x, by simp [look, hb]⟩
  ·have hne : i ≠ k := fun e => hb (by subst e; simp)
   simp at hb;simp only [look];obtain ⟨y, hy⟩ := dU (l := l) (i := i) (by simpa [hne] using h);exact ⟨y, by simp [hb, hy]⟩
theorem eC (f : Eff) (st : St) {i : Nat} (h : i ∉ f.wh) : (f.apply st).h i = st.h i := by
 unfold Eff.apply Eff.wh at *;simp only [jD, rM h]
theorem lB (f : Eff) (st st' : St) {t : Nat} (h : t ∈ f.we) : (f.apply st).e t = (f.apply st').e t := by
 unfold Eff.apply Eff.we at *;cases hd : f.d with
 | none => simp [hd] at h
 | some p =>
  obtain ⟨k, v⟩ := p;simp only [hd] at h ⊢;simp at h;subst h;simp [aC]
theorem lA (f : Eff) (st st' : St) {i : Nat} (h : i ∈ f.wh) : (f.apply st).h i = (f.apply st').h i := by
 unfold Eff.apply Eff.wh at *;obtain ⟨x, hx⟩ := dU h;simp only [jD, hx]
theorem oF (t : Nat) : ∀ (xs : REs) (k : Nat) (L L' : Nat → Bool) (st st' : St), st.e t = st'.e t → (∀ i x, xs[i]? = some x → L (k + i) ≠ L' (k + i) → t ∉ x.2.we) → (dE L k xs st).e t = (dE L' k xs st').e t := by
 intro xs
 induction xs with
 | nil => intro k L L' st st' h _; exact h
 | cons x xs ih =>
  intro k L L' st st' h hx;simp only [dE];refine ih (k + 1) L L' _ _ ?_ fun i y hy hne => hx (i + 1) y (by simpa using hy) (by rwa [show k + (i + 1) = k + 1 + i by omega])
  have h0 := hx 0 x rfl;simp only [add_zero] at h0;by_cases hL : L k = L' k
  ·rw [hL];cases L' k
   ·exact h
   ·by_cases hw : t ∈ x.2.we
    ·exact lB _ _ _ hw
    ·simp only [cond_true];rw [eD _ _ hw, eD _ _ hw, h]
  ·have hw := h0 hL;cases L k <;> cases L' k <;> simp only [cond_true, cond_false, eD _ _ hw, h]
theorem oE (t : Nat) : ∀ (xs : REs) (k : Nat) (L L' : Nat → Bool) (st st' : St), st.h t = st'.h t → (∀ i x, xs[i]? = some x → L (k + i) ≠ L' (k + i) → t ∉ x.2.wh) → (dE L k xs st).h t = (dE L' k xs st').h t := by
 intro xs
 induction xs with
 | nil => intro k L L' st st' h _; exact h
 | cons x xs ih =>
  intro k L L' st st' h hx;simp only [dE];refine ih (k + 1) L L' _ _ ?_ fun i y hy hne => hx (i + 1) y (by simpa using hy) (by rwa [show k + (i + 1) = k + 1 + i by omega])
  have h0 := hx 0 x rfl;simp only [add_zero] at h0;by_cases hL : L k = L' k
  ·rw [hL];cases L' k
   ·exact h
   ·by_cases hw : t ∈ x.2.wh
    ·exact lA _ _ _ hw
    ·simp only [cond_true];rw [eC _ _ hw, eC _ _ hw, h]
  ·have hw := h0 hL;cases L k <;> cases L' k <;> simp only [cond_true, cond_false, eC _ _ hw, h]
theorem zW (L : Nat → Bool) (m : Nat) (f : Eff) : ∀ (xs : REs) (k : Nat) (rd : Rd) (st : St), k ≤ m → xs[m - k]? = some (rd, f) → L m = false →
  (∀ i x, xs[i]? = some x → L (k + i) = true → m < k + i → (∀ t ∈ f.we, t ∉ x.2.we) ∧ (∀ t ∈ f.wh, t ∉ x.2.wh)) →
  dE (fun j => L j || Nat.beq j m) k xs st = f.apply (dE L k xs st) := by
 have tail : ∀ (xs : REs) (k : Nat) (st : St), m < k → (∀ i x, xs[i]? = some x → L (k + i) = true → (∀ t ∈ f.we, t ∉ x.2.we) ∧ (∀ t ∈ f.wh, t ∉ x.2.wh)) →
   dE (fun j => L j || Nat.beq j m) k xs (f.apply st) = f.apply (dE L k xs st) := by
  intro xs
  induction xs with
  | nil => intro k st _ _; rfl
  | cons x xs ih =>
   intro k st hk hx;simp only [dE];have hb : Nat.beq k m = false := by
    cases hb : Nat.beq k m with
    | false => rfl
    | true => have := eq_of_beq_eq_true hb; omega
   rw [hb, Bool.or_false];have h0 := hx 0 x rfl;simp only [add_zero] at h0;have hrest : ∀ i y, xs[i]? = some y → L (k + 1 + i) = true → (∀ t ∈ f.we, t ∉ y.2.we) ∧ (∀ t ∈ f.wh, t ∉ y.2.wh) := fun i y hy hl => hx (i + 1) y (by simpa using hy) (by rwa [show k + (i + 1) = k + 1 + i by omega])
   cases hL : L k with
   | false => simp only [cond_false]; exact ih (k + 1) st (by omega) hrest
   | true =>
    simp only [cond_true];obtain ⟨h1, h2⟩ := h0 hL;have hc : x.2.apply (f.apply st) = f.apply (x.2.apply st) := by
     have he : (x.2.apply (f.apply st)).e = (f.apply (x.2.apply st)).e := funext fun t => by
      by_cases ht : t ∈ f.we
      ·rw [eD _ _ (h1 t ht)]; exact lB _ _ _ ht
      ·rw [eD f _ ht];by_cases ht' : t ∈ x.2.we
       ·exact lB _ _ _ ht'
       ·rw [eD _ _ ht', eD _ _ ht', eD _ _ ht]
     have hh : (x.2.apply (f.apply st)).h = (f.apply (x.2.apply st)).h := funext fun t => by
      by_cases ht : t ∈ f.wh
      ·rw [eC _ _ (h2 t ht)]; exact lA _ _ _ ht
      ·rw [eC f _ ht];by_cases ht' : t ∈ x.2.wh
       ·exact lA _ _ _ ht'
       ·rw [eC _ _ ht', eC _ _ ht', eC _ _ ht]
     cases hA : x.2.apply (f.apply st);cases hB : f.apply (x.2.apply st);have hd : (x.2.apply (f.apply st)).d = (f.apply (x.2.apply st)).d := rfl;simp only [hA, hB] at he hh hd;rw [he, hh, hd]
    rw [hc];exact ih (k + 1) _ (by omega) hrest
 intro xs
 induction xs with
 | nil => intro k rd st _ hx; simp at hx
 | cons x xs ih =>
  intro k rd st hk hx hm hd;simp only [dE];by_cases hkm : k = m
  ·subst hkm;simp at hx;subst hx;have hb : Nat.beq k k = true := by simp
   rw [hb, hm, Bool.or_true];simp only [cond_true, cond_false];exact tail xs (k + 1) st (by omega) fun i y hy hl => hd (i + 1) y (by simpa using hy) (by rwa [show k + (i + 1) = k + 1 + i by omega]) (by omega)
  ·have hb : Nat.beq k m = false := by
    cases hb : Nat.beq k m with
    | false => rfl
    | true => exact absurd (eq_of_beq_eq_true hb) hkm
   rw [hb, Bool.or_false];have hx' : xs[m - (k + 1)]? = some (rd, f) := by
    rw [show m - k = (m - (k + 1)) + 1 by omega] at hx;simpa using hx
   exact ih (k + 1) rd _ (by omega) hx' hm fun i y hy hl hlt => hd (i + 1) y (by simpa using hy) (by rwa [show k + (i + 1) = k + 1 + i by omega]) (by omega)
def aHr : List Nat → List Nat → List Nat
 | [], acc => acc
 | x :: l, acc => if acc.any (Nat.beq x) then aHr l acc else aHr l (x :: acc)
def dd (l : List Nat) : List Nat := aHr l []
theorem pV : ∀ (l acc : List Nat) (x : Nat), x ∈ aHr l acc → x ∈ l ∨ x ∈ acc
 | [], _, _, h => .inr h
 | y :: l, acc, x, h => by
  simp only [aHr] at h;split at h
  ·rcases pV l acc x h with h | h
   ·exact .inl (by simp [h])
   ·exact .inr h
  ·rcases pV l (y :: acc) x h with h | h
   ·exact .inl (by simp [h])
   ·rcases mem_cons.1 h with rfl | h
    ·exact .inl (by simp)
    ·exact .inr h
theorem aHq {l : List Nat} {x : Nat} (h : x ∈ dd l) : x ∈ l := (pV l [] x h).resolve_right (by simp)
def tV : List Oper → List (List Nat) → List (List Nat)
 | [], acc => acc
 | o :: os, acc => tV os (acc ++ [dd (o.after.toList.flatMap fun e => if Region.binds .any e then e.on :: (acc.getD e.on []) else [])])
def nN (ops : Array Oper) : List (List Nat) := tV ops.toList []
def aHp (a b : List Nat) : Bool := a.all fun x => !(b.contains x)
def indep (x y : Rd × Eff) : Bool := aHp x.2.we (y.1.e ++ y.2.we) && aHp x.2.wh (y.1.h ++ y.2.wh) && aHp y.2.we x.1.e && aHp y.2.wh x.1.h
def mA (ps : List Nat) (y : Rd × Eff) : Nat → REs → Bool
 | _, [] => true
 | i, x :: xs => (ps.contains i || indep x y) && mA ps y (i + 1) xs
def eQ : List (List Nat) → REs → REs → Bool
 | p :: ps, y :: ys, done => mA p y 0 done && eQ ps ys (done ++ [y])
 | _, [], _ => true
 | [], _ :: _, _ => false
def hJ (ops : Array Oper) : Bool := ops.toList.zipIdx.all fun (o, i) => o.after.toList.all fun e => !Region.binds .any e || decide (e.on < i)
theorem gM {a b : List Nat} (h : aHp a b = true) : ∀ t ∈ a, t ∉ b := by
 intro t ht hb;have := all_eq_true.1 h t ht;simp at this;exact this hb
theorem qB {ps : List Nat} {y : Rd × Eff} : ∀ (xs : REs) (k : Nat), mA ps y k xs = true → ∀ i x, xs[i]? = some x → k + i ∈ ps ∨ indep x y = true := by
 intro xs
 induction xs with
 | nil => intro k _ i x hx; simp at hx
 | cons z xs ih =>
  intro k h i x hx;simp only [mA, Bool.and_eq_true, Bool.or_eq_true] at h;cases i with
  | zero => simp at hx; subst hx; simpa using h.1
  | succ i =>
   simp at hx;have := ih (k + 1) h.2 i x hx;rwa [show k + (i + 1) = k + 1 + i by omega]
theorem lM : ∀ (ps : List (List Nat)) (ys done : REs), eQ ps ys done = true → ∀ j y, ys[j]? = some y → ∃ p, ps[j]? = some p ∧ ∀ i x, i < done.length + j → (done ++ ys)[i]? = some x → i ∈ p ∨ indep x y = true := by
 intro ps
 induction ps with
 | nil =>
  intro ys done h j y hy;cases ys with
  | nil => simp at hy
  | cons _ _ => simp [eQ] at h
 | cons p ps ih =>
  intro ys done h j y hy;cases ys with
  | nil => simp at hy
  | cons z ys =>
   simp only [eQ, Bool.and_eq_true] at h;cases j with
   | zero =>
    simp at hy;subst hy;refine ⟨p, rfl, fun i x hi hx => ?_⟩;have hi' : i < done.length := by omega
    rw [List.getElem?_append_left hi'] at hx;simpa using qB done 0 h.1 i x hx
   | succ j =>
    simp at hy;obtain ⟨q, hq, hspec⟩ := ih ys (done ++ [z]) h.2 j y hy;refine ⟨q, by simpa using hq, fun i x hi hx => hspec i x (by simp; omega) (by simpa using hx)⟩
theorem qY (L : Nat → Bool) : ∀ (os : List Oper) (acc : List (List Nat)), (∀ i p, acc[i]? = some p → L i = true → ∀ j ∈ p, L j = true) →
  (∀ i o, os[i]? = some o → L (acc.length + i) = true → ∀ e ∈ o.after.toList, Region.binds .any e = true → L e.on = true) →
  ∀ i p, (tV os acc)[i]? = some p → L i = true → ∀ j ∈ p, L j = true := by
 intro os
 induction os with
 | nil => intro acc h _; exact h
 | cons o os ih =>
  intro acc h ho;refine ih _ ?_ ?_
  ·intro i p hp hl j hj;by_cases hi : i < acc.length
   ·rw [List.getElem?_append_left hi] at hp;exact h i p hp hl j hj
   ·rw [List.getElem?_append_right (by omega)] at hp;have hi0 : i - acc.length = 0 := by
     rcases Nat.eq_zero_or_pos (i - acc.length) with h0 | h0
     ·exact h0
     ·rw [List.getElem?_eq_none (by simp; omega)] at hp; cases hp
    have hie : i = acc.length := by omega
    rw [hi0] at hp;simp at hp;subst hp;have hj := aHq hj;simp only [List.mem_flatMap] at hj;obtain ⟨e, he, hje⟩ := hj;split at hje
    ·rename_i hb;have hon := ho 0 o rfl (by simpa [hie] using hl) e he hb;simp only [mem_cons] at hje;rcases hje with rfl | hje
     ·exact hon
     ·cases hq : acc[e.on]? with
      | none => simp [hq] at hje
      | some q =>
       simp [hq] at hje;exact h e.on q hq hon j hje
    ·simp at hje
  ·intro i o' ho' hl;exact ho (i + 1) o' (by simpa using ho') (by simpa [add_assoc, Nat.add_comm 1 i] using hl)
def aBu (ops : Array Oper) (listed : Array Bool) : Prop := ∀ (i : Nat) (o : Oper), ops[i]? = some o → listed.getD i false = true → ∀ e ∈ o.after.toList, Region.binds .any e = true → listed.getD e.on false = true
theorem iK {l : Array Bool} {i : Nat} (h : i < l.size) : l.getD i true = l.getD i false := by simp [Array.getD_eq_getD_getElem?, h]
theorem nZ {ops : Array Oper} {listed : Array Bool} (hl : listed.size = ops.size) {i : Nat} (h : i ∈ Region.ready .any ops listed) :
  i < ops.size ∧ listed.getD i false = false ∧ ∀ o, ops[i]? = some o → ∀ e ∈ o.after.toList, Region.binds .any e = true → listed.getD e.on false = true := by
 simp only [Region.ready, List.mem_filter, List.mem_range, Bool.and_eq_true, Bool.not_eq_true'] at h;obtain ⟨h1, h2, h3⟩ := h;refine ⟨h1, by rwa [← iK (by omega)], fun o ho e he hb => ?_⟩;simp only [ho, Option.map_some, Option.getD_some] at h3;have := (Array.all_eq_true_iff_forall_mem.1 h3) e (by simpa using he);simpa [hb] using this
theorem aE0 {P : Program} {n : Nat} {ops : Array Oper} {G : Ctx} {st st' : St} {xs : REs} {Q : Exit → Act → World → Prop} (hr : Run P n ops 0 st xs st') (hlen : xs.length = ops.size)
  (hap : eQ (nN ops) xs [] = true) (hed : hJ ops = true)
  (hQ : ∀ S' μ' a' w', Sim G n S' μ' st' a' w' → Q .normal a' w') :
  ∀ (fuel : Nat) (listed : Array Bool), listed.size = ops.size → ((List.range ops.size).filter fun i => !listed.getD i false).length = fuel → aBu ops listed →
   ∀ S μ a w, Sim G n S μ (dE (fun j => listed.getD j false) 0 xs st) a w → ∀ ro, wpAnyIn (Wd ro) 0 P .any ops Q fuel listed a w := by
 have hfin : ∀ (listed : Array Bool), listed.size = ops.size → Region.ready .any ops listed = [] → ∀ S μ a w, Sim G n S μ (dE (fun j => listed.getD j false) 0 xs st) a w → Q .normal a w := by
  intro listed hl hre S μ a w hs;have hall : ∀ i, i < ops.size → listed.getD i false = true := by
   intro i
   induction i using Nat.strongRecOn with
   | _ i ih =>
    intro hi;cases hc : listed.getD i false with
    | true => rfl
    | false =>
     exfalso;have : i ∈ Region.ready .any ops listed := by
      simp only [Region.ready, List.mem_filter, List.mem_range, Bool.and_eq_true, Bool.not_eq_true'];refine ⟨hi, by rw [iK (by omega)]; exact hc, ?_⟩;have ho : ops[i]? = some ops[i] := by simp [hi]
      simp only [ho, Option.map_some, Option.getD_some];refine Array.all_eq_true_iff_forall_mem.2 fun e he => ?_
      have hlt := (all_eq_true.1 hed) (ops[i], i) (by
       rw [List.mem_iff_getElem?]
       exact ⟨i, by simp [hi]⟩)
      have hlt' := (all_eq_true.1 hlt) e (by simpa using he);simp only [Bool.or_eq_true, Bool.not_eq_true', decide_eq_true_eq] at hlt' ⊢;rcases hlt' with hlt' | hlt'
      ·exact .inl hlt'
      ·exact .inr (ih e.on hlt' (by omega))
     rw [hre] at this;simp at this
  have he : dE (fun j => listed.getD j false) 0 xs st = st' := by
   rw [← hr.final (fun _ => true) (fun _ _ => rfl)];have key : ∀ i x, xs[i]? = some x → listed.getD (0 + i) false ≠ true → False := by
    intro i x hx hne;have hi : i < xs.length := (List.getElem?_eq_some_iff.1 hx).1
    exact hne (by rw [zero_add]; exact hall i (by omega))
   have e1 : (dE (fun j => listed.getD j false) 0 xs st).e = (dE (fun _ => true) 0 xs st).e := funext fun t => oF t xs 0 _ _ _ _ rfl fun i x hx hne => (key i x hx hne).elim
   have e2 : (dE (fun j => listed.getD j false) 0 xs st).h = (dE (fun _ => true) 0 xs st).h := funext fun t => oE t xs 0 _ _ _ _ rfl fun i x hx hne => (key i x hx hne).elim
   cases hA : dE (fun j => listed.getD j false) 0 xs st;cases hB : dE (fun _ => true) 0 xs st;simp only [hA, hB] at e1 e2;have e3 : (dE (fun j => listed.getD j false) 0 xs st).d = (dE (fun _ => true) 0 xs st).d := by rw [u0, u0]
   simp only [hA, hB] at e3;rw [e1, e2, e3]
  rw [he] at hs;exact hQ S μ a w hs
 intro fuel
 induction fuel with
 | zero =>
  intro listed hl hf _ S μ a w hs;have hre : Region.ready .any ops listed = [] := by
   rw [List.eq_nil_iff_forall_not_mem];intro i hi;obtain ⟨h1, h2, _⟩ := nZ hl hi;have : i ∈ (List.range ops.size).filter fun i => !listed.getD i false := by simp only [List.mem_filter, List.mem_range, Bool.not_eq_true']; exact ⟨h1, h2⟩
   rw [eq_nil_of_length_eq_zero hf] at this;simp at this
  exact fun _ => ⟨hre, hfin listed hl hre S μ a w hs⟩
 | succ fuel ih =>
  intro listed hl hf hcl S μ a w hs ro;refine ⟨fun hre => hfin listed hl hre S μ a w hs, fun i hi => ?_⟩;obtain ⟨h1, h2, h3⟩ := nZ hl hi;have hx : xs[i]? = some xs[i] := by simp [hlen, h1]
  have ho : ops[i]? = some ops[i] := by simp [h1]
  have hcl' : aBu ops (listed.setIfInBounds i true) := by
   intro j o hj hlj e he hb;simp only [Array.getD_eq_getD_getElem?, Array.getElem?_setIfInBounds] at hlj ⊢;have hmon : listed.getD e.on false = true → (if i = e.on then if i < listed.size then some true else none else listed[e.on]?).getD false = true := by
    intro hh;split
    ·simp [hl, h1]
    ·rwa [Array.getD_eq_getD_getElem?] at hh
   by_cases hij : i = j
   ·subst hij;exact hmon (h3 o hj e he hb)
   ·rw [if_neg hij] at hlj;exact hmon (hcl j o hj (by rwa [Array.getD_eq_getD_getElem?]) e he hb)
  have hpd : ∀ (L : Array Bool), aBu ops L → ∀ k p, (nN ops)[k]? = some p → L.getD k false = true → ∀ j ∈ p, L.getD j false = true := by
   intro L hL k p hp hk;refine qY (fun j => L.getD j false) ops.toList [] (by simp) ?_ k p hp hk;intro k' o ho' hl' e he hb;exact hL k' o (by simpa using ho') (by simpa using hl') e he hb
  have hself : (listed.setIfInBounds i true).getD i false = true := by simp [Array.getD_eq_getD_getElem?, hl, h1]
  have hold : ∀ j, j ≠ i → (listed.setIfInBounds i true).getD j false = listed.getD j false := by
   intro j hj;simp only [Array.getD_eq_getD_getElem?, Array.getElem?_setIfInBounds];rw [if_neg (fun e => hj e.symm)]
  have hdis1 : ∀ j y, xs[j]? = some y → j < i → listed.getD j false = false → indep y xs[i] = true := by
   intro j y hy hji hlj;obtain ⟨p, hp, hspec⟩ := lM _ _ _ hap i _ hx;rcases hspec j y (by simpa using hji) (by simpa using hy) with hm | hm
   ·have := hpd _ hcl' i p hp hself j hm;rw [hold j (by omega)] at this;rw [this] at hlj;cases hlj
   ·exact hm
  have hdis2 : ∀ j y, xs[j]? = some y → i < j → listed.getD j false = true → indep xs[i] y = true := by
   intro j y hy hij hlj;obtain ⟨p, hp, hspec⟩ := lM _ _ _ hap j _ hy;rcases hspec i xs[i] (by simpa using hij) (by simp) with hm | hm
   ·have := hpd _ hcl j p hp hlj i hm;rw [this] at h2;cases h2
   ·exact hm
  have hg := hr.at i _ hx;simp only [zero_add] at hg;have hag : lD xs[i].1 (dE (fun j => decide (j < i)) 0 xs st) (dE (fun j => listed.getD j false) 0 xs st) := by
   have key : ∀ k x, xs[k]? = some x → listed.getD (0 + k) false ≠ decide (0 + k < i) → (∀ t ∈ xs[i].1.e, t ∉ x.2.we) ∧ (∀ t ∈ xs[i].1.h, t ∉ x.2.wh) := by
    intro k x hk hne;rw [zero_add] at hne;by_cases hki : k < i
    ·have hlk : listed.getD k false = false := by
      cases hc : listed.getD k false with
      | false => rfl
      | true => simp [hc, hki] at hne
     have hd := hdis1 k x hk hki hlk;simp only [indep, Bool.and_eq_true] at hd;obtain ⟨⟨⟨d1, d2⟩, d3⟩, d4⟩ := hd;exact ⟨fun t ht hw => gM d1 t hw (by simp [ht]), fun t ht hw => gM d2 t hw (by simp [ht])⟩
    ·by_cases hke : k = i
     ·subst hke;rw [h2] at hne;simp at hne
     ·have hlk : listed.getD k false = true := by
       cases hc : listed.getD k false with
       | true => rfl
       | false => simp [hc, hki] at hne
      have hd := hdis2 k x hk (by omega) hlk;simp only [indep, Bool.and_eq_true] at hd;obtain ⟨⟨⟨d1, d2⟩, d3⟩, d4⟩ := hd;exact ⟨fun t ht hw => gM d3 t hw ht, fun t ht hw => gM d4 t hw ht⟩
   exact ⟨fun t ht => oF t xs 0 _ _ _ _ rfl fun k x hk hne => (key k x hk hne).1 t ht, fun t ht => oE t xs 0 _ _ _ _ rfl fun k x hk hne => (key k x hk hne).2 t ht⟩
  refine hg _ hag G S μ a w _ Q hs (fun S' μ' a' w' hs' => ?_) ro;refine ih (listed.setIfInBounds i true) (by simp [hl]) ?_ hcl' S' μ' a' w' ?_ ro
  ·-- one fewer is left
   have : ∀ (l : List Nat), l.Nodup → i ∈ l → ((l.filter fun j => !listed.getD j false).length = ((l.filter fun j => !(listed.setIfInBounds i true).getD j false).length) + 1) := by
    intro l
    induction l with
    | nil => intro _ h; simp at h
    | cons b l ihl =>
     intro hnd hmem;have hnd' := (nodup_cons.1 hnd)
     by_cases hb : b = i
     ·subst hb;have hno : ∀ j ∈ l, (!(listed.setIfInBounds b true).getD j false) = (!listed.getD j false) := fun j hj => by rw [hold j (fun e => hnd'.1 (e ▸ hj))]
      rw [filter_cons, filter_cons, h2, hself];simp only [Bool.not_false, if_true, Bool.not_true, Bool.false_eq_true, if_false, length_cons];rw [List.filter_congr hno]
     ·have hm' : i ∈ l := (mem_cons.1 hmem).resolve_left fun e => hb e.symm
      have := ihl hnd'.2 hm';rw [filter_cons, filter_cons, hold b hb];split
      ·simp only [length_cons]; omega
      ·exact this
   have := this (List.range ops.size) List.nodup_range (by simpa using h1);omega
  ·have hadd := zW (fun j => listed.getD j false) i xs[i].2 xs 0 xs[i].1 st (zero_le _) (by rw [sub_zero, hx]) h2 (by
    intro k x hk hlk hik;rw [zero_add] at hlk hik;have hd := hdis2 k x hk hik hlk;simp only [indep, Bool.and_eq_true] at hd;obtain ⟨⟨⟨d1, d2⟩, d3⟩, d4⟩ := hd
    exact ⟨fun t ht hw => gM d1 t ht (by simp [hw]), fun t ht hw => gM d2 t ht (by simp [hw])⟩)
   rw [← hadd] at hs';have hfe : (fun j => (listed.setIfInBounds i true).getD j false) = fun j => listed.getD j false || Nat.beq j i := funext fun j => by
    by_cases hj : j = i
    ·subst hj;rw [hself];simp
    ·rw [hold j hj];have hb : Nat.beq j i = false := by
      cases hb : Nat.beq j i with
      | false => rfl
      | true => exact absurd (eq_of_beq_eq_true hb) hj
     rw [hb, Bool.or_false]
   rw [hfe];exact hs'
def aAi : Value → Option V
 | .int k n => some (.one (.c (.int k n)))
 | .bool b => some (.one (.c (.bool b)))
 | .string s => some (.one (.c (.str s.data.toList)))
 | .slice none 0 0 => some (.one (.c .nl))
 | .pointer none => some (.one (.c .np))
 | .map none => some (.one (.c (.zv 0)))
 | .nilFunc => some (.one (.c (.zv 1)))
 | .nilIface => some (.one (.c (.zv 2)))
 | _ => none
def opv (st : St) : Operand → Option V
 | .tmp t => st.e t
 | .const v => aAi v
 | .func f => some (.one (.clo f []))
 | .global _ => none
def opr : Operand → List Nat
 | .tmp t => [t]
 | _ => []
theorem y5 {S : Sto} {μ : Mu} {H : cH} {v : Value} {x : V} (h : aAi v = some x) : aQ S μ H x v := by
 unfold aAi at h;split at h <;> first | (cases h; simp [aQ, b5, Rep, aGl]; done) | cases h
theorem aH {G : Ctx} {n : Nat} {S : Sto} {μ : Mu} {st st' : St} {a : Act} {w : World} {x : Operand} {v : V} (hs : Sim G n S μ st' a w) (h : opv st x = some v) (ha : ∀ t ∈ opr x, st'.e t = st.e t) : aQ S μ st'.h v (a.eval x) := by
 cases x with
 | tmp t => exact hs.env t v (by rw [ha t (by simp [opr])]; exact h)
 | const u => exact y5 h
 | func f => simp [opv] at h; subst h; simp [aQ, b5, aO, Act.eval]
 | global g => simp [opv] at h
section
variable {P : Program} {n : Nat} {o : Oper} {st : St} {d : Nat}
theorem Step.value {rd : Rd} {y : V} (hd : o.dst = some d) (hdn : d < n)
  (h : ∀ st', lD rd st st' → ∀ G S μ a w, Sim G n S μ st' a w → ∃ v, (execOp a.eval o).run P w = .ok (.value v) w ∧ aQ S μ st'.h y v) : Step P n o st rd ⟨some (d, some y), []⟩ := by
 intro st' ha G S μ a w K Q hs hk;obtain ⟨v, hr, hv⟩ := h st' ha G S μ a w hs;refine fun ro => eX hr ?_
 rw [hd];exact hk S μ _ _ (hs.put hs.inv (Evolve.refl _ _ _) hdn fun z hz => by cases hz; exact hv)
theorem aG5 {x : Operand} {y : V} (ho : o.op = .move x) (hd : o.dst = some d) (hdn : d < n) (hx : opv st x = some y) : Step P n o st ⟨opr x, []⟩ ⟨some (d, some y), []⟩ :=
 Step.value hd hdn fun _ ha _ _ _ a _ hs => ⟨a.eval x, by simp [execOp, ho], aH hs hx ha.1⟩
theorem aCl {x : Operand} {y : V} (ho : o.op = .assign x) (hd : o.dst = some d) (hdn : d < n) (hx : opv st x = some y) : Step P n o st ⟨opr x, []⟩ ⟨some (d, some y), []⟩ :=
 Step.value hd hdn fun _ ha _ _ _ a _ hs => ⟨a.eval x, by simp [execOp, ho], aH hs hx ha.1⟩
theorem dX {S : Sto} {μ : Mu} {H : cH} {k : IntKind} {m : Int} {v : Value} (h : aQ S μ H (.one (.c (.int k m))) v) : v = .int k m := by simpa [aQ, b5, Rep] using h
theorem gB {S : Sto} {μ : Mu} {H : cH} {b : Bool} {v : Value} (h : aQ S μ H (.one (.c (.bool b))) v) : v = .bool b := by simpa [aQ, b5, Rep] using h
theorem iD {S : Sto} {μ : Mu} {H : cH} {b : List UInt8} {v : Value} (h : aQ S μ H (.one (.c (.str b))) v) : v = .string ⟨⟨b⟩⟩ := by simpa [aQ, b5, Rep] using h
abbrev I (k : IntKind) (m : Int) : V := .one (.c (.int k m))
abbrev B (b : Bool) : V := .one (.c (.bool b))
abbrev T (s : List UInt8) : V := .one (.c (.str s))
theorem dH {x y : Operand} {st' : St} (ha : lD ⟨opr x ++ opr y, []⟩ st st') : (∀ t ∈ opr x, st'.e t = st.e t) ∧ (∀ t ∈ opr y, st'.e t = st.e t) :=
 ⟨fun t h => ha.1 t (by simp [h]), fun t h => ha.1 t (by simp [h])⟩
theorem dK {op : BinOp} {tx ty : TypeId} {x y : Operand} {k : IntKind} {a b : Int} {z : V} (ho : o.op = .binOp op tx x y ty) (hd : o.dst = some d) (hdn : d < n) (hx : opv st x = some (I k a)) (hy : opv st y = some (I k b))
  (hr : ∀ w : World, ∃ v, (binOp op tx (.int k a) (.int k b)).run P w = .ok v w ∧ ∀ S μ H, aQ S μ H z v) : Step P n o st ⟨opr x ++ opr y, []⟩ ⟨some (d, some z), []⟩ := by
 refine Step.value hd hdn fun _ ha _ _ _ ac w hs => ?_
 have h1 := dX (aH hs hx (dH ha).1);have h2 := dX (aH hs hy (dH ha).2);obtain ⟨v, h3, h4⟩ := hr w;refine ⟨v, ?_, h4 _ _ _⟩;simp only [execOp, ho, h1, h2, Sem.run_bind];have : (eqGuard op tx x y (.int k a) (.int k b)).run P w = .ok () w := by
  unfold eqGuard;split <;> rfl
 rw [this];simp only [Result.andThen_ok, h3, Sem.run_pure]
theorem aFd {tx ty : TypeId} {x y : Operand} {k : IntKind} {a b r : Int} (ho : o.op = .binOp .add tx x y ty) (hd : o.dst = some d) (hdn : d < n) (hx : opv st x = some (I k a)) (hy : opv st y = some (I k b)) (hr : k.wrap (a + b) = r) :
  Step P n o st ⟨opr x ++ opr y, []⟩ ⟨some (d, some (I k r)), []⟩ :=
 dK ho hd hdn hx hy fun w => ⟨.int k r, by simp [binOp, Op.intArith, hr], fun _ _ _ => by simp [aQ, b5, Rep]⟩
theorem aE1 {tx ty : TypeId} {x y : Operand} {k : IntKind} {a b r : Int} (ho : o.op = .binOp .sub tx x y ty) (hd : o.dst = some d) (hdn : d < n) (hx : opv st x = some (I k a)) (hy : opv st y = some (I k b)) (hr : k.wrap (a - b) = r) :
  Step P n o st ⟨opr x ++ opr y, []⟩ ⟨some (d, some (I k r)), []⟩ :=
 dK ho hd hdn hx hy fun w => ⟨.int k r, by simp [binOp, Op.intArith, hr], fun _ _ _ => by simp [aQ, b5, Rep]⟩
theorem aE4 {tx ty : TypeId} {x y : Operand} {k : IntKind} {a b r : Int} (ho : o.op = .binOp .mul tx x y ty) (hd : o.dst = some d) (hdn : d < n) (hx : opv st x = some (I k a)) (hy : opv st y = some (I k b)) (hr : k.wrap (a * b) = r) :
  Step P n o st ⟨opr x ++ opr y, []⟩ ⟨some (d, some (I k r)), []⟩ :=
 dK ho hd hdn hx hy fun w => ⟨.int k r, by simp [binOp, Op.intArith, hr], fun _ _ _ => by simp [aQ, b5, Rep]⟩
theorem aIj {tx ty : TypeId} {x y : Operand} {k : IntKind} {a b r : Int} (ho : o.op = .binOp .quo tx x y ty) (hd : o.dst = some d) (hdn : d < n) (hx : opv st x = some (I k a)) (hy : opv st y = some (I k b)) (hb : b ≠ 0) (hr : k.wrap (a.tdiv b) = r) :
  Step P n o st ⟨opr x ++ opr y, []⟩ ⟨some (d, some (I k r)), []⟩ :=
 dK ho hd hdn hx hy fun w => ⟨.int k r, by simp [binOp, Op.intDiv, hb, hr], fun _ _ _ => by simp [aQ, b5, Rep]⟩
theorem aIi {tx ty : TypeId} {x y : Operand} {k : IntKind} {a b r : Int} (ho : o.op = .binOp .rem tx x y ty) (hd : o.dst = some d) (hdn : d < n) (hx : opv st x = some (I k a)) (hy : opv st y = some (I k b)) (hb : b ≠ 0) (hr : a.tmod b = r) :
  Step P n o st ⟨opr x ++ opr y, []⟩ ⟨some (d, some (I k r)), []⟩ :=
 dK ho hd hdn hx hy fun w => ⟨.int k r, by simp [binOp, Op.intDiv, hb, hr], fun _ _ _ => by simp [aQ, b5, Rep]⟩
theorem aIp {tx ty : TypeId} {x y : Operand} {k : IntKind} {a b : Int} (ho : o.op = .binOp .lss tx x y ty) (hd : o.dst = some d) (hdn : d < n) (hx : opv st x = some (I k a)) (hy : opv st y = some (I k b)) :
  Step P n o st ⟨opr x ++ opr y, []⟩ ⟨some (d, some (B (decide (a < b)))), []⟩ :=
 dK ho hd hdn hx hy fun w => ⟨.bool (decide (a < b)), by simp [binOp, Op.intCmp], fun _ _ _ => by simp [aQ, b5, Rep]⟩
theorem aIq {tx ty : TypeId} {x y : Operand} {k : IntKind} {a b : Int} (ho : o.op = .binOp .leq tx x y ty) (hd : o.dst = some d) (hdn : d < n) (hx : opv st x = some (I k a)) (hy : opv st y = some (I k b)) :
  Step P n o st ⟨opr x ++ opr y, []⟩ ⟨some (d, some (B (decide (a ≤ b)))), []⟩ :=
 dK ho hd hdn hx hy fun w => ⟨.bool (decide (a ≤ b)), by simp [binOp, Op.intCmp], fun _ _ _ => by simp [aQ, b5, Rep]⟩
theorem aIr {tx ty : TypeId} {x y : Operand} {k : IntKind} {a b : Int} (ho : o.op = .binOp .gtr tx x y ty) (hd : o.dst = some d) (hdn : d < n) (hx : opv st x = some (I k a)) (hy : opv st y = some (I k b)) :
  Step P n o st ⟨opr x ++ opr y, []⟩ ⟨some (d, some (B (decide (b < a)))), []⟩ :=
 dK ho hd hdn hx hy fun w => ⟨.bool (decide (b < a)), by simp [binOp, Op.intCmp], fun _ _ _ => by simp [aQ, b5, Rep]⟩
theorem aIs {tx ty : TypeId} {x y : Operand} {k : IntKind} {a b : Int} (ho : o.op = .binOp .geq tx x y ty) (hd : o.dst = some d) (hdn : d < n) (hx : opv st x = some (I k a)) (hy : opv st y = some (I k b)) :
  Step P n o st ⟨opr x ++ opr y, []⟩ ⟨some (d, some (B (decide (b ≤ a)))), []⟩ :=
 dK ho hd hdn hx hy fun w => ⟨.bool (decide (b ≤ a)), by simp [binOp, Op.intCmp], fun _ _ _ => by simp [aQ, b5, Rep]⟩
theorem aIt {tx ty : TypeId} {x y : Operand} {k : IntKind} {a b : Int} (ho : o.op = .binOp .eql tx x y ty) (hd : o.dst = some d) (hdn : d < n) (hx : opv st x = some (I k a)) (hy : opv st y = some (I k b)) :
  Step P n o st ⟨opr x ++ opr y, []⟩ ⟨some (d, some (B (decide (a = b)))), []⟩ :=
 dK ho hd hdn hx hy fun w => ⟨.bool (decide (a = b)), by simp [binOp, Op.intCmp]; rfl, fun _ _ _ => by simp [aQ, b5, Rep]⟩
theorem aIl {tx ty : TypeId} {x y : Operand} {k : IntKind} {a b : Int} (ho : o.op = .binOp .neq tx x y ty) (hd : o.dst = some d) (hdn : d < n) (hx : opv st x = some (I k a)) (hy : opv st y = some (I k b)) :
  Step P n o st ⟨opr x ++ opr y, []⟩ ⟨some (d, some (B (!decide (a = b)))), []⟩ :=
 dK ho hd hdn hx hy fun w => ⟨.bool (!decide (a = b)), by simp [binOp, Op.intCmp]; rfl, fun _ _ _ => by simp [aQ, b5, Rep]⟩
theorem jO {op : BinOp} {tx ty : TypeId} {x y : Operand} {a b : List UInt8} {z : V} (ho : o.op = .binOp op tx x y ty) (hd : o.dst = some d) (hdn : d < n) (hx : opv st x = some (T a)) (hy : opv st y = some (T b))
  (hr : ∀ w : World, ∃ v, (Op.stringOp op ⟨⟨a⟩⟩ ⟨⟨b⟩⟩).run P w = .ok v w ∧ ∀ S μ H, aQ S μ H z v) (hop : ∀ w : World, (binOp op tx (.string ⟨⟨a⟩⟩) (.string ⟨⟨b⟩⟩)).run P w = (Op.stringOp op ⟨⟨a⟩⟩ ⟨⟨b⟩⟩).run P w) : Step P n o st ⟨opr x ++ opr y, []⟩ ⟨some (d, some z), []⟩ := by
 refine Step.value hd hdn fun _ ha _ _ _ ac w hs => ?_
 have h1 := iD (aH hs hx (dH ha).1);have h2 := iD (aH hs hy (dH ha).2);obtain ⟨v, h3, h4⟩ := hr w;refine ⟨v, ?_, h4 _ _ _⟩;simp only [execOp, ho, h1, h2, Sem.run_bind];have : (eqGuard op tx x y (.string ⟨⟨a⟩⟩) (.string ⟨⟨b⟩⟩)).run P w = .ok () w := by
  unfold eqGuard;split <;> rfl
 rw [this];simp only [Result.andThen_ok, hop, h3, Sem.run_pure]
theorem iF (a : List UInt8) : (ByteArray.mk ⟨a⟩).toList = a := by rw [ByteArray.toList_eq]
theorem aGw {tx ty : TypeId} {x y : Operand} {a b : List UInt8} (ho : o.op = .binOp .eql tx x y ty) (hd : o.dst = some d) (hdn : d < n) (hx : opv st x = some (T a)) (hy : opv st y = some (T b)) :
  Step P n o st ⟨opr x ++ opr y, []⟩ ⟨some (d, some (B (decide (a = b)))), []⟩ :=
 jO ho hd hdn hx hy (fun w => ⟨.bool (decide (a = b)), by simp only [Op.stringOp, iF, Sem.run_pure]; congr 2; exact (Bool.beq_eq_decide_eq a b), fun _ _ _ => by simp [aQ, b5, Rep]⟩) fun _ => rfl
theorem aGu {tx ty : TypeId} {x y : Operand} {a b : List UInt8} (ho : o.op = .binOp .neq tx x y ty) (hd : o.dst = some d) (hdn : d < n) (hx : opv st x = some (T a)) (hy : opv st y = some (T b)) :
  Step P n o st ⟨opr x ++ opr y, []⟩ ⟨some (d, some (B (!decide (a = b)))), []⟩ :=
 jO ho hd hdn hx hy (fun w => ⟨.bool (!decide (a = b)), by simp only [Op.stringOp, iF, Sem.run_pure]; rw [Bool.beq_eq_decide_eq a b], fun _ _ _ => by simp [aQ, b5, Rep]⟩) fun _ => rfl
theorem aGy {tx ty : TypeId} {x y : Operand} {a b : List UInt8} (ho : o.op = .binOp .add tx x y ty) (hd : o.dst = some d) (hdn : d < n) (hx : opv st x = some (T a)) (hy : opv st y = some (T b)) (hl : a.length + b.length ≤ maxLen) :
  Step P n o st ⟨opr x ++ opr y, []⟩ ⟨some (d, some (T (a ++ b))), []⟩ :=
 jO ho hd hdn hx hy (fun w => ⟨.string ⟨⟨a ++ b⟩⟩, by
  have h1 : (ByteArray.mk ⟨a⟩).size = a.length := rfl;have h2 : (ByteArray.mk ⟨b⟩).size = b.length := rfl;have h3 : ¬ (((ByteArray.mk ⟨a⟩).size + (ByteArray.mk ⟨b⟩).size : Nat) : Int) > IntKind.i64.max := by
   rw [h1, h2];simp only [IntKind.max, IntKind.signed];unfold maxLen at hl;simp [IntKind.bits];omega
  have h4 : (ByteArray.mk ⟨a⟩) ++ (ByteArray.mk ⟨b⟩) = (⟨⟨a ++ b⟩⟩ : ByteArray) := by
   apply ByteArray.ext;simp
  simp only [Op.stringOp];rw [if_neg h3, h4]
  rfl, fun _ _ _ => by simp [aQ, b5, Rep]⟩) fun _ => rfl
theorem aGv {tx ty : TypeId} {x y : Operand} {a b : List UInt8} (ho : o.op = .binOp .lss tx x y ty) (hd : o.dst = some d) (hdn : d < n) (hx : opv st x = some (T a)) (hy : opv st y = some (T b)) :
  Step P n o st ⟨opr x ++ opr y, []⟩ ⟨some (d, some (B (Op.bytesLess a b))), []⟩ :=
 jO ho hd hdn hx hy (fun w => ⟨.bool (Op.bytesLess a b), by simp only [Op.stringOp, iF, Sem.run_pure], fun _ _ _ => by simp [aQ, b5, Rep]⟩) fun _ => rfl
theorem aIk {t : TypeId} {x : Operand} {b : Bool} (ho : o.op = .unOp .not t x) (hd : o.dst = some d) (hdn : d < n) (hx : opv st x = some (B b)) : Step P n o st ⟨opr x, []⟩ ⟨some (d, some (B (!b))), []⟩ := by
 refine Step.value hd hdn fun _ ha _ _ _ ac w hs => ?_
 have h1 := gB (aH hs hx ha.1);exact ⟨.bool (!b), by simp [execOp, ho, h1, Op.unary], by simp [aQ, b5, Rep]⟩
theorem aIm {t : TypeId} {x : Operand} {k : IntKind} {a r : Int} (ho : o.op = .unOp .neg t x) (hd : o.dst = some d) (hdn : d < n) (hx : opv st x = some (I k a)) (hr : k.wrap (0 - a) = r) : Step P n o st ⟨opr x, []⟩ ⟨some (d, some (I k r)), []⟩ := by
 refine Step.value hd hdn fun _ ha _ _ _ ac w hs => ?_
 have h1 := dX (aH hs hx ha.1);refine ⟨.int k r, ?_, by simp [aQ, b5, Rep]⟩;simp only [Int.zero_sub] at hr;simp [execOp, ho, h1, Op.unary, Op.intArith, hr]
theorem aCe {c x y : Operand} {b : Bool} {z : V} (ho : o.op = .pick c x y) (hd : o.dst = some d) (hdn : d < n) (hc : opv st c = some (B b)) (hb : b = true) (hx : opv st x = some z) : Step P n o st ⟨opr c ++ opr x, []⟩ ⟨some (d, some z), []⟩ := by
 refine Step.value hd hdn fun _ ha _ _ _ ac w hs => ?_
 have h1 := gB (aH hs hc (dH ha).1);subst hb;exact ⟨ac.eval x, by simp [execOp, ho, h1, asBool], aH hs hx (dH ha).2⟩
theorem aCf {c x y : Operand} {b : Bool} {z : V} (ho : o.op = .pick c x y) (hd : o.dst = some d) (hdn : d < n) (hc : opv st c = some (B b)) (hb : b = false) (hy : opv st y = some z) : Step P n o st ⟨opr c ++ opr y, []⟩ ⟨some (d, some z), []⟩ := by
 refine Step.value hd hdn fun _ ha _ _ _ ac w hs => ?_
 have h1 := gB (aH hs hc (dH ha).1);subst hb;exact ⟨ac.eval y, by simp [execOp, ho, h1, asBool], aH hs hy (dH ha).2⟩
theorem zE {x : Operand} {i : Nat} {l : List V} {z : V} (ho : o.op = .extract x i) (hd : o.dst = some d) (hdn : d < n) (hx : opv st x = some (.tup l)) (hi : l[i]? = some z) : Step P n o st ⟨opr x, []⟩ ⟨some (d, some z), []⟩ := by
 refine Step.value hd hdn fun st' ha _ S μ ac w hs => ?_
 have h1 := aH hs hx ha.1;simp only [aQ] at h1;obtain ⟨vs, h1, h2⟩ := h1;have : ∀ (l : List V) (vs : List Value) (i : Nat), bO S μ st'.h l vs → l[i]? = some z → ∃ v, vs[i]? = some v ∧ aQ S μ st'.h z v := by
  intro l
  induction l with
  | nil => intro vs i _ h; simp at h
  | cons r rs ih =>
   intro vs i h hi;simp only [bO] at h;obtain ⟨v, vs', rfl, h1, h2⟩ := h;cases i with
   | zero => simp at hi; subst hi; exact ⟨v, rfl, h1⟩
   | succ i => simp at hi; simpa using ih vs' i h2 hi
 obtain ⟨v, h3, h4⟩ := this l vs i h2 hi;refine ⟨v, ?_, h4⟩;simp [execOp, ho, h1, Instr.extract, h3]
end
inductive TK where
 | bool | int (k : IntKind) | str | pt (e : TypeId) | sl (e : TypeId) | mp (k e : TypeId) | fn
 | st (fs : List (Nat × TypeId)) | ar (m : Nat) (e : TypeId)
 deriving DecidableEq, Inhabited
structure TI where
 k : TK
 size : Nat
 bytes : Nat
 zero : List C
 deriving Inhabited
abbrev TT := List (Option TI)
def aAl : C → Value → Bool
 | .int k n, .int k' n' => k == k' && n == n'
 | .bool b, .bool b' => b == b'
 | .str s, .string t => s == t.data.toList
 | .nl, .slice none 0 0 => true
 | .np, .pointer none => true
 | .zv 0, .map none => true
 | .zv 1, .nilFunc => true
 | .zv 2, .nilIface => true
 | _, _ => false
def nB : List C → List Value → Bool
 | [], [] => true
 | c :: cs, v :: vs => aAl c v && nB cs vs
 | _, _ => false
def TK.fits : TK → TypeDesc → Bool
 | .bool, .bool => true
 | .int k, .int k' => k == k'
 | .str, .string => true
 | .pt e, .pointer e' => e == e'
 | .sl e, .slice e' => e == e'
 | .mp k e, .map k' e' => k == k' && e == e'
 | .fn, .func _ _ _ => true
 | .st fs, .struct fields => fs == fields.toList.map fun f => (f.offset, f.type)
 | .ar m e, .array m' e' => m == m' && e == e'
 | _, _ => false
def TK.agg : TK → Bool
 | .st _ => true
 | .ar _ _ => true
 | _ => false
def TI.check (P : Program) (t : TypeId) (i : TI) : Bool :=
 match P.info? t, P.underlying t with
 | some inf, some d => (inf.size == i.size && (i.zero.length == i.size && (i.k.agg || i.size == 1))) && inf.bytes == i.bytes && i.k.fits d &&
   (match inf.zero with | some z => nB i.zero z.cells.toList && (match i.k.agg, z with | true, .agg _ => true | true, _ => false | false, .agg _ => false | false, _ => true) | none => false)
 | _, _ => false
def TT.check (P : Program) (T : TT) : Bool := T.zipIdx.all fun (i, t) => match i with | some i => i.check P t | none => true
theorem y6 {S : Sto} {c : C} {v : Value} (h : aAl c v = true) : Rep S c v := by
 unfold aAl at h;split at h <;> simp_all [Rep, aGl]
theorem fE {S : Sto} : ∀ {c : List C} {v : List Value}, nB c v = true → bR S c v
 | [], [], _ => by simp [bR]
 | c :: cs, v :: vs, h => by
  simp only [nB, Bool.and_eq_true] at h;simp only [bR];exact ⟨v, vs, rfl, y6 h.1, fE h.2⟩
 | [], _ :: _, h => by simp [nB] at h
 | _ :: _, [], h => by simp [nB] at h
def Tok (P : Program) (T : TT) : Prop := TT.check P T = true
structure TIok (P : Program) (t : TypeId) (i : TI) : Prop where
 ex : ∃ inf d z, P.info? t = some inf ∧ P.underlying t = some d ∧ inf.size = i.size ∧ inf.bytes = i.bytes ∧ i.k.fits d = true ∧ inf.zero = some z ∧ nB i.zero z.cells.toList = true ∧ (z = if i.k.agg then .agg z.cells else z) ∧ (i.k.agg = false → ∃ u, z.cells = #[u] ∧ z = u)
 len : i.zero.length = i.size
 one : i.k.agg = false → i.size = 1
theorem Tok.get {P : Program} {T : TT} (h : Tok P T) {t : TypeId} {i : TI} (hi : T[t]? = some (some i)) : TIok P t i := by
 unfold Tok TT.check at h
 have := (all_eq_true.1 h) (some i, t) (by
  rw [List.mem_iff_getElem?]
  exact ⟨t, by simp [List.getElem?_zipIdx, hi]⟩)
 simp only [TI.check] at this;split at this
 ·rename_i inf d h1 h2;simp only [Bool.and_eq_true, beq_iff_eq] at this;obtain ⟨⟨⟨⟨h3, hl, ho⟩, h4⟩, h5⟩, h6⟩ := this;split at h6
  ·rename_i z hz;simp only [Bool.and_eq_true] at h6;obtain ⟨h6, h7⟩ := h6;refine ⟨⟨inf, d, z, h1, h2, h3, h4, h5, hz, h6, ?_, ?_⟩, hl, fun hk => by simpa [hk] using ho⟩
   ·cases hk : i.k.agg with
    | false => simp
    | true =>
     cases z <;> simp_all [Value.cells]
   ·intro hk;cases z <;> simp_all [Value.cells]
  ·cases h6
 ·cases this
theorem TIok.size_run {P : Program} {t : TypeId} {i : TI} (h : TIok P t i) (w : World) : (sizeOf t).run P w = .ok i.size w := by
 obtain ⟨inf, d, z, h1, h2, h3, h4, h5, h6, h7, h8⟩ := h.ex;simp [sizeOf, typeInfo, h1, h3]
theorem TIok.zero_run {P : Program} {t : TypeId} {i : TI} (h : TIok P t i) : ∃ z, (∀ w : World, (zeroValue t).run P w = .ok z w) ∧ (∀ S, bR S i.zero z.cells.toList) ∧ (z = if i.k.agg then .agg z.cells else z) ∧ (i.k.agg = false → ∃ u, z.cells = #[u] ∧ z = u) := by
 obtain ⟨inf, d, z, h1, h2, h3, h4, h5, h6, h7, h8⟩ := h.ex;exact ⟨z, fun w => by simp [zeroValue, typeInfo, h1, h6], fun S => fE h7, h8⟩
theorem TIok.agg_run {P : Program} {t : TypeId} {i : TI} (h : TIok P t i) (w : World) : (isAgg t).run P w = .ok i.k.agg w := by
 obtain ⟨inf, d, z, h1, h2, h3, h4, h5, h6, h7, h8⟩ := h.ex;unfold isAgg;rw [Sem.run_bind, run_underlying h2 w];simp only [Result.andThen_ok];cases hk : i.k <;> rw [hk] at h5 <;> cases d <;> simp [TK.fits] at h5 <;> rfl
theorem TIok.slice {P : Program} {t e : TypeId} {i : TI} (h : TIok P t i) (hk : i.k = .sl e) : P.underlying t = some (.slice e) := by
 obtain ⟨inf, d, z, h1, h2, h3, h4, h5, h6, h7, h8⟩ := h.ex;rw [hk] at h5;cases d <;> simp [TK.fits] at h5;rw [h2, h5]
theorem TIok.array {P : Program} {t e : TypeId} {m : Nat} {i : TI} (h : TIok P t i) (hk : i.k = .ar m e) : P.underlying t = some (.array m e) := by
 obtain ⟨inf, d, z, h1, h2, h3, h4, h5, h6, h7, h8⟩ := h.ex;rw [hk] at h5;cases d <;> simp [TK.fits] at h5;rw [h2, h5.1, h5.2]
theorem TIok.str {P : Program} {t : TypeId} {i : TI} (h : TIok P t i) (hk : i.k = .str) : P.underlying t = some .string := by
 obtain ⟨inf, d, z, h1, h2, h3, h4, h5, h6, h7, h8⟩ := h.ex;rw [hk] at h5;cases d <;> simp [TK.fits] at h5;rw [h2]
theorem TIok.int {P : Program} {t : TypeId} {k : IntKind} {i : TI} (h : TIok P t i) (hk : i.k = .int k) : P.underlying t = some (.int k) := by
 obtain ⟨inf, d, z, h1, h2, h3, h4, h5, h6, h7, h8⟩ := h.ex;rw [hk] at h5;cases d <;> simp [TK.fits] at h5;rw [h2, h5]
theorem TIok.bool {P : Program} {t : TypeId} {i : TI} (h : TIok P t i) (hk : i.k = .bool) : P.underlying t = some .bool := by
 obtain ⟨inf, d, z, h1, h2, h3, h4, h5, h6, h7, h8⟩ := h.ex;rw [hk] at h5;cases d <;> simp [TK.fits] at h5;rw [h2]
theorem TIok.ptr {P : Program} {t e : TypeId} {i : TI} (h : TIok P t i) (hk : i.k = .pt e) : P.underlying t = some (.pointer e) := by
 obtain ⟨inf, d, z, h1, h2, h3, h4, h5, h6, h7, h8⟩ := h.ex;rw [hk] at h5;cases d <;> simp [TK.fits] at h5;rw [h2, h5]
theorem TIok.map {P : Program} {t k e : TypeId} {i : TI} (h : TIok P t i) (hk : i.k = .mp k e) : P.underlying t = some (.map k e) := by
 obtain ⟨inf, d, z, h1, h2, h3, h4, h5, h6, h7, h8⟩ := h.ex;rw [hk] at h5;cases d <;> simp [TK.fits] at h5;rw [h2, h5.1, h5.2]
theorem TIok.struct {P : Program} {t : TypeId} {fs : List (Nat × TypeId)} {i : TI} (h : TIok P t i) (hk : i.k = .st fs) : ∃ fields, P.underlying t = some (.struct fields) ∧ fs = fields.toList.map fun f => (f.offset, f.type) := by
 obtain ⟨inf, d, z, h1, h2, h3, h4, h5, h6, h7, h8⟩ := h.ex;rw [hk] at h5;cases d <;> simp [TK.fits] at h5;exact ⟨_, h2, h5⟩
theorem TIok.info {P : Program} {t : TypeId} {i : TI} (h : TIok P t i) : (P.info? t).map (·.size) = some i.size := by
 obtain ⟨inf, d, z, h1, h2, h3, h4, h5, h6, h7, h8⟩ := h.ex;simp [h1, h3]
theorem aO.length {S : Sto} {μ : Mu} {H : cH} : ∀ {c : List R} {v : List Value}, aO S μ H c v → v.length = c.length
 | [], _, k => by simp only [aO] at k; subst k; rfl
 | _ :: cs, _, k => by
  simp only [aO] at k;obtain ⟨v, vs', rfl, _, h⟩ := k;simp [aO.length h]
theorem aO.get {S : Sto} {μ : Mu} {H : cH} : ∀ {c : List R} {v : List Value}, aO S μ H c v → ∀ (i : Nat) (x : R), c[i]? = some x → ∃ u, v[i]? = some u ∧ b5 S μ H x u
 | [], _, _, i, x, h => by simp at h
 | c :: cs, _, k, i, x, h => by
  simp only [aO] at k;obtain ⟨v, vs', rfl, h1, h2⟩ := k;cases i with
  | zero => simp at h; subst h; exact ⟨v, rfl, h1⟩
  | succ i => simp at h; simpa using h2.get i x h
theorem aO.append {S : Sto} {μ : Mu} {H : cH} : ∀ {a : List R} {x : List Value} {b : List R} {y : List Value}, aO S μ H a x → aO S μ H b y → aO S μ H (a ++ b) (x ++ y)
 | [], _, _, _, h, k => by simp only [aO] at h; subst h; simpa using k
 | _ :: _, _, _, _, h, k => by
  simp only [aO, cons_append] at h ⊢;obtain ⟨v, vs', rfl, h1, h2⟩ := h;exact ⟨v, vs' ++ _, rfl, h1, h2.append k⟩
theorem aO.take {S : Sto} {μ : Mu} {H : cH} : ∀ {a : List R} {x : List Value} (n : Nat), aO S μ H a x → aO S μ H (a.take n) (x.take n)
 | _, _, 0, _ => by simp [aO]
 | [], _, n + 1, h => by simp only [aO] at h; subst h; simp [aO]
 | _ :: _, _, n + 1, h => by
  simp only [aO, take_succ_cons] at h ⊢;obtain ⟨v, vs', rfl, h1, h2⟩ := h;exact ⟨v, vs'.take n, by simp, h1, h2.take n⟩
theorem aO.drop {S : Sto} {μ : Mu} {H : cH} : ∀ {a : List R} {x : List Value} (n : Nat), aO S μ H a x → aO S μ H (a.drop n) (x.drop n)
 | _, _, 0, h => by simpa using h
 | [], _, n + 1, h => by simp only [aO] at h; subst h; simp [aO]
 | _ :: _, _, n + 1, h => by
  simp only [aO, drop_succ_cons] at h ⊢;obtain ⟨v, vs', rfl, h1, h2⟩ := h;simpa using h2.drop n
theorem bR.toR {S : Sto} {μ : Mu} {H : cH} : ∀ {c : List C} {v : List Value}, bR S c v → aO S μ H (c.map R.c) v
 | [], _, k => by simp only [bR] at k; subst k; simp [aO]
 | c :: cs, _, k => by
  simp only [bR] at k;obtain ⟨v, vs', rfl, h1, h2⟩ := k;simp only [map_cons, aO];exact ⟨v, vs', rfl, by simpa [b5] using h1, h2.toR⟩
def fV : List R → Option (List C)
 | [] => some []
 | .c x :: l => match fV l with | some l' => some (x :: l') | none => none
 | _ :: _ => none
theorem jP : ∀ {rs : List R} {l : List C}, fV rs = some l → rs = l.map R.c
 | [], l, h => by simp [fV] at h; subst h; rfl
 | .c x :: rs, l, h => by
  simp only [fV] at h;split at h
  ·rename_i l' hl;cases h;simp [jP hl]
  ·cases h
 | .hs .. :: _, _, h => by simp [fV] at h
 | .tl .. :: _, _, h => by simp [fV] at h
 | .vp .. :: _, _, h => by simp [fV] at h
 | .ep .. :: _, _, h => by simp [fV] at h
 | .mr .. :: _, _, h => by simp [fV] at h
 | .clo .. :: _, _, h => by simp [fV] at h
 | .mth .. :: _, _, h => by simp [fV] at h
 | .yl .. :: _, _, h => by simp [fV] at h
 | .ra .. :: _, _, h => by simp [fV] at h
 | .rp .. :: _, _, h => by simp [fV] at h
 | .ras .. :: _, _, h => by simp [fV] at h
 | .pas .. :: _, _, h => by simp [fV] at h
theorem aO.pure {S : Sto} {μ : Mu} {H : cH} : ∀ {l : List C} {v : List Value}, aO S μ H (l.map R.c) v → bR S l v
 | [], _, k => by simp only [map_nil, aO] at k; subst k; simp [bR]
 | c :: cs, _, k => by
  simp only [map_cons, aO] at k;obtain ⟨v, vs', rfl, h1, h2⟩ := k;simp only [bR];exact ⟨v, vs', rfl, by simpa [b5] using h1, h2.pure⟩
def aGj (rs : List R) : V := match fV rs with | some l => .pa l | none => .ma rs
theorem wY {S : Sto} {μ : Mu} {H : cH} {rs : List R} {vs : List Value} (h : aO S μ H rs vs) : aQ S μ H (aGj rs) (.agg ⟨vs⟩) := by
 unfold aGj;split
 ·rename_i l hl;rw [jP hl] at h;simp only [aQ];exact ⟨vs, rfl, h.pure⟩
 ·simp only [aQ];exact ⟨vs, rfl, h⟩
def eW : V → Option (List R)
 | .one r => some [r]
 | .pa l => some (l.map R.c)
 | .ma l => some l
 | .tup _ => none
theorem Rep.one {S : Sto} : ∀ {c : C} {v : Value}, Rep S c v → v.cells = #[v] ∧ v.oneCell' = true := by
 intro c v h;cases c <;> simp only [Rep] at h
 case zv k => subst h; unfold aGl; split <;> exact ⟨rfl, rfl⟩
 case sl => obtain ⟨a, len, cap, rfl, _⟩ := h; exact ⟨rfl, rfl⟩
 case sg => obtain ⟨a, len, cap, rfl, _⟩ := h; exact ⟨rfl, rfl⟩
 case sn => obtain ⟨b, o, sp, len, cap, rfl, _⟩ := h; exact ⟨rfl, rfl⟩
 case pt => obtain ⟨b, o, rfl, _⟩ := h; exact ⟨rfl, rfl⟩
 case mp => obtain ⟨b, es, clk, rfl, _⟩ := h; exact ⟨rfl, rfl⟩
 case clo => obtain ⟨vs, rfl, _⟩ := h; exact ⟨rfl, rfl⟩
 case any => exact h
 all_goals (subst h; exact ⟨rfl, rfl⟩)
theorem b5.one {S : Sto} {μ : Mu} {H : cH} : ∀ {r : R} {v : Value}, b5 S μ H r v → v.cells = #[v] ∧ v.oneCell' = true := by
 intro r v h;cases r <;> simp only [b5] at h
 case c x => exact h.one
 case hs => obtain ⟨⟨a, l, c, rfl⟩, _⟩ := h; exact ⟨rfl, rfl⟩
 case tl => obtain ⟨⟨a, l, c, rfl⟩, _⟩ := h; exact ⟨rfl, rfl⟩
 case vp => obtain ⟨t, cells, b, c, _, _, rfl⟩ := h; exact ⟨rfl, rfl⟩
 case ep => obtain ⟨⟨a, rfl⟩, _⟩ := h; exact ⟨rfl, rfl⟩
 case mr => obtain ⟨agg, ents, b, c, _, _, rfl⟩ := h; exact ⟨rfl, rfl⟩
 case clo => obtain ⟨vs, rfl, _⟩ := h; exact ⟨rfl, rfl⟩
 case mth => obtain ⟨u, rfl, _⟩ := h; exact ⟨rfl, rfl⟩
 case yl => obtain ⟨st, j, i, e, b, c, _, _, rfl⟩ := h; exact ⟨rfl, rfl⟩
 case ra => obtain ⟨⟨a, l, c, rfl⟩, _⟩ := h; exact ⟨rfl, rfl⟩
 case rp => obtain ⟨⟨a, rfl⟩, _⟩ := h; exact ⟨rfl, rfl⟩
 case ras => obtain ⟨a, cap, rfl, _⟩ := h; exact ⟨rfl, rfl⟩
 case pas => obtain ⟨b, o, rfl, _⟩ := h; exact ⟨rfl, rfl⟩
theorem aO.one {S : Sto} {μ : Mu} {H : cH} : ∀ {rs : List R} {vs : List Value}, aO S μ H rs vs → ∀ v ∈ vs, v.oneCell' = true
 | [], _, h => by simp only [aO] at h; subst h; simp
 | _ :: _, _, h => by
  simp only [aO] at h;obtain ⟨v, vs', rfl, h1, h2⟩ := h;intro u hu;rcases mem_cons.1 hu with rfl | hu
  ·exact h1.one.2
  ·exact h2.one u hu
theorem dD {S : Sto} {μ : Mu} {H : cH} {x : V} {v : Value} {rs : List R} (h : aQ S μ H x v) (hc : eW x = some rs) : aO S μ H rs v.cells.toList := by
 cases x <;> simp only [eW] at hc
 case one r =>
  cases hc;simp only [aQ] at h;rw [h.one.1];simp only [aO];exact ⟨v, [], rfl, h, rfl⟩
 case pa l =>
  cases hc;simp only [aQ] at h;obtain ⟨vs, rfl, h⟩ := h;exact h.toR
 case ma l =>
  cases hc;simp only [aQ] at h;obtain ⟨vs, rfl, h⟩ := h;exact h
 case tup => cases hc
section
variable {P : Program} {n : Nat} {o : Oper} {st : St} {d : Nat} {T : TT}
theorem eB {S : Sto} {μ : Mu} {H : cH} {id : Nat} (h : H id = none) (p : Option (Nat × Nat × Nat)) (x : Option AObj) : Evolve S μ H S (upd μ id p) (upd H id x) :=
 ⟨S.le_refl, fun j o hj => by
  have hne : j ≠ id := fun e => by subst e; rw [h] at hj; cases hj
  exact ⟨o, by rw [aT _ _ _ hne]; exact hj, o.succ_refl (aT _ _ _ hne)⟩⟩
theorem Step.new {rd : Rd} {y : V} {id : Nat} {ao : AObj} (hd : o.dst = some d) (hdn : d < n) (hid : st.h id = none) (hrd : id ∈ rd.h)
  (h : ∀ st', lD rd st st' → st'.h id = none → ∀ G S μ a w, Sim G n S μ st' a w → ∃ w' bo v c, (execOp a.eval o).run P w = .ok (.value v) w' ∧ WChg w w' w.heap.size bo ∧
   j6 S (upd μ id (some (w.heap.size, c))) (upd st'.h id (some ao)) w' id ao ∧ aQ S (upd μ id (some (w.heap.size, c))) (upd st'.h id (some ao)) y v) :
  Step P n o st rd ⟨some (d, some y), [(id, some ao)]⟩ := by
 intro st' ha G S μ a w K Q hs hk;have hid' : st'.h id = none := by rw [ha.2 id hrd, hid]
 obtain ⟨w', bo, v, c, hr, hw, hO, hv⟩ := h st' ha hid' G S μ a w hs;refine fun ro => eX hr ?_
 rw [hd];have hi := hs.inv.chg (id := id) (cap := c) (ao := ao) hw (.inl (le_refl _)) (eB hid' _ _) hO
  (fun o v e => by obtain ⟨vs, t, fr, h1, _⟩ := hs.inv.holds.1 _ _ _ e; exact absurd (dS h1) (Nat.lt_irrefl _)) (fun m e => le_refl _)
 refine hk S (upd μ id (some (w.heap.size, c))) _ _ ?_;have := hs.put hi (eB hid' _ _) hdn (x := some y) (fun z hz => by cases hz; exact hv);unfold Eff.apply;rw [cD];exact this
theorem dY {G : Ctx} {S : Sto} {μ : Mu} {H : cH} {w : World} (h : Inv G S μ H w) (o : Nat) : S.cell w.heap.size o = none := by
 cases hc : S.cell w.heap.size o with
 | none => rfl
 | some v => obtain ⟨vs, t, fr, h1, _⟩ := h.holds.1 _ _ _ hc; exact absurd (dS h1) (Nat.lt_irrefl _)
theorem lG {G : Ctx} {S : Sto} {μ : Mu} {H : cH} {w : World} (h : Inv G S μ H w) : S.mapo w.heap.size = none := by
 cases hc : S.mapo w.heap.size with
 | none => rfl
 | some v => obtain ⟨_, h1⟩ := MK.holds_some (h.holds.2 _ _ hc); exact absurd (dS h1) (Nat.lt_irrefl _)
theorem fD (P : Program) (w : World) (t : TypeId) (cs : Array Value) : (newRow t cs).run P w = .ok ⟨w.heap.size, 0, none⟩ (w.alloc (.cells cs t)) := rfl
theorem aFc {t : TypeId} {i : TI} (id : Nat) (hT : Tok P T) (ho : o.op = .alloc t) (hd : o.dst = some d) (hdn : d < n) (hi : T[t]? = some (some i)) (hid : st.h id = none) :
  Step P n o st ⟨[], [id]⟩ ⟨some (d, some (.one (.vp id 0))), [(id, some (.var t (i.zero.map R.c)))]⟩ := by
 refine Step.new hd hdn hid (by simp) fun st' _ hid' G S μ a w hs => ?_
 obtain ⟨z, hz, hzr, _⟩ := (hT.get hi).zero_run;refine ⟨_, _, .pointer (some ⟨w.heap.size, 0, none⟩), (0, 0), ?_, WChg.alloc w (.cells z.cells t), ?_, ?_⟩
 ·simp [execOp, ho, Instr.alloc, hz, newVar, fD]
 ·exact ⟨w.heap.size, z.cells.toList, aC _ _ _, heap_alloc_new w _, (hzr S).toR, dY hs.inv, lG hs.inv⟩
 ·simp only [aQ, b5];exact ⟨t, _, _, _, aC _ _ _, aC _ _ _, rfl⟩
theorem aIv {t : TypeId} {x : Operand} {y : V} {rs : List R} (id : Nat) (ho : o.op = .box t x) (hd : o.dst = some d) (hdn : d < n) (hx : opv st x = some y) (hc : eW y = some rs) (hid : st.h id = none) :
  Step P n o st ⟨opr x, [id]⟩ ⟨some (d, some (.one (.vp id 0))), [(id, some (.var t rs))]⟩ := by
 refine Step.new hd hdn hid (by simp) fun st' ha hid' G S μ a w hs => ?_
 have hv := aH hs hx ha.1;refine ⟨_, _, .pointer (some ⟨w.heap.size, 0, none⟩), (0, 0), ?_, WChg.alloc w (.cells (a.eval x).cells t), ?_, ?_⟩
 ·simp [execOp, ho, Instr.box, newVar, fD]
 ·exact ⟨w.heap.size, (a.eval x).cells.toList, aC _ _ _, heap_alloc_new w _, aO.evolve (eB hid' _ _) _ _ (dD hv hc), dY hs.inv, lG hs.inv⟩
 ·simp only [aQ, b5];exact ⟨t, _, _, _, aC _ _ _, aC _ _ _, rfl⟩
theorem z5 {t : TypeId} (id : Nat) (agg : Bool) (ho : o.op = .makeMap t none) (hd : o.dst = some d) (hdn : d < n) (hid : st.h id = none) :
  Step P n o st ⟨[], [id]⟩ ⟨some (d, some (.one (.mr id))), [(id, some (.map agg []))]⟩ := by
 refine Step.new hd hdn hid (by simp) fun st' _ hid' G S μ a w hs => ?_
 refine ⟨w.alloc (.map #[] 0), _, .map (some w.heap.size), (0, 0), ?_, WChg.alloc w (.map #[] 0), ?_, ?_⟩
 ·simp only [execOp, ho, Instr.makeMap, Option.map_none]; rfl
 ·exact ⟨w.heap.size, #[], 0, aC _ _ _, heap_alloc_new w _, .inr (.inl (by simp [aZ])), .inl (lG hs.inv)⟩
 ·simp only [aQ, b5];exact ⟨_, _, _, _, aC _ _ _, aC _ _ _, rfl⟩
theorem gU {w : World} {b : Nat} {vs : List Value} {t : TypeId} (h : w.heap[b]? = some (.cells ⟨vs⟩ t (0, 0))) (off k : Nat) : w.rangeAt b off ((vs.drop off).take k) := by
 intro j v hj;rw [cell_of_row w b (off + j) ⟨vs⟩ t (0, 0) h];rw [List.getElem?_take] at hj;split at hj
 ·rw [List.getElem?_drop] at hj;simpa using hj
 ·cases hj
theorem run_load {t : TypeId} {i : TI} (hT : TIok P t i) (w : World) (b off : Nat) (cs : List Value) (hr : w.rangeAt b off cs) (hl : cs.length = i.size) :
  (Instr.loadAt t (.pointer (some ⟨b, off, none⟩))).run P w = .ok (if i.k.agg then .agg ⟨cs⟩ else cs.headD undef) w := by
 obtain ⟨inf, dd, z, g1, g2, g3, g4, g5, g6, g7, g8⟩ := hT.ex;cases hk : i.k.agg with
 | true =>
  have hrow : dd.isRow = true := by
   cases hki : i.k <;> rw [hki] at g5 hk <;> cases dd <;> simp [TK.fits, TK.agg] at g5 hk <;> rfl
  rw [run_loadAt_mid w b off t cs dd hr g2 hrow (by rw [hT.info, hl])];simp
 | false =>
  have hs := hT.one hk;rw [hs] at hl
  match cs, hl with
  | [c], _ =>
   have hc := hr 0 c rfl;have hrun := hT.agg_run w;rw [hk] at hrun;simp only [Instr.loadAt, Instr.sureAddr, Sem.run_bind, Sem.run_pure, Result.andThen_ok, loadVar, hrun];simp only [Bool.false_eq_true, if_false, load];simp only [Sem.run];rw [show (⟨b, off, none⟩ : Addr) = ⟨b, off + 0, none⟩ from rfl, hc];simp
def nO (i : TI) (rs : List R) : Option V := if i.k.agg then some (aGj rs) else match rs with | [r] => some (.one r) | _ => none
theorem iH {i : TI} {S : Sto} {μ : Mu} {H : cH} {rs : List R} {vs : List Value} {y : V} (h : aO S μ H rs vs) (hy : nO i rs = some y) : aQ S μ H y (if i.k.agg then .agg ⟨vs⟩ else vs.headD undef) := by
 unfold nO at hy;cases hk : i.k.agg with
 | true =>
  simp only [hk, if_true] at hy ⊢;cases hy;exact wY h
 | false =>
  simp only [hk, Bool.false_eq_true, if_false] at hy ⊢;split at hy
  ·cases hy;simp only [aO] at h;obtain ⟨v, vs', rfl, h1, rfl⟩ := h;simpa [aQ] using h1
  ·cases hy
theorem aI4 {α : Type} {l : List α} {off k : Nat} (h : off + k ≤ l.length) : ((l.drop off).take k).length = k := by simp; omega
theorem aG6 {t tv : TypeId} {i : TI} {x : Operand} {id off : Nat} {cells : List R} {y : V} (hT : Tok P T) (ho : o.op = .load t x) (hd : o.dst = some d) (hdn : d < n) (hi : T[t]? = some (some i)) (hx : opv st x = some (.one (.vp id off)))
  (hh : st.h id = some (.var tv cells)) (hl : Nat.ble (off + i.size) cells.length = true) (hy : nO i ((cells.drop off).take i.size) = some y) : Step P n o st ⟨opr x, [id]⟩ ⟨some (d, some y), []⟩ := by
 refine Step.value hd hdn fun st' ha G S μ a w hs => ?_
 have hh' : st'.h id = some (.var tv cells) := by rw [ha.2 id (by simp), hh]
 have hv := aH hs hx ha.1;simp only [aQ, b5] at hv;obtain ⟨t', cells', b, c, h1, h2, h3⟩ := hv;obtain ⟨b', vs, g1, g2, g3, g4⟩ := hs.inv.obj id _ hh';rw [g1] at h2; cases h2;have hlen := le_of_ble_eq_true hl;have hvl := g3.length;refine ⟨_, ?_, iH ((g3.drop off).take i.size) hy⟩;simp only [execOp, ho, h3, Sem.run_bind, run_load (hT.get hi) w b off _ (gU g2 off i.size) (aI4 (by omega)), Result.andThen_ok, Sem.run_pure]
def xW (i : TI) (l : List C) : Option V := if i.k.agg then some (.pa l) else match l with | [c] => some (.one (.c c)) | _ => none
theorem rO {i : TI} {S : Sto} {μ : Mu} {H : cH} {l : List C} {vs : List Value} {y : V} (h : bR S l vs) (hy : xW i l = some y) : aQ S μ H y (if i.k.agg then .agg ⟨vs⟩ else vs.headD undef) := by
 unfold xW at hy;cases hk : i.k.agg with
 | true =>
  simp only [hk, if_true] at hy ⊢;cases hy;simp only [aQ];exact ⟨vs, rfl, h⟩
 | false =>
  simp only [hk, Bool.false_eq_true, if_false] at hy ⊢;split at hy
  ·cases hy;simp only [bR] at h;obtain ⟨v, vs', rfl, h1, rfl⟩ := h;simpa [aQ, b5] using h1
  ·cases hy
theorem j9 {S : Sto} {w : World} (hh : tI S w) {b off : Nat} {vs : List Value} (h : dF S b off vs) : w.rangeAt b off vs := fun j v hj => hh.cell (h j v hj)
theorem z8 {t : TypeId} {i : TI} {x : Operand} {l : List C} {y : V} (hT : Tok P T) (ho : o.op = .load t x) (hd : o.dst = some d) (hdn : d < n) (hi : T[t]? = some (some i)) (hx : opv st x = some (.one (.c (.pt l))))
  (hl : i.size ≤ l.length) (hy : xW i (l.take i.size) = some y) : Step P n o st ⟨opr x, []⟩ ⟨some (d, some y), []⟩ := by
 refine Step.value hd hdn fun st' ha G S μ a w hs => ?_
 have hv := aH hs hx ha.1;simp only [aQ, b5, Rep] at hv;obtain ⟨b, off, h1, vs, h2, h3⟩ := hv;have hvl := h2.length;refine ⟨_, ?_, rO (h2.take i.size) hy⟩;have hr := j9 hs.inv.holds h3;have hr' : w.rangeAt b off (vs.take i.size) := fun j v hj => by
  rw [List.getElem?_take] at hj;split at hj
  ·exact hr j v hj
  ·cases hj
 simp only [execOp, ho, h1, Sem.run_bind, run_load (hT.get hi) w b off _ hr' (by simp; omega), Result.andThen_ok, Sem.run_pure]
theorem mG {α : Type} {es : Nat} : ∀ {l : List (List α)}, (∀ r ∈ l, r.length = es) → ∀ (k : Nat), ∀ r, l[k]? = some r → (l.flatten.drop (k * es)).take es = r
 | [], _, k, r, h => by simp at h
 | x :: xs, hl, 0, r, h => by
  simp at h; subst h;have := hl x (by simp);simp [← this]
 | x :: xs, hl, k + 1, r, h => by
  simp at h;have hx := hl x (by simp);have := mG (l := xs) (fun r hr => hl r (by simp [hr])) k r h;rw [flatten_cons, drop_append, show (k + 1) * es - x.length = k * es by rw [hx, add_mul]; omega];rw [drop_of_length_le (by rw [hx, add_mul]; omega), nil_append];exact this
theorem fN {α : Type} {es : Nat} : ∀ {l : List (List α)}, (∀ r ∈ l, r.length = es) → l.flatten.length = l.length * es
 | [], _ => by simp
 | x :: xs, hl => by
  rw [flatten_cons, length_append, fN (fun r hr => hl r (by simp [hr])), hl x (by simp), length_cons, add_mul];omega
theorem j6.arr {S : Sto} {μ : Mu} {H : cH} {w : World} {id : Nat} {te es : Nat} {elems : List (List C)} {fz : Nat} (h : j6 S μ H w id (.arr te es elems fz)) {b base cap : Nat} (hm : μ id = some (b, base, cap)) :
  (∀ r ∈ elems, r.length = es) ∧ ∃ vs, w.heap[b]? = some (.cells ⟨vs⟩ te (0, 0)) ∧
   base + cap * es ≤ vs.length ∧ elems.length ≤ cap ∧ (cap ≤ maxLen ∧ S.mapo b = none) ∧ bR S elems.flatten ((vs.drop base).take (elems.length * es)) ∧
   (fz = 0 → ∀ o, base ≤ o → S.cell b o = none) ∧ (∀ o, base + elems.length * es ≤ o → S.cell b o = none) ∧ (fz = 2 → dF S b base ((vs.drop base).take (elems.length * es))) := by
 obtain ⟨h0, ⟨h1, _⟩ | ⟨b', base', cap', vs, h1, h2⟩⟩ := h
 ·rw [hm] at h1; cases h1
 ·rw [hm] at h1; cases h1;exact ⟨h0, vs, h2⟩
theorem aDv {S : Sto} {es base : Nat} {elems : List (List C)} {vs : List Value} (h0 : ∀ r ∈ elems, r.length = es) (h : bR S elems.flatten ((vs.drop base).take (elems.length * es))) {k : Nat} {r : List C} (hk : elems[k]? = some r) :
  bR S r ((vs.drop (base + k * es)).take es) := by
 have h1 := (h.drop (k * es)).take es;rw [mG h0 k r hk] at h1;have hlt : k < elems.length := (List.getElem?_eq_some_iff.1 hk).1
 have hle : (k + 1) * es ≤ elems.length * es := mul_le_mul_right _ hlt;rw [add_mul] at hle;rw [drop_take, drop_drop, take_take] at h1;rwa [min_eq_left (by omega)] at h1
theorem zA {t te es : Nat} {i : TI} {x : Operand} {id k fo sz : Nat} {elems : List (List C)} {fz : Nat} {r : List C} {y : V} (hT : Tok P T) (ho : o.op = .load t x) (hd : o.dst = some d) (hdn : d < n) (hi : T[t]? = some (some i)) (hx : opv st x = some (.one (.ep id k fo sz)))
  (hh : st.h id = some (.arr te es elems fz)) (hsz : sz = elems.length) (hr : elems[k]? = some r) (hl : fo + i.size ≤ es) (hy : xW i ((r.drop fo).take i.size) = some y) : Step P n o st ⟨opr x, [id]⟩ ⟨some (d, some y), []⟩ := by
 refine Step.value hd hdn fun st' ha G S μ a w hs => ?_
 have hh' : st'.h id = some (.arr te es elems fz) := by rw [ha.2 id (by simp), hh]
 have hv := aH hs hx ha.1;simp only [aQ, b5] at hv;obtain ⟨_, hv | ⟨te', es', elems', fz', h1, h2, h3⟩⟩ := hv
 ·rw [hh'] at hv; cases hv
 rw [hh'] at h1; cases h1;obtain ⟨h4, b, base, cap, h5, h6⟩ := h3 hsz;obtain ⟨g0, vs, g1, g2, g3, g4, g5, g6, g7⟩ := (hs.inv.obj id _ hh').arr h5;have hrow := aDv g0 g5 hr;have hlr := hrow.length;have hres : r.length = es := g0 r (List.mem_of_getElem? hr);have hld := ((hrow.drop fo).take i.size)
 have hlen := hld.length;have hE : ((List.drop fo (List.take es (List.drop (base + k * es) vs))).take i.size) = (vs.drop (base + k * es + fo)).take i.size := by
  rw [drop_take, drop_drop, take_take, min_eq_left (by omega)]
 rw [hE] at hld hlen;refine ⟨_, ?_, rO hld hy⟩;simp only [execOp, ho, h6, Sem.run_bind, run_load (hT.get hi) w b (base + k * es + fo) _ (gU g1 _ i.size) (by rw [hlen]; simp; omega), Result.andThen_ok, Sem.run_pure]
end
end Go.AM
