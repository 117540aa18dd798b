/-
  ABSTRACT STATES. Data as trees ('C'), cells and values that may refer to objects of the call's own ('R', 'V'), objects ('AObj'), and what it means that a world's memory holds them ('Rep', 'RRel', 'VRel', 'ORel').
-/
import Derived.WalkKit
import Derived.Below
namespace Go.AM
open Go

/-- A cell of plain data: a tree. -/
inductive C where
  | int (k : IntKind) (n : Int)
  | bool (b : Bool)
  | str (s : List UInt8)
  | nl
  | sl (es : Nat) (l : List (List C))
  | sn (es : Nat) (l : List (List C))
  | np
  | pt (l : List C)
  | mp (agg : Bool) (l : List (List C))
  | zv (k : Nat)
  deriving Inhabited

/-- Memory that is never written again: cells, and maps. -/
structure Sto where
  cell : Nat → Nat → Option Value
  mapo : Nat → Option (Array MapEntry × Nat)

def Sto.le (S S' : Sto) : Prop := (∀ b o v, S.cell b o = some v → S'.cell b o = some v) ∧ (∀ b m, S.mapo b = some m → S'.mapo b = some m)
theorem Sto.le_refl (S : Sto) : S.le S := ⟨fun _ _ _ h => h, fun _ _ h => h⟩
theorem Sto.le_trans {S S' S'' : Sto} (h : S.le S') (k : S'.le S'') : S.le S'' := ⟨fun b o v e => k.1 b o v (h.1 b o v e), fun b m e => k.2 b m (h.2 b m e)⟩

/-- The nil values that are no pointer and no slice. -/
def zval : Nat → Value
  | 0 => .map none
  | 1 => .nilFunc
  | _ => .nilIface

def CellsAt (S : Sto) (b o : Nat) (vs : List Value) : Prop := ∀ i v, vs[i]? = some v → S.cell b (o + i) = some v
theorem CellsAt.mono {S S' : Sto} (h : S.le S') {b o : Nat} {vs : List Value} (k : CellsAt S b o vs) : CellsAt S' b o vs := fun i v e => h.1 _ _ _ (k i v e)

mutual
/-- A cell's value holds the tree. -/
def Rep (S : Sto) : C → Value → Prop
  | .int k n, v => v = .int k n
  | .bool b, v => v = .bool b
  | .str s, v => v = .string ⟨⟨s⟩⟩
  | .nl, v => v = .slice none 0 0
  | .sl es l, v => ∃ a len cap, v = .slice a len cap ∧ len = l.length ∧ len ≤ cap ∧ cap ≤ maxLen ∧ (a = none → len = 0 ∧ cap = 0) ∧
      (∀ ad, a = some ad → ad.spot = none) ∧ ∃ b o, (∀ ad, a = some ad → ad.block = b ∧ ad.off = o) ∧ RepRows S es b l o
  | .sn es l, v => ∃ b o len cap, v = .slice (some ⟨b, o, none⟩) len cap ∧ len = l.length ∧ len ≤ cap ∧ cap ≤ maxLen ∧ RepRows S es b l o
  | .np, v => v = .pointer none
  | .pt l, v => ∃ b o, v = .pointer (some ⟨b, o, none⟩) ∧ ∃ vs, RepL S l vs ∧ CellsAt S b o vs
  | .mp agg l, v => ∃ b es clk, v = .map (some b) ∧ S.mapo b = some (es, clk) ∧ RepEnts S agg l es.toList
  | .zv k, v => v = zval k
def RepL (S : Sto) : List C → List Value → Prop
  | [], vs => vs = []
  | c :: cs, vs => ∃ v vs', vs = v :: vs' ∧ Rep S c v ∧ RepL S cs vs'
def RepRows (S : Sto) (es b : Nat) : List (List C) → Nat → Prop
  | [], _ => True
  | r :: rs, o => r.length = es ∧ (∃ vs, RepL S r vs ∧ CellsAt S b o vs) ∧ RepRows S es b rs (o + es)
def RepEnts (S : Sto) (agg : Bool) : List (List C) → List MapEntry → Prop
  | [], es => es = []
  | r :: rs, es => ∃ e es', es = e :: es' ∧ (∃ vs, RepL S r (e.key :: vs) ∧ (e.val = if agg then .agg ⟨vs⟩ else vs.headD undef) ∧ (agg = false → vs.length = 1)) ∧ RepEnts S agg rs es'
end

mutual
theorem Rep.mono {S S' : Sto} (h : S.le S') : ∀ (c : C) (v : Value), Rep S c v → Rep S' c v
  | .int _ _, _, k => by simpa [Rep] using k
  | .bool _, _, k => by simpa [Rep] using k
  | .str _, _, k => by simpa [Rep] using k
  | .nl, _, k => by simpa [Rep] using k
  | .np, _, k => by simpa [Rep] using k
  | .zv _, _, k => by simpa [Rep] using k
  | .sl es l, v, k => by
    simp only [Rep] at k ⊢
    obtain ⟨a, len, cap, h1, h2, h3, h4, h5, h6, b, o, h7, h8⟩ := k
    exact ⟨a, len, cap, h1, h2, h3, h4, h5, h6, b, o, h7, RepRows.mono h es b l o h8⟩
  | .sn es l, v, k => by
    simp only [Rep] at k ⊢
    obtain ⟨b, o, len, cap, h1, h2, h3, h4, h5⟩ := k
    exact ⟨b, o, len, cap, h1, h2, h3, h4, RepRows.mono h es b l o h5⟩
  | .pt l, v, k => by
    simp only [Rep] at k ⊢
    obtain ⟨b, o, h1, vs, h2, h3⟩ := k
    exact ⟨b, o, h1, vs, RepL.mono h l vs h2, h3.mono h⟩
  | .mp agg l, v, k => by
    simp only [Rep] at k ⊢
    obtain ⟨b, es, clk, h1, h2, h3⟩ := k
    exact ⟨b, es, clk, h1, h.2 _ _ h2, RepEnts.mono h agg l es.toList h3⟩
theorem RepL.mono {S S' : Sto} (h : S.le S') : ∀ (c : List C) (v : List Value), RepL S c v → RepL S' c v
  | [], _, k => by simpa [RepL] using k
  | c :: cs, vs, k => by
    simp only [RepL] at k ⊢
    obtain ⟨v, vs', h1, h2, h3⟩ := k
    exact ⟨v, vs', h1, Rep.mono h c v h2, RepL.mono h cs vs' h3⟩
theorem RepRows.mono {S S' : Sto} (h : S.le S') (es b : Nat) : ∀ (l : List (List C)) (o : Nat), RepRows S es b l o → RepRows S' es b l o
  | [], _, _ => by simp [RepRows]
  | r :: rs, o, k => by
    simp only [RepRows] at k ⊢
    obtain ⟨h1, ⟨vs, h2, h3⟩, h4⟩ := k
    exact ⟨h1, ⟨vs, RepL.mono h r vs h2, h3.mono h⟩, RepRows.mono h es b rs (o + es) h4⟩
theorem RepEnts.mono {S S' : Sto} (h : S.le S') (agg : Bool) : ∀ (l : List (List C)) (es : List MapEntry), RepEnts S agg l es → RepEnts S' agg l es
  | [], _, k => by simpa [RepEnts] using k
  | r :: rs, es, k => by
    simp only [RepEnts] at k ⊢
    obtain ⟨e, es', h1, ⟨vs, h2, h3⟩, h4⟩ := k
    exact ⟨e, es', h1, ⟨vs, RepL.mono h r _ h2, h3⟩, RepEnts.mono h agg rs es' h4⟩
end

theorem RepL.length {S : Sto} : ∀ {c : List C} {v : List Value}, RepL S c v → v.length = c.length
  | [], _, k => by simp only [RepL] at k; subst k; rfl
  | _ :: cs, _, k => by
    simp only [RepL] at k
    obtain ⟨v, vs', rfl, _, h⟩ := k
    simp [RepL.length h]
theorem RepL.get {S : Sto} : ∀ {c : List C} {v : List Value}, RepL S c v → ∀ (i : Nat) (x : C), c[i]? = some x → ∃ u, v[i]? = some u ∧ Rep S x u
  | [], _, _, i, x, h => by simp at h
  | c :: cs, _, k, i, x, h => by
    simp only [RepL] at k
    obtain ⟨v, vs', rfl, h1, h2⟩ := k
    cases i with
    | zero => simp at h; subst h; exact ⟨v, rfl, h1⟩
    | succ i => simp at h; simpa using h2.get i x h
theorem RepL.append {S : Sto} : ∀ {a : List C} {x : List Value} {b : List C} {y : List Value}, RepL S a x → RepL S b y → RepL S (a ++ b) (x ++ y)
  | [], _, _, _, h, k => by simp only [RepL] at h; subst h; simpa using k
  | _ :: _, _, _, _, h, k => by
    simp only [RepL, List.cons_append] at h ⊢
    obtain ⟨v, vs', rfl, h1, h2⟩ := h
    exact ⟨v, vs' ++ _, rfl, h1, h2.append k⟩
theorem RepL.take {S : Sto} : ∀ {a : List C} {x : List Value} (n : Nat), RepL S a x → RepL S (a.take n) (x.take n)
  | _, _, 0, _ => by simp [RepL]
  | [], _, n + 1, h => by simp only [RepL] at h; subst h; simp [RepL]
  | _ :: _, _, n + 1, h => by
    simp only [RepL, List.take_succ_cons] at h ⊢
    obtain ⟨v, vs', rfl, h1, h2⟩ := h
    exact ⟨v, vs'.take n, by simp, h1, h2.take n⟩
theorem RepL.drop {S : Sto} : ∀ {a : List C} {x : List Value} (n : Nat), RepL S a x → RepL S (a.drop n) (x.drop n)
  | _, _, 0, h => by simpa using h
  | [], _, n + 1, h => by simp only [RepL] at h; subst h; simp [RepL]
  | _ :: _, _, n + 1, h => by
    simp only [RepL, List.drop_succ_cons] at h ⊢
    obtain ⟨v, vs', rfl, h1, h2⟩ := h
    simpa using h2.drop n

theorem RepRows.get {S : Sto} {es b : Nat} : ∀ {l : List (List C)} {o : Nat}, RepRows S es b l o → ∀ (i : Nat) (r : List C), l[i]? = some r → r.length = es ∧ ∃ vs, RepL S r vs ∧ CellsAt S b (o + i * es) vs
  | [], _, _, i, r, h => by simp at h
  | x :: xs, o, k, i, r, h => by
    simp only [RepRows] at k
    obtain ⟨h1, h2, h3⟩ := k
    cases i with
    | zero => simp at h; subst h; simpa using ⟨h1, h2⟩
    | succ i =>
      simp at h
      have := h3.get i r h
      rw [show o + es + i * es = o + (i + 1) * es by rw [Nat.add_mul]; omega] at this
      exact this
theorem RepRows.drop {S : Sto} {es b : Nat} : ∀ {l : List (List C)} {o : Nat} (n : Nat), RepRows S es b l o → RepRows S es b (l.drop n) (o + n * es)
  | _, _, 0, h => by simpa using h
  | [], _, n + 1, _ => by simp [RepRows]
  | x :: xs, o, n + 1, h => by
    simp only [RepRows, List.drop_succ_cons] at h ⊢
    have := h.2.2.drop n
    rw [show o + es + n * es = o + (n + 1) * es by rw [Nat.add_mul]; omega] at this
    exact this
theorem RepRows.take {S : Sto} {es b : Nat} : ∀ {l : List (List C)} {o : Nat} (n : Nat), RepRows S es b l o → RepRows S es b (l.take n) o
  | _, _, 0, _ => by simp [RepRows]
  | [], _, n + 1, _ => by simp [RepRows]
  | x :: xs, o, n + 1, h => by
    simp only [RepRows, List.take_succ_cons] at h ⊢
    exact ⟨h.1, h.2.1, h.2.2.take n⟩
/-- Rows out of their cells. -/
theorem RepRows.of_flat {S : Sto} {es b : Nat} : ∀ {l : List (List C)} {o : Nat} {vs : List Value}, (∀ r ∈ l, r.length = es) → RepL S l.flatten vs → CellsAt S b o vs → RepRows S es b l o
  | [], _, _, _, _, _ => by simp [RepRows]
  | r :: rs, o, vs, hl, h, hc => by
    have hr : r.length = es := hl r (by simp)
    simp only [RepRows, List.flatten_cons] at h ⊢
    have h1 := h.take r.length
    have h2 := h.drop r.length
    simp only [List.take_left', List.drop_left'] at h1 h2
    refine ⟨hr, ⟨_, h1, fun i v e => ?_⟩, RepRows.of_flat (fun x hx => hl x (by simp [hx])) h2 fun i v e => ?_⟩
    · rw [List.getElem?_take] at e
      split at e
      · exact hc i v e
      · cases e
    · rw [List.getElem?_drop, hr] at e
      have := hc (es + i) v e
      rwa [← Nat.add_assoc] at this

/-- A cell that may refer to objects of the call's own. -/
inductive R where
  | c (x : C)
  | hs (id off len sz : Nat)
  | tl (id off len sz : Nat)
  | vp (id off : Nat)
  | ep (id i fo sz : Nat)
  | mr (id : Nat)
  | clo (f : FuncId) (caps : List R)
  | mth (f : FuncId) (recv : C)
  | yl (id : Nat)
  | ra (id off len sz : Nat)
  deriving Inhabited

inductive V where
  | one (r : R)
  | pa (l : List C)
  | ma (l : List R)
  | tup (l : List V)
  deriving Inhabited

/-- What a loop over a function is. -/
structure LI where
  n : Nat
  params : Array Tmp
  asg : Code
  body : Code
  deriving Inhabited

inductive AObj where
  | var (t : TypeId) (cells : List R)
  | arr (te es : Nat) (elems : List (List C)) (fz : Nat)
  | map (agg : Bool) (ents : List (List C))
  | dead
  | lp (st : LoopState) (jump : Option Code) (i : LI) (e : List (Nat × V))
  | dfr
  | rarr (te es : Nat) (elems : List (List R))
  deriving Inhabited

abbrev Heap := Nat → Option AObj
/-- Where an object lies: its block, where it begins there, how many elements there is room for. -/
abbrev Mu := Nat → Option (Nat × Nat × Nat)

mutual
def RRel (S : Sto) (μ : Mu) (H : Heap) : R → Value → Prop
  | .c x, v => Rep S x v
  | .hs id off len sz, v => (∃ a l c, v = .slice a l c) ∧ (H id = some .dead ∨ ∃ te es elems fz, H id = some (.arr te es elems fz) ∧ sz ≤ elems.length ∧
      (sz = elems.length → off + len ≤ sz ∧ ((μ id = none ∧ elems = [] ∧ v = .slice none 0 0) ∨ ∃ b base cap, μ id = some (b, base, cap) ∧ v = .slice (some ⟨b, base + off * es, none⟩) len (cap - off))))
  | .tl id off len sz, v => (∃ a l c, v = .slice a l c) ∧ (H id = some .dead ∨ ∃ te es elems fz, H id = some (.arr te es elems fz) ∧ sz ≤ elems.length ∧
      (sz = elems.length → off + len = sz ∧ ∃ b base cap, μ id = some (b, base, cap) ∧ off ≤ cap ∧ v = .slice (some ⟨b, if cap = off then base else base + off * es, none⟩) len (cap - off)))
  | .vp id off, v => ∃ t cells b c, H id = some (.var t cells) ∧ μ id = some (b, c) ∧ v = .pointer (some ⟨b, off, none⟩)
  | .ep id i fo sz, v => (∃ a, v = .pointer a) ∧ (H id = some .dead ∨ ∃ te es elems fz, H id = some (.arr te es elems fz) ∧ sz ≤ elems.length ∧
      (sz = elems.length → i < sz ∧ ∃ b base cap, μ id = some (b, base, cap) ∧ v = .pointer (some ⟨b, base + i * es + fo, none⟩)))
  | .mr id, v => ∃ agg ents b c, H id = some (.map agg ents) ∧ μ id = some (b, c) ∧ v = .map (some b)
  | .clo f caps, v => ∃ vs, v = .func (.func f) #[] ⟨vs⟩ ∧ RRelL S μ H caps vs
  | .mth f recv, v => ∃ u, v = .func (.func f) #[u] #[] ∧ Rep S recv u
  | .yl id, v => ∃ st j i e b c, H id = some (.lp st j i e) ∧ μ id = some (b, c) ∧ v = .func (.yield b) #[] #[]
  | .ra id off len sz, v => (∃ a l c, v = .slice a l c) ∧ (H id = some .dead ∨ ∃ te es elems, H id = some (.rarr te es elems) ∧ sz ≤ elems.length ∧
      (sz = elems.length → off + len ≤ sz ∧ ((μ id = none ∧ elems = [] ∧ v = .slice none 0 0) ∨ ∃ b base cap, μ id = some (b, base, cap) ∧ v = .slice (some ⟨b, base + off * es, none⟩) len (cap - off))))
def RRelL (S : Sto) (μ : Mu) (H : Heap) : List R → List Value → Prop
  | [], vs => vs = []
  | r :: rs, vs => ∃ v vs', vs = v :: vs' ∧ RRel S μ H r v ∧ RRelL S μ H rs vs'
end

mutual
def VRel (S : Sto) (μ : Mu) (H : Heap) : V → Value → Prop
  | .one r, v => RRel S μ H r v
  | .pa l, v => ∃ vs, v = .agg ⟨vs⟩ ∧ RepL S l vs
  | .ma l, v => ∃ vs, v = .agg ⟨vs⟩ ∧ RRelL S μ H l vs
  | .tup l, v => ∃ vs, v = .tuple ⟨vs⟩ ∧ VRelL S μ H l vs
def VRelL (S : Sto) (μ : Mu) (H : Heap) : List V → List Value → Prop
  | [], vs => vs = []
  | r :: rs, vs => ∃ v vs', vs = v :: vs' ∧ VRel S μ H r v ∧ VRelL S μ H rs vs'
end

def ORel (S : Sto) (μ : Mu) (H : Heap) (w : World) (id : Nat) : AObj → Prop
  | .var t cells => ∃ b vs, μ id = some (b, 0, 0) ∧ w.heap[b]? = some (.cells ⟨vs⟩ t (0, 0)) ∧ RRelL S μ H cells vs ∧ (∀ o, S.cell b o = none)
  | .arr te es elems fz => (∀ r ∈ elems, r.length = es) ∧ ((μ id = none ∧ elems = []) ∨ ∃ b base cap vs, μ id = some (b, base, cap) ∧ w.heap[b]? = some (.cells ⟨vs⟩ te (0, 0)) ∧
      base + cap * es ≤ vs.length ∧ elems.length ≤ cap ∧ cap ≤ maxLen ∧ RepL S elems.flatten ((vs.drop base).take (elems.length * es)) ∧
      (fz = 0 → ∀ o, base ≤ o → S.cell b o = none) ∧ (∀ o, base + elems.length * es ≤ o → S.cell b o = none) ∧ (fz = 2 → CellsAt S b base ((vs.drop base).take (elems.length * es))))
  | .map agg ents => ∃ b es clk, μ id = some (b, 0, 0) ∧ w.heap[b]? = some (.map es clk) ∧ RepEnts S agg ents es.toList ∧ S.mapo b = none
  | .dead => μ id = none
  | .lp st j i e => ∃ b r fn tmps, μ id = some (b, 0, 0) ∧ w.heap[b]? = some (.loop { state := st, pending := j, fn := fn, tmps := tmps, params := i.params, assign := i.asg, body := i.body, defers := r }) ∧
      tmps.size = i.n ∧ (∀ t v, (t, v) ∈ e → VRel S μ H v (tmps.getD t undef)) ∧ (∀ o, S.cell b o = none) ∧ S.mapo b = none
  | .dfr => ∃ b, μ id = some (b, 0, 0) ∧ w.heap[b]? = some (.deferred (some [])) ∧ (∀ o, S.cell b o = none) ∧ S.mapo b = none
  | .rarr te es elems => (∀ r ∈ elems, r.length = es) ∧ ((μ id = none ∧ elems = []) ∨ ∃ b base cap vs, μ id = some (b, base, cap) ∧ w.heap[b]? = some (.cells ⟨vs⟩ te (0, 0)) ∧
      base + cap * es ≤ vs.length ∧ elems.length ≤ cap ∧ cap ≤ maxLen ∧ RRelL S μ H elems.flatten ((vs.drop base).take (elems.length * es)) ∧ (∀ o, S.cell b o = none))

/-- How the objects may change without turning what refers to them. -/
def AObj.succ (same : Prop) : AObj → AObj → Prop
  | .var _ _, .var _ _ => same
  | .arr _ es l _, .arr _ es' l' _ => es = es' ∧ l.length ≤ l'.length ∧ (l.length = l'.length → same)
  | .map _ _, .map _ _ => same
  | .arr _ _ _ _, .dead => True
  | .dead, .dead => True
  | .lp _ _ _ _, .lp _ _ _ _ => same
  | .dfr, .dfr => same
  | .rarr _ es l, .rarr _ es' l' => es = es' ∧ l.length ≤ l'.length ∧ (l.length = l'.length → same)
  | .rarr _ _ _, .dead => True
  | _, _ => False

structure Evolve (S : Sto) (μ : Mu) (H : Heap) (S' : Sto) (μ' : Mu) (H' : Heap) : Prop where
  le : S.le S'
  obj : ∀ id o, H id = some o → ∃ o', H' id = some o' ∧ o.succ (μ' id = μ id) o'
/-- But for the marks of loops over functions, to which nothing refers. -/
structure Evo0 (S : Sto) (μ : Mu) (H : Heap) (S' : Sto) (μ' : Mu) (H' : Heap) : Prop where
  le : S.le S'
  obj : ∀ id o, H id = some o → o ≠ .dfr → ∃ o', H' id = some o' ∧ o.succ (μ' id = μ id) o'
theorem Evolve.weak {S : Sto} {μ : Mu} {H : Heap} {S' : Sto} {μ' : Mu} {H' : Heap} (E : Evolve S μ H S' μ' H') : Evo0 S μ H S' μ' H' := ⟨E.le, fun id o h _ => E.obj id o h⟩

theorem AObj.succ_refl (o : AObj) {p : Prop} (h : p) : o.succ p o := by cases o <;> simp [AObj.succ, h]
theorem AObj.succ_dead {o : AObj} {p : Prop} (h : AObj.dead.succ p o) : o = .dead := by cases o <;> simp only [AObj.succ] at h; rfl
theorem AObj.succ_trans {a b c : AObj} {p q r : Prop} (h : a.succ p b) (k : b.succ q c) (hr : p → q → r) : a.succ r c := by
  cases a <;> cases b <;> simp only [AObj.succ] at h <;> cases c <;> simp only [AObj.succ] at k ⊢
  all_goals first
    | exact hr h k
    | trivial
    | (obtain ⟨h1, h2, h3⟩ := h
       obtain ⟨k1, k2, k3⟩ := k
       exact ⟨h1.trans k1, Nat.le_trans h2 k2, fun e => hr (h3 (by omega)) (k3 (by omega))⟩)
theorem Evolve.refl (S : Sto) (μ : Mu) (H : Heap) : Evolve S μ H S μ H := ⟨S.le_refl, fun _ o h => ⟨o, h, o.succ_refl rfl⟩⟩
theorem Evolve.trans {S S' S'' : Sto} {μ μ' μ'' : Mu} {H H' H'' : Heap} (h : Evolve S μ H S' μ' H') (k : Evolve S' μ' H' S'' μ'' H'') : Evolve S μ H S'' μ'' H'' :=
  ⟨Sto.le_trans h.le k.le, fun id o ho => by
    obtain ⟨o', h1, h2⟩ := h.obj id o ho
    obtain ⟨o'', k1, k2⟩ := k.obj id o' h1
    exact ⟨o'', k1, AObj.succ_trans h2 k2 fun e f => f.trans e⟩⟩
theorem Evolve.of_le {S S' : Sto} (h : S.le S') (μ : Mu) (H : Heap) : Evolve S μ H S' μ H := ⟨h, fun _ o h => ⟨o, h, o.succ_refl rfl⟩⟩

section
variable {S S' : Sto} {μ μ' : Mu} {H H' : Heap}
mutual
theorem RRel.evolve0 (E : Evo0 S μ H S' μ' H') : ∀ (r : R) (v : Value), RRel S μ H r v → RRel S' μ' H' r v
  | .c x, v, k => by simp only [RRel] at k ⊢; exact Rep.mono E.le x v k
  | .hs id off len sz, v, k => by
    simp only [RRel] at k ⊢
    obtain ⟨kk, k⟩ := k
    refine ⟨kk, ?_⟩
    rcases k with k | ⟨te, es, elems, fz, h1, h2, h3⟩
    · obtain ⟨o', h4, h5⟩ := E.obj _ _ k (by simp)
      exact .inl (by rw [h4, AObj.succ_dead h5])
    obtain ⟨o', h4, h5⟩ := E.obj _ _ h1 (by simp)
    cases o' with
    | arr te' es' elems' fz' =>
      simp only [AObj.succ] at h5
      obtain ⟨rfl, h6, h7⟩ := h5
      refine .inr ⟨te', es, elems', fz', h4, Nat.le_trans h2 h6, fun e => ?_⟩
      have e1 : sz = elems.length := by omega
      obtain ⟨h8, h9⟩ := h3 e1
      have hm := h7 (by omega)
      refine ⟨h8, ?_⟩
      rcases h9 with ⟨g1, g2, g3⟩ | ⟨b, base, cap, g1, g2⟩
      · refine .inl ⟨by rw [hm, g1], ?_, g3⟩
        subst g2
        simp only [List.length_nil] at e1 h6
        exact List.eq_nil_of_length_eq_zero (by omega)
      · exact .inr ⟨b, base, cap, by rw [hm, g1], g2⟩
    | dead => exact .inl h4
    | _ => simp only [AObj.succ] at h5
  | .tl id off len sz, v, k => by
    simp only [RRel] at k ⊢
    obtain ⟨kk, k⟩ := k
    refine ⟨kk, ?_⟩
    rcases k with k | ⟨te, es, elems, fz, h1, h2, h3⟩
    · obtain ⟨o', h4, h5⟩ := E.obj _ _ k (by simp)
      exact .inl (by rw [h4, AObj.succ_dead h5])
    obtain ⟨o', h4, h5⟩ := E.obj _ _ h1 (by simp)
    cases o' with
    | arr te' es' elems' fz' =>
      simp only [AObj.succ] at h5
      obtain ⟨rfl, h6, h7⟩ := h5
      refine .inr ⟨te', es, elems', fz', h4, Nat.le_trans h2 h6, fun e => ?_⟩
      obtain ⟨h8, b, base, cap, g1, g2⟩ := h3 (by omega)
      exact ⟨h8, b, base, cap, by rw [h7 (by omega), g1], g2⟩
    | dead => exact .inl h4
    | _ => simp only [AObj.succ] at h5
  | .vp id off, v, k => by
    simp only [RRel] at k ⊢
    obtain ⟨t, cells, b, c, h1, h2, h3⟩ := k
    obtain ⟨o', h4, h5⟩ := E.obj _ _ h1 (by simp)
    cases o' with
    | var t' cells' => simp only [AObj.succ] at h5; exact ⟨t', cells', b, c, h4, by rw [h5, h2], h3⟩
    | _ => simp only [AObj.succ] at h5
  | .ep id i fo sz, v, k => by
    simp only [RRel] at k ⊢
    obtain ⟨kk, k⟩ := k
    refine ⟨kk, ?_⟩
    rcases k with k | ⟨te, es, elems, fz, h1, h2, h3⟩
    · obtain ⟨o', h4, h5⟩ := E.obj _ _ k (by simp)
      exact .inl (by rw [h4, AObj.succ_dead h5])
    obtain ⟨o', h4, h5⟩ := E.obj _ _ h1 (by simp)
    cases o' with
    | arr te' es' elems' fz' =>
      simp only [AObj.succ] at h5
      obtain ⟨rfl, h6, h7⟩ := h5
      refine .inr ⟨te', es, elems', fz', h4, Nat.le_trans h2 h6, fun e => ?_⟩
      obtain ⟨h8, b, base, cap, g1, g2⟩ := h3 (by omega)
      exact ⟨h8, b, base, cap, by rw [h7 (by omega), g1], g2⟩
    | dead => exact .inl h4
    | _ => simp only [AObj.succ] at h5
  | .mr id, v, k => by
    simp only [RRel] at k ⊢
    obtain ⟨agg, ents, b, c, h1, h2, h3⟩ := k
    obtain ⟨o', h4, h5⟩ := E.obj _ _ h1 (by simp)
    cases o' with
    | map agg' ents' => simp only [AObj.succ] at h5; exact ⟨agg', ents', b, c, h4, by rw [h5, h2], h3⟩
    | _ => simp only [AObj.succ] at h5
  | .clo f caps, v, k => by
    simp only [RRel] at k ⊢
    obtain ⟨vs, h1, h2⟩ := k
    exact ⟨vs, h1, RRelL.evolve0 E caps vs h2⟩
  | .mth f recv, v, k => by
    simp only [RRel] at k ⊢
    obtain ⟨u, h1, h2⟩ := k
    exact ⟨u, h1, Rep.mono E.le recv u h2⟩
  | .yl id, v, k => by
    simp only [RRel] at k ⊢
    obtain ⟨st, j, i, e, b, c, h1, h2, h3⟩ := k
    obtain ⟨o', h4, h5⟩ := E.obj _ _ h1 (by simp)
    cases o' with
    | lp st' j' i' e' => simp only [AObj.succ] at h5; exact ⟨st', j', i', e', b, c, h4, by rw [h5, h2], h3⟩
    | _ => simp only [AObj.succ] at h5
  | .ra id off len sz, v, k => by
    simp only [RRel] at k ⊢
    obtain ⟨kk, k⟩ := k
    refine ⟨kk, ?_⟩
    rcases k with k | ⟨te, es, elems, h1, h2, h3⟩
    · obtain ⟨o', h4, h5⟩ := E.obj _ _ k (by simp)
      exact .inl (by rw [h4, AObj.succ_dead h5])
    obtain ⟨o', h4, h5⟩ := E.obj _ _ h1 (by simp)
    cases o' with
    | rarr te' es' elems' =>
      simp only [AObj.succ] at h5
      obtain ⟨rfl, h6, h7⟩ := h5
      refine .inr ⟨te', es, elems', h4, Nat.le_trans h2 h6, fun e => ?_⟩
      have e1 : sz = elems.length := by omega
      obtain ⟨h8, h9⟩ := h3 e1
      have hm := h7 (by omega)
      refine ⟨h8, ?_⟩
      rcases h9 with ⟨g1, g2, g3⟩ | ⟨b, base, cap, g1, g2⟩
      · refine .inl ⟨by rw [hm, g1], ?_, g3⟩
        subst g2
        simp only [List.length_nil] at e1 h6
        exact List.eq_nil_of_length_eq_zero (by omega)
      · exact .inr ⟨b, base, cap, by rw [hm, g1], g2⟩
    | dead => exact .inl h4
    | _ => simp only [AObj.succ] at h5
theorem RRelL.evolve0 (E : Evo0 S μ H S' μ' H') : ∀ (r : List R) (v : List Value), RRelL S μ H r v → RRelL S' μ' H' r v
  | [], _, k => by simpa [RRelL] using k
  | r :: rs, vs, k => by
    simp only [RRelL] at k ⊢
    obtain ⟨v, vs', h1, h2, h3⟩ := k
    exact ⟨v, vs', h1, RRel.evolve0 E r v h2, RRelL.evolve0 E rs vs' h3⟩
end
mutual
theorem VRel.evolve0 (E : Evo0 S μ H S' μ' H') : ∀ (r : V) (v : Value), VRel S μ H r v → VRel S' μ' H' r v
  | .one r, v, k => by simp only [VRel] at k ⊢; exact RRel.evolve0 E r v k
  | .pa l, v, k => by
    simp only [VRel] at k ⊢
    obtain ⟨vs, h1, h2⟩ := k
    exact ⟨vs, h1, RepL.mono E.le l vs h2⟩
  | .ma l, v, k => by
    simp only [VRel] at k ⊢
    obtain ⟨vs, h1, h2⟩ := k
    exact ⟨vs, h1, RRelL.evolve0 E l vs h2⟩
  | .tup l, v, k => by
    simp only [VRel] at k ⊢
    obtain ⟨vs, h1, h2⟩ := k
    exact ⟨vs, h1, VRelL.evolve0 E l vs h2⟩
theorem VRelL.evolve0 (E : Evo0 S μ H S' μ' H') : ∀ (r : List V) (v : List Value), VRelL S μ H r v → VRelL S' μ' H' r v
  | [], _, k => by simpa [VRelL] using k
  | r :: rs, vs, k => by
    simp only [VRelL] at k ⊢
    obtain ⟨v, vs', h1, h2, h3⟩ := k
    exact ⟨v, vs', h1, VRel.evolve0 E r v h2, VRelL.evolve0 E rs vs' h3⟩
end
theorem RRel.evolve (E : Evolve S μ H S' μ' H') (r : R) (v : Value) (k : RRel S μ H r v) : RRel S' μ' H' r v := RRel.evolve0 E.weak r v k
theorem RRelL.evolve (E : Evolve S μ H S' μ' H') (r : List R) (v : List Value) (k : RRelL S μ H r v) : RRelL S' μ' H' r v := RRelL.evolve0 E.weak r v k
theorem VRel.evolve (E : Evolve S μ H S' μ' H') (r : V) (v : Value) (k : VRel S μ H r v) : VRel S' μ' H' r v := VRel.evolve0 E.weak r v k
theorem VRelL.evolve (E : Evolve S μ H S' μ' H') (r : List V) (v : List Value) (k : VRelL S μ H r v) : VRelL S' μ' H' r v := VRelL.evolve0 E.weak r v k
end
end Go.AM
