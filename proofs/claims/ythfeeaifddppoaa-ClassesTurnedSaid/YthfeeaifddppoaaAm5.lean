/-
  THE OPERATIONS, ONE BY ONE (2): the table of types; new objects; pointers; loads and stores.
-/
import Derived.Test.YthfeeaifddppoaaAm4
namespace Go.AM
open Go

inductive TK where
  | bool | int (k : IntKind) | str | pt (e : TypeId) | sl (e : TypeId) | mp (k e : TypeId) | fn
  | st (fs : List (Nat × TypeId))
  deriving DecidableEq, Inhabited
structure TI where
  k : TK
  size : Nat
  bytes : Nat
  zero : List C
  deriving Inhabited
abbrev TT := List (Option TI)

def checkC : C → Value → Bool
  | .int k n, .int k' n' => k == k' && n == n'
  | .bool b, .bool b' => b == b'
  | .str s, .string t => s == t.data.toList
  | .nl, .slice none 0 0 => true
  | .np, .pointer none => true
  | .zv 0, .map none => true
  | .zv 1, .nilFunc => true
  | .zv 2, .nilIface => true
  | _, _ => false
def checkL : List C → List Value → Bool
  | [], [] => true
  | c :: cs, v :: vs => checkC c v && checkL cs vs
  | _, _ => false
def TK.fits : TK → TypeDesc → Bool
  | .bool, .bool => true
  | .int k, .int k' => k == k'
  | .str, .string => true
  | .pt e, .pointer e' => e == e'
  | .sl e, .slice e' => e == e'
  | .mp k e, .map k' e' => k == k' && e == e'
  | .fn, .func _ _ _ => true
  | .st fs, .struct fields => fs == fields.toList.map fun f => (f.offset, f.type)
  | _, _ => false
def TK.agg : TK → Bool
  | .st _ => true
  | _ => false
def TI.check (P : Program) (t : TypeId) (i : TI) : Bool :=
  match P.info? t, P.underlying t with
  | some inf, some d => (inf.size == i.size && (i.zero.length == i.size && (i.k.agg || i.size == 1))) && inf.bytes == i.bytes && i.k.fits d &&
      (match inf.zero with | some z => checkL i.zero z.cells.toList && (match i.k.agg, z with | true, .agg _ => true | true, _ => false | false, .agg _ => false | false, _ => true) | none => false)
  | _, _ => false
def TT.check (P : Program) (T : TT) : Bool := T.zipIdx.all fun (i, t) => match i with | some i => i.check P t | none => true

theorem checkC_rep {S : Sto} {c : C} {v : Value} (h : checkC c v = true) : Rep S c v := by
  unfold checkC at h
  split at h <;> simp_all [Rep, zval]
theorem checkL_rep {S : Sto} : ∀ {c : List C} {v : List Value}, checkL c v = true → RepL S c v
  | [], [], _ => by simp [RepL]
  | c :: cs, v :: vs, h => by
    simp only [checkL, Bool.and_eq_true] at h
    simp only [RepL]
    exact ⟨v, vs, rfl, checkC_rep h.1, checkL_rep h.2⟩
  | [], _ :: _, h => by simp [checkL] at h
  | _ :: _, [], h => by simp [checkL] at h

/-- The table tells what the program says of its types. -/
def Tok (P : Program) (T : TT) : Prop := TT.check P T = true

structure TIok (P : Program) (t : TypeId) (i : TI) : Prop where
  ex : ∃ inf d z, P.info? t = some inf ∧ P.underlying t = some d ∧ inf.size = i.size ∧ inf.bytes = i.bytes ∧ i.k.fits d = true ∧ inf.zero = some z ∧ checkL i.zero z.cells.toList = true ∧ (z = if i.k.agg then .agg z.cells else z) ∧ (i.k.agg = false → ∃ u, z.cells = #[u] ∧ z = u)
  len : i.zero.length = i.size
  one : i.k.agg = false → i.size = 1

theorem Tok.get {P : Program} {T : TT} (h : Tok P T) {t : TypeId} {i : TI} (hi : T[t]? = some (some i)) : TIok P t i := by
  unfold Tok TT.check at h
  have := (List.all_eq_true.1 h) (some i, t) (by
    rw [List.mem_iff_getElem?]
    exact ⟨t, by simp [List.getElem?_zipIdx, hi]⟩)
  simp only [TI.check] at this
  split at this
  · rename_i inf d h1 h2
    simp only [Bool.and_eq_true, beq_iff_eq] at this
    obtain ⟨⟨⟨⟨h3, hl, ho⟩, h4⟩, h5⟩, h6⟩ := this
    split at h6
    · rename_i z hz
      simp only [Bool.and_eq_true] at h6
      obtain ⟨h6, h7⟩ := h6
      refine ⟨⟨inf, d, z, h1, h2, h3, h4, h5, hz, h6, ?_, ?_⟩, hl, fun hk => by simpa [hk] using ho⟩
      · cases hk : i.k.agg with
        | false => simp
        | true =>
          cases z <;> simp_all [Value.cells]
      · intro hk
        cases z <;> simp_all [Value.cells]
    · cases h6
  · cases this

theorem TIok.size_run {P : Program} {t : TypeId} {i : TI} (h : TIok P t i) (w : World) : (sizeOf t).run P w = .ok i.size w := by
  obtain ⟨inf, d, z, h1, h2, h3, h4, h5, h6, h7, h8⟩ := h.ex
  simp [sizeOf, typeInfo, h1, h3]
theorem TIok.zero_run {P : Program} {t : TypeId} {i : TI} (h : TIok P t i) : ∃ z, (∀ w : World, (zeroValue t).run P w = .ok z w) ∧ (∀ S, RepL S i.zero z.cells.toList) ∧ (z = if i.k.agg then .agg z.cells else z) ∧ (i.k.agg = false → ∃ u, z.cells = #[u] ∧ z = u) := by
  obtain ⟨inf, d, z, h1, h2, h3, h4, h5, h6, h7, h8⟩ := h.ex
  exact ⟨z, fun w => by simp [zeroValue, typeInfo, h1, h6], fun S => checkL_rep h7, h8⟩
theorem TIok.agg_run {P : Program} {t : TypeId} {i : TI} (h : TIok P t i) (w : World) : (isAgg t).run P w = .ok i.k.agg w := by
  obtain ⟨inf, d, z, h1, h2, h3, h4, h5, h6, h7, h8⟩ := h.ex
  unfold isAgg
  rw [Sem.run_bind, run_underlying h2 w]
  simp only [Result.andThen_ok]
  cases hk : i.k <;> rw [hk] at h5 <;> cases d <;> simp [TK.fits] at h5 <;> rfl
theorem TIok.slice {P : Program} {t e : TypeId} {i : TI} (h : TIok P t i) (hk : i.k = .sl e) : P.underlying t = some (.slice e) := by
  obtain ⟨inf, d, z, h1, h2, h3, h4, h5, h6, h7, h8⟩ := h.ex
  rw [hk] at h5
  cases d <;> simp [TK.fits] at h5
  rw [h2, h5]
theorem TIok.str {P : Program} {t : TypeId} {i : TI} (h : TIok P t i) (hk : i.k = .str) : P.underlying t = some .string := by
  obtain ⟨inf, d, z, h1, h2, h3, h4, h5, h6, h7, h8⟩ := h.ex
  rw [hk] at h5
  cases d <;> simp [TK.fits] at h5
  rw [h2]
theorem TIok.int {P : Program} {t : TypeId} {k : IntKind} {i : TI} (h : TIok P t i) (hk : i.k = .int k) : P.underlying t = some (.int k) := by
  obtain ⟨inf, d, z, h1, h2, h3, h4, h5, h6, h7, h8⟩ := h.ex
  rw [hk] at h5
  cases d <;> simp [TK.fits] at h5
  rw [h2, h5]
theorem TIok.bool {P : Program} {t : TypeId} {i : TI} (h : TIok P t i) (hk : i.k = .bool) : P.underlying t = some .bool := by
  obtain ⟨inf, d, z, h1, h2, h3, h4, h5, h6, h7, h8⟩ := h.ex
  rw [hk] at h5
  cases d <;> simp [TK.fits] at h5
  rw [h2]
theorem TIok.ptr {P : Program} {t e : TypeId} {i : TI} (h : TIok P t i) (hk : i.k = .pt e) : P.underlying t = some (.pointer e) := by
  obtain ⟨inf, d, z, h1, h2, h3, h4, h5, h6, h7, h8⟩ := h.ex
  rw [hk] at h5
  cases d <;> simp [TK.fits] at h5
  rw [h2, h5]
theorem TIok.map {P : Program} {t k e : TypeId} {i : TI} (h : TIok P t i) (hk : i.k = .mp k e) : P.underlying t = some (.map k e) := by
  obtain ⟨inf, d, z, h1, h2, h3, h4, h5, h6, h7, h8⟩ := h.ex
  rw [hk] at h5
  cases d <;> simp [TK.fits] at h5
  rw [h2, h5.1, h5.2]
theorem TIok.struct {P : Program} {t : TypeId} {fs : List (Nat × TypeId)} {i : TI} (h : TIok P t i) (hk : i.k = .st fs) : ∃ fields, P.underlying t = some (.struct fields) ∧ fs = fields.toList.map fun f => (f.offset, f.type) := by
  obtain ⟨inf, d, z, h1, h2, h3, h4, h5, h6, h7, h8⟩ := h.ex
  rw [hk] at h5
  cases d <;> simp [TK.fits] at h5
  exact ⟨_, h2, h5⟩
theorem TIok.info {P : Program} {t : TypeId} {i : TI} (h : TIok P t i) : (P.info? t).map (·.size) = some i.size := by
  obtain ⟨inf, d, z, h1, h2, h3, h4, h5, h6, h7, h8⟩ := h.ex
  simp [h1, h3]

/-! ### Cells of values -/
theorem RRelL.length {S : Sto} {μ : Mu} {H : Heap} : ∀ {c : List R} {v : List Value}, RRelL S μ H c v → v.length = c.length
  | [], _, k => by simp only [RRelL] at k; subst k; rfl
  | _ :: cs, _, k => by
    simp only [RRelL] at k
    obtain ⟨v, vs', rfl, _, h⟩ := k
    simp [RRelL.length h]
theorem RRelL.get {S : Sto} {μ : Mu} {H : Heap} : ∀ {c : List R} {v : List Value}, RRelL S μ H c v → ∀ (i : Nat) (x : R), c[i]? = some x → ∃ u, v[i]? = some u ∧ RRel S μ H x u
  | [], _, _, i, x, h => by simp at h
  | c :: cs, _, k, i, x, h => by
    simp only [RRelL] at k
    obtain ⟨v, vs', rfl, h1, h2⟩ := k
    cases i with
    | zero => simp at h; subst h; exact ⟨v, rfl, h1⟩
    | succ i => simp at h; simpa using h2.get i x h
theorem RRelL.append {S : Sto} {μ : Mu} {H : Heap} : ∀ {a : List R} {x : List Value} {b : List R} {y : List Value}, RRelL S μ H a x → RRelL S μ H b y → RRelL S μ H (a ++ b) (x ++ y)
  | [], _, _, _, h, k => by simp only [RRelL] at h; subst h; simpa using k
  | _ :: _, _, _, _, h, k => by
    simp only [RRelL, List.cons_append] at h ⊢
    obtain ⟨v, vs', rfl, h1, h2⟩ := h
    exact ⟨v, vs' ++ _, rfl, h1, h2.append k⟩
theorem RRelL.take {S : Sto} {μ : Mu} {H : Heap} : ∀ {a : List R} {x : List Value} (n : Nat), RRelL S μ H a x → RRelL S μ H (a.take n) (x.take n)
  | _, _, 0, _ => by simp [RRelL]
  | [], _, n + 1, h => by simp only [RRelL] at h; subst h; simp [RRelL]
  | _ :: _, _, n + 1, h => by
    simp only [RRelL, List.take_succ_cons] at h ⊢
    obtain ⟨v, vs', rfl, h1, h2⟩ := h
    exact ⟨v, vs'.take n, by simp, h1, h2.take n⟩
theorem RRelL.drop {S : Sto} {μ : Mu} {H : Heap} : ∀ {a : List R} {x : List Value} (n : Nat), RRelL S μ H a x → RRelL S μ H (a.drop n) (x.drop n)
  | _, _, 0, h => by simpa using h
  | [], _, n + 1, h => by simp only [RRelL] at h; subst h; simp [RRelL]
  | _ :: _, _, n + 1, h => by
    simp only [RRelL, List.drop_succ_cons] at h ⊢
    obtain ⟨v, vs', rfl, h1, h2⟩ := h
    simpa using h2.drop n
theorem RepL.toR {S : Sto} {μ : Mu} {H : Heap} : ∀ {c : List C} {v : List Value}, RepL S c v → RRelL S μ H (c.map R.c) v
  | [], _, k => by simp only [RepL] at k; subst k; simp [RRelL]
  | c :: cs, _, k => by
    simp only [RepL] at k
    obtain ⟨v, vs', rfl, h1, h2⟩ := k
    simp only [List.map_cons, RRelL]
    exact ⟨v, vs', rfl, by simpa [RRel] using h1, h2.toR⟩

def pureL : List R → Option (List C)
  | [] => some []
  | .c x :: l => match pureL l with | some l' => some (x :: l') | none => none
  | _ :: _ => none
theorem pureL_eq : ∀ {rs : List R} {l : List C}, pureL rs = some l → rs = l.map R.c
  | [], l, h => by simp [pureL] at h; subst h; rfl
  | .c x :: rs, l, h => by
    simp only [pureL] at h
    split at h
    · rename_i l' hl
      cases h
      simp [pureL_eq hl]
    · cases h
  | .hs .. :: _, _, h => by simp [pureL] at h
  | .tl .. :: _, _, h => by simp [pureL] at h
  | .vp .. :: _, _, h => by simp [pureL] at h
  | .ep .. :: _, _, h => by simp [pureL] at h
  | .mr .. :: _, _, h => by simp [pureL] at h
  | .clo .. :: _, _, h => by simp [pureL] at h
  | .mth .. :: _, _, h => by simp [pureL] at h
  | .yl .. :: _, _, h => by simp [pureL] at h
  | .ra .. :: _, _, h => by simp [pureL] at h
theorem RRelL.pure {S : Sto} {μ : Mu} {H : Heap} : ∀ {l : List C} {v : List Value}, RRelL S μ H (l.map R.c) v → RepL S l v
  | [], _, k => by simp only [List.map_nil, RRelL] at k; subst k; simp [RepL]
  | c :: cs, _, k => by
    simp only [List.map_cons, RRelL] at k
    obtain ⟨v, vs', rfl, h1, h2⟩ := k
    simp only [RepL]
    exact ⟨v, vs', rfl, by simpa [RRel] using h1, h2.pure⟩

/-- Cells as an aggregate's value. -/
def aggV (rs : List R) : V := match pureL rs with | some l => .pa l | none => .ma rs
theorem aggV_rel {S : Sto} {μ : Mu} {H : Heap} {rs : List R} {vs : List Value} (h : RRelL S μ H rs vs) : VRel S μ H (aggV rs) (.agg ⟨vs⟩) := by
  unfold aggV
  split
  · rename_i l hl
    rw [pureL_eq hl] at h
    simp only [VRel]
    exact ⟨vs, rfl, h.pure⟩
  · simp only [VRel]
    exact ⟨vs, rfl, h⟩

/-- The cells of a value. -/
def cellsV : V → Option (List R)
  | .one r => some [r]
  | .pa l => some (l.map R.c)
  | .ma l => some l
  | .tup _ => none

/-- No value of one cell is an aggregate. -/
theorem Rep.one {S : Sto} : ∀ {c : C} {v : Value}, Rep S c v → v.cells = #[v] ∧ v.oneCell' = true := by
  intro c v h
  cases c <;> simp only [Rep] at h
  case zv k => subst h; unfold zval; split <;> exact ⟨rfl, rfl⟩
  case sl => obtain ⟨a, len, cap, rfl, _⟩ := h; exact ⟨rfl, rfl⟩
  case sn => obtain ⟨b, o, len, cap, rfl, _⟩ := h; exact ⟨rfl, rfl⟩
  case pt => obtain ⟨b, o, rfl, _⟩ := h; exact ⟨rfl, rfl⟩
  case mp => obtain ⟨b, es, clk, rfl, _⟩ := h; exact ⟨rfl, rfl⟩
  all_goals (subst h; exact ⟨rfl, rfl⟩)
theorem RRel.one {S : Sto} {μ : Mu} {H : Heap} : ∀ {r : R} {v : Value}, RRel S μ H r v → v.cells = #[v] ∧ v.oneCell' = true := by
  intro r v h
  cases r <;> simp only [RRel] at h
  case c x => exact h.one
  case hs => obtain ⟨⟨a, l, c, rfl⟩, _⟩ := h; exact ⟨rfl, rfl⟩
  case tl => obtain ⟨⟨a, l, c, rfl⟩, _⟩ := h; exact ⟨rfl, rfl⟩
  case vp => obtain ⟨t, cells, b, c, _, _, rfl⟩ := h; exact ⟨rfl, rfl⟩
  case ep => obtain ⟨⟨a, rfl⟩, _⟩ := h; exact ⟨rfl, rfl⟩
  case mr => obtain ⟨agg, ents, b, c, _, _, rfl⟩ := h; exact ⟨rfl, rfl⟩
  case clo => obtain ⟨vs, rfl, _⟩ := h; exact ⟨rfl, rfl⟩
  case mth => obtain ⟨u, rfl, _⟩ := h; exact ⟨rfl, rfl⟩
  case yl => obtain ⟨st, j, i, e, b, c, _, _, rfl⟩ := h; exact ⟨rfl, rfl⟩
  case ra => obtain ⟨⟨a, l, c, rfl⟩, _⟩ := h; exact ⟨rfl, rfl⟩
theorem RRelL.one {S : Sto} {μ : Mu} {H : Heap} : ∀ {rs : List R} {vs : List Value}, RRelL S μ H rs vs → ∀ v ∈ vs, v.oneCell' = true
  | [], _, h => by simp only [RRelL] at h; subst h; simp
  | _ :: _, _, h => by
    simp only [RRelL] at h
    obtain ⟨v, vs', rfl, h1, h2⟩ := h
    intro u hu
    rcases List.mem_cons.1 hu with rfl | hu
    · exact h1.one.2
    · exact h2.one u hu
theorem cellsV_rel {S : Sto} {μ : Mu} {H : Heap} {x : V} {v : Value} {rs : List R} (h : VRel S μ H x v) (hc : cellsV x = some rs) : RRelL S μ H rs v.cells.toList := by
  cases x <;> simp only [cellsV] at hc
  case one r =>
    cases hc
    simp only [VRel] at h
    rw [h.one.1]
    simp only [RRelL]
    exact ⟨v, [], rfl, h, rfl⟩
  case pa l =>
    cases hc
    simp only [VRel] at h
    obtain ⟨vs, rfl, h⟩ := h
    exact h.toR
  case ma l =>
    cases hc
    simp only [VRel] at h
    obtain ⟨vs, rfl, h⟩ := h
    exact h
  case tup => cases hc
end Go.AM
