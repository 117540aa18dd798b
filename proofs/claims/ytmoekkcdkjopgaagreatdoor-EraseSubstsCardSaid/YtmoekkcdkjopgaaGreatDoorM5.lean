/-
  Texts Ax1, Ax2, Ax3, Ax4, Ax5 in one.
-/
import Derived.Test.YtmoekkcdkjopgaaGreatDoorM4
import Derived.Laws.BytesArg
/- MORE OPERATIONS: slices of plain data and of texts, a text's bytes, min. -/
namespace Go.AM
open Go
/-- A bound that is given, or is not. -/
inductive BndV (st : St) : Option Operand → Nat → Nat → Prop
  | no {m} : BndV st none m m
  | yes {x kk m k} : opv st x = some (I kk ((k : Nat) : Int)) → BndV st (some x) m k
def bndR : Option Operand → List Nat
  | none => []
  | some x => opr x
section
variable {P : Program} {n : Nat} {o : Oper} {st : St} {d : Nat} {T : TT}
theorem BndV.val {G : Ctx} {S : Sto} {μ : Mu} {st' : St} {a : Act} {w : World} {x : Option Operand} {m k : Nat} (h : BndV st x m k) (hs : Sim G n S μ st' a w) (ha : ∀ t ∈ bndR x, st'.e t = st.e t) :
    (x = none ∧ k = m) ∨ ∃ kk, x.map a.eval = some (.int kk ((k : Nat) : Int)) := by
  cases h with
  | no => exact .inl ⟨rfl, rfl⟩
  | @yes x kk _ _ h => exact .inr ⟨kk, by rw [Option.map_some, one_int (opv_rel hs h ha)]⟩
theorem run_bounds {w : World} {b : Bool} {len cap lo hi : Nat} {low high : Option Value} (hl : (low = none ∧ lo = 0) ∨ ∃ kk, low = some (.int kk ((lo : Nat) : Int))) (hh : (high = none ∧ hi = len) ∨ ∃ kk, high = some (.int kk ((hi : Nat) : Int))) (h1 : lo ≤ hi) (h2 : hi ≤ len) (h3 : len ≤ cap) :
    (Instr.sliceBounds b len cap low high none).run P w = .ok (lo, hi, cap) w := by
  have h4 : hi ≤ cap := Nat.le_trans h2 h3
  rcases hl with ⟨rfl, rfl⟩ | ⟨kl, rfl⟩ <;> rcases hh with ⟨rfl, rfl⟩ | ⟨kh, rfl⟩ <;> simp [Instr.sliceBounds, Instr.sliceBound, asIntOf, h1, h4]
/-- A slice of plain data. -/
theorem r_cut {t e : TypeId} {i ei : TI} {x : Operand} {low high : Option Operand} {es lo hi : Nat} {l : List (List C)} (hT : Tok P T) (ho : o.op = .slice t x low high none) (hd : o.dst = some d) (hdn : d < n) (hi' : T[t]? = some (some i)) (hk : i.k = .sl e) (hei : T[e]? = some (some ei)) (hes : ei.size = es)
    (hx : opv st x = some (.one (.c (.sl es l)))) (hlo : BndV st low 0 lo) (hhi : BndV st high l.length hi) (h1 : lo ≤ hi) (h2 : hi ≤ l.length) :
    Step P n o st ⟨opr x ++ bndR low ++ bndR high, []⟩ ⟨some (d, some (.one (.c (.sl es ((l.take hi).drop lo))))), []⟩ := by
  refine Step.value hd hdn fun st' ha G S μ a w hs => ?_
  have hv := opv_rel hs hx fun t ht => ha.1 t (by simp [ht])
  have hl := hlo.val hs fun t ht => ha.1 t (by simp [ht])
  have hh := hhi.val hs fun t ht => ha.1 t (by simp [ht])
  simp only [VRel, RRel, Rep] at hv
  obtain ⟨ad, len, cap, p1, p2, p3, p4, p5, p6, b, of, p7, p8⟩ := hv
  subst p2
  have hb := run_bounds (P := P) (w := w) (b := true) (low := low.map a.eval) (high := high.map a.eval) (len := l.length) (cap := cap) (by rcases hl with ⟨rfl, h⟩ | h; exact .inl ⟨rfl, h⟩; exact .inr h) (by rcases hh with ⟨rfl, h⟩ | h; exact .inl ⟨rfl, h⟩; exact .inr h) h1 h2 p3
  refine ⟨.slice (if cap = lo then ad else ad.map (·.add (lo * ei.size))) (hi - lo) (cap - lo), ?_, ?_⟩
  · have hu := run_underlying ((hT.get hi').slice hk) w
    simp only [execOp, ho, p1, Option.map_none, Sem.run_bind, Instr.sliceAt, hu, Result.andThen_ok, Instr.slice, hb, (hT.get hei).size_run w, Sem.run_pure]
  · simp only [VRel, RRel, Rep]
    have hlen : ((l.take hi).drop lo).length = hi - lo := by simp; omega
    refine ⟨_, _, _, rfl, hlen.symm, by omega, by omega, ?_, ?_, ?_⟩
    · intro e
      have : ad = none := by
        split at e
        · exact e
        · cases ad <;> simp at e; rfl
      obtain ⟨h3, h4⟩ := p5 this
      omega
    · intro y e hcc
      split at e
      · omega
      · cases ad with
        | none => cases e
        | some z =>
          simp at e
          subst e
          have := p6 z rfl (by omega)
          obtain ⟨zb, zo, zs⟩ := z
          simp at this
          subst this
          rw [Addr.add_mid]
    · by_cases hc : cap = lo
      · have : (l.take hi).drop lo = [] := List.eq_nil_of_length_eq_zero (by omega)
        rw [this]
        refine ⟨b, of, fun y e => p7 y (by rwa [if_pos hc] at e), by simp [RepRows]⟩
      · refine ⟨b, of + lo * es, fun y e => ?_, (p8.take hi).drop lo⟩
        rw [if_neg hc] at e
        cases ad with
        | none => cases e
        | some z =>
          simp at e
          subst e
          obtain ⟨h3, h4⟩ := p7 z rfl
          have := p6 z rfl (by omega)
          obtain ⟨zb, zo, zs⟩ := z
          simp at this h3 h4
          subst this h3 h4
          rw [Addr.add_mid, hes]
          exact ⟨rfl, rfl⟩
theorem extract_mk (s : List UInt8) (lo hi : Nat) : (ByteArray.mk ⟨s⟩).extract lo hi = ⟨⟨(s.take hi).drop lo⟩⟩ := by
  apply ByteArray.ext
  simp
  rw [List.drop_take]
/-- A slice of a text. -/
theorem r_scut {t : TypeId} {i : TI} {x : Operand} {low high : Option Operand} {lo hi : Nat} {s : List UInt8} (hT : Tok P T) (ho : o.op = .slice t x low high none) (hd : o.dst = some d) (hdn : d < n) (hi' : T[t]? = some (some i)) (hk : i.k = .str)
    (hx : opv st x = some (Go.AM.T s)) (hlo : BndV st low 0 lo) (hhi : BndV st high s.length hi) (h1 : lo ≤ hi) (h2 : hi ≤ s.length) :
    Step P n o st ⟨opr x ++ bndR low ++ bndR high, []⟩ ⟨some (d, some (Go.AM.T ((s.take hi).drop lo))), []⟩ := by
  refine Step.value hd hdn fun st' ha G S μ a w hs => ?_
  have hv := one_str (opv_rel hs hx fun t ht => ha.1 t (by simp [ht]))
  have hl := hlo.val hs fun t ht => ha.1 t (by simp [ht])
  have hh := hhi.val hs fun t ht => ha.1 t (by simp [ht])
  have hb := run_bounds (P := P) (w := w) (b := false) (low := low.map a.eval) (high := high.map a.eval) (len := s.length) (cap := s.length) (by rcases hl with ⟨rfl, h⟩ | h; exact .inl ⟨rfl, h⟩; exact .inr h) (by rcases hh with ⟨rfl, h⟩ | h; exact .inl ⟨rfl, h⟩; exact .inr h) h1 h2 (Nat.le_refl _)
  refine ⟨.string ⟨⟨(s.take hi).drop lo⟩⟩, ?_, by simp [VRel, RRel, Rep]⟩
  have hu := run_underlying ((hT.get hi').str hk) w
  have hsz : (ByteArray.mk ⟨s⟩).size = s.length := rfl
  simp only [execOp, ho, hv, Option.map_none, Sem.run_bind, Instr.sliceAt, hu, Result.andThen_ok, Instr.slice, hsz, hb, Option.isSome_none, Bool.false_eq_true, if_false, Sem.run_pure, extract_mk]
/-- A text's byte. -/
theorem r_sidx {t : TypeId} {i : TI} {x y : Operand} {s : List UInt8} {kk : IntKind} {m : Int} {k : Nat} {b : UInt8} (hT : Tok P T) (ho : o.op = .index t x y) (hd : o.dst = some d) (hdn : d < n) (hi' : T[t]? = some (some i)) (hk : i.k = .str)
    (hx : opv st x = some (Go.AM.T s)) (hy : opv st y = some (I kk m)) (hm : m = (k : Int)) (hb : s[k]? = some b) : Step P n o st ⟨opr x ++ opr y, []⟩ ⟨some (d, some (I .u8 ((b.toNat : Nat) : Int))), []⟩ := by
  refine Step.value hd hdn fun st' ha G S μ a w hs => ?_
  have hv := one_str (opv_rel hs hx fun t ht => ha.1 t (by simp [ht]))
  have h2 := one_int (opv_rel hs hy fun t ht => ha.1 t (by simp [ht]))
  subst hm
  refine ⟨.int .u8 ((b.toNat : Nat) : Int), ?_, by simp [VRel, RRel, Rep]⟩
  have hu := run_underlying ((hT.get hi').str hk) w
  have hg : (ByteArray.mk ⟨s⟩)[k]? = some b := by
    have hlt := (List.getElem?_eq_some_iff.1 hb).1
    have hsz : (ByteArray.mk ⟨s⟩).size = s.length := rfl
    rw [getElem?_pos (ByteArray.mk ⟨s⟩) k (by rw [hsz]; exact hlt)]
    have := (List.getElem?_eq_some_iff.1 hb).2
    rw [← this]
    rfl
  simp only [execOp, ho, hv, h2, Sem.run_bind, Instr.index, asIntOf, Sem.run_pure, Result.andThen_ok, hu]
  simp [hg]
theorem r_min {t1 t2 : TypeId} {x y : Operand} {k : IntKind} {a b r : Int} (ho : o.op = .call { callee := .builtin .min, args := #[x, y], argTypes := #[t1, t2] }) (hd : o.dst = some d) (hdn : d < n) (hx : opv st x = some (I k a)) (hy : opv st y = some (I k b)) (hr : (if b < a then b else a) = r) :
    Step P n o st ⟨opr x ++ opr y, []⟩ ⟨some (d, some (I k r)), []⟩ := by
  refine Step.value hd hdn fun st' ha G S μ ac w hs => ?_
  have h1 := one_int (opv_rel hs hx fun t h => ha.1 t (by simp [h]))
  have h2 := one_int (opv_rel hs hy fun t h => ha.1 t (by simp [h]))
  refine ⟨.int k r, ?_, by simp [VRel, RRel, Rep]⟩
  simp only [execOp, ho, resolve, List.map_toArray, List.map_cons, List.map_nil, h1, h2, Sem.run_bind, Sem.run_pure, Result.andThen_ok, invoke, builtin, Builtin.min_, List.foldlM_cons, List.foldlM_nil, Builtin.min2, hr]
end
end Go.AM

/- ARRAYS WHOSE CELLS REFER TO OBJECTS ('rarr'): literals, elements, fields, loads, len, append. -/
namespace Go.AM
open Go
section
variable {P : Program} {n : Nat} {o : Oper} {st : St} {d : Nat} {T : TT}
theorem ORel.rarr {S : Sto} {μ : Mu} {H : Heap} {w : World} {id : Nat} {te es : Nat} {elems : List (List R)} (h : ORel S μ H w id (.rarr te es elems)) {b base cap : Nat} (hm : μ id = some (b, base, cap)) :
    (∀ r ∈ elems, r.length = es) ∧ ∃ vs, w.heap[b]? = some (.cells ⟨vs⟩ te (0, 0)) ∧ base + cap * es ≤ vs.length ∧ elems.length ≤ cap ∧ cap ≤ maxLen ∧ RRelL S μ H elems.flatten ((vs.drop base).take (elems.length * es)) ∧ (∀ o, base ≤ o → S.cell b o = none) := by
  obtain ⟨h0, h1 | ⟨b', base', cap', vs, h1, h2, h3, h4, h5, h6, h7⟩⟩ := h
  · rw [h1.1] at hm; cases hm
  · rw [h1] at hm; cases hm
    exact ⟨h0, vs, h2, h3, h4, h5, h6, h7⟩
/-- The rows of a literal that refers to objects, in order. -/
def rowsR (st : St) (es : Nat) : Nat → List (Nat × Operand) → Option (List (List R))
  | _, [] => some []
  | k, (i, x) :: ps => bif Nat.beq i k then (opv st x).bind fun v => (cellsV v).bind fun rs => bif Nat.beq rs.length es then (rowsR st es (k + 1) ps).bind fun l => some (rs :: l) else none else none
theorem rowsR_len {es : Nat} : ∀ {ps : List (Nat × Operand)} {k : Nat} {l : List (List R)}, rowsR st es k ps = some l → l.length = ps.length ∧ ∀ r ∈ l, r.length = es
  | [], k, l, h => by simp [rowsR] at h; subst h; simp
  | (i, x) :: ps, k, l, h => by
    simp only [rowsR] at h
    cases hi : Nat.beq i k with
    | false => rw [hi] at h; cases h
    | true =>
      rw [hi] at h
      simp only [cond_true, Option.bind_eq_some_iff] at h
      obtain ⟨v, hv, rs, hrs, h⟩ := h
      cases hl : Nat.beq rs.length es with
      | false => rw [hl] at h; cases h
      | true =>
        rw [hl] at h
        simp only [cond_true, Option.bind_eq_some_iff] at h
        obtain ⟨l', hl', h⟩ := h
        cases h
        obtain ⟨h1, h2⟩ := rowsR_len hl'
        refine ⟨by simp [h1], fun r hr => ?_⟩
        rcases List.mem_cons.1 hr with rfl | hr
        · exact Nat.eq_of_beq_eq_true hl
        · exact h2 r hr
theorem rowsR_fill {G : Ctx} {S : Sto} {μ : Mu} {st' : St} {a : Act} {w : World} (hs : Sim G n S μ st' a w) {es : Nat} : ∀ {k : Nat} {ps : List (Nat × Operand)} {rows : List (List R)}, rowsR st es k ps = some rows → (∀ t ∈ partsR ps, st'.e t = st.e t) →
    ∀ (cells : Array Value), cells.size = (k + ps.length) * es → ∃ out : Array Value, Instr.fill (fun i => some (i * es, es)) cells (ps.map fun (i, x) => (i, a.eval x)) = some out ∧ out.size = cells.size ∧
      ∃ us, RRelL S μ st'.h rows.flatten us ∧ out.toList = cells.toList.take (k * es) ++ us := by
  intro k ps
  induction ps generalizing k with
  | nil =>
    intro rows h _ cells hc
    simp only [rowsR] at h
    cases h
    refine ⟨cells, rfl, rfl, [], by simp [RRelL], ?_⟩
    rw [List.append_nil, List.take_of_length_le]
    simp at hc
    simp [hc]
  | cons p ps ih =>
    obtain ⟨i, x⟩ := p
    intro rows h ha cells hsz
    simp only [rowsR] at h
    cases hi : Nat.beq i k with
    | false => rw [hi] at h; cases h
    | true =>
      rw [hi] at h
      have hik := Nat.eq_of_beq_eq_true hi
      subst hik
      simp only [cond_true, Option.bind_eq_some_iff] at h
      obtain ⟨v, hv, rs, hrs, h⟩ := h
      cases hl : Nat.beq rs.length es with
      | false => rw [hl] at h; cases h
      | true =>
        rw [hl] at h
        simp only [cond_true, Option.bind_eq_some_iff] at h
        obtain ⟨l', hl'', h⟩ := h
        cases h
        have hl' := Nat.eq_of_beq_eq_true hl
        have hrel := cellsV_rel (opv_rel hs hv fun t ht => ha t (by simp [partsR, ht])) hrs
        have hvl := hrel.length
        simp only [Array.length_toList] at hvl
        simp only [List.length_cons] at hsz
        have hke : (i + (ps.length + 1)) * es = i * es + es + ps.length * es := by
          rw [Nat.add_mul, Nat.add_mul]; omega
        have hset := foldl_set (i * es) (a.eval x).cells.toList 0 cells (by simp only [Array.length_toList]; omega)
        have hsl : (splice cells.toList (i * es) (a.eval x).cells.toList).length = cells.size := by
          unfold splice
          simp
          omega
        obtain ⟨out, h1, h2, us, h3, h4⟩ := ih hl'' (fun t ht => ha t (by simp [partsR, ht])) ⟨splice cells.toList (i * es) (a.eval x).cells.toList⟩ (by
          simp only [List.size_toArray, hsl, hsz]
          congr 1
          omega)
        refine ⟨out, ?_, by rw [h2]; simpa using hsl, (a.eval x).cells.toList ++ us, ?_, ?_⟩
        · simp only [List.map_cons, Instr.fill]
          have hcond : ((a.eval x).cells.size ≠ es || decide (i * es + (a.eval x).cells.size > cells.size)) = false := by
            simp only [Bool.or_eq_false_iff, decide_eq_false_iff_not]
            exact ⟨by simp; omega, by omega⟩
          simp only [hcond, Bool.false_eq_true, if_false]
          have hset' : ((a.eval x).cells.zipIdx.foldl (fun cs (x : Value × Nat) => cs.setIfInBounds (i * es + x.2) x.1) cells) = ⟨splice cells.toList (i * es) (a.eval x).cells.toList⟩ := by
            rw [← Array.foldl_toList, Array.toList_zipIdx]
            simpa using hset
          rw [← h1]
          congr 1
        · rw [List.flatten_cons]; exact hrel.append h3
        · rw [h4]
          have : (splice cells.toList (i * es) (a.eval x).cells.toList).take ((i + 1) * es) = cells.toList.take (i * es) ++ (a.eval x).cells.toList := by
            unfold splice
            apply List.take_left'
            simp
            rw [Nat.add_mul]
            omega
          show (splice cells.toList (i * es) (a.eval x).cells.toList).take ((i + 1) * es) ++ us = _
          rw [this, List.append_assoc]
/-- '[]T{..}', of rows that refer to objects. -/
theorem r_sliceR {t e : TypeId} {i ei : TI} {len : Nat} {parts : Array (Nat × Operand)} {rows : List (List R)} (id : Nat) (hT : Tok P T) (ho : o.op = .buildSlice t len parts) (hd : o.dst = some d) (hdn : d < n) (hi : T[t]? = some (some i)) (hk : i.k = .sl e) (hei : T[e]? = some (some ei))
    (hrows : rowsR st ei.size 0 parts.toList = some rows) (hlen : Nat.beq len parts.size = true) (hsmall : Nat.ble (len * ei.size) 16777216 = true) (hsm1 : Nat.ble len 16777216 = true) (hid : st.h id = none) :
    Step P n o st ⟨partsR parts.toList, [id]⟩ ⟨some (d, some (.one (.ra id 0 len len))), [(id, some (.rarr e ei.size rows))]⟩ := by
  refine Step.new hd hdn hid (by simp) fun st' ha hid' G S μ a w hs => ?_
  have hlen' := Nat.eq_of_beq_eq_true hlen
  have hsm := Nat.le_of_ble_eq_true hsmall
  obtain ⟨z, hz, hzr, _⟩ := (hT.get hei).zero_run
  have hzl := (hzr S).length
  rw [(hT.get hei).len] at hzl
  simp only [Array.length_toList] at hzl
  obtain ⟨hrl, hrw⟩ := rowsR_len hrows
  simp only [Array.length_toList] at hrl
  have key : ∀ (cells : Array Value), cells.size = len * ei.size → ∃ out : Array Value, Instr.fill (fun i => some (i * ei.size, ei.size)) cells (parts.map fun (i, x) => (i, a.eval x)).toList = some out ∧ out.size = len * ei.size ∧ RRelL S μ st'.h rows.flatten out.toList := by
    intro cells hc
    obtain ⟨out, h1, h2, us, h3, h4⟩ := rowsR_fill hs hrows ha.1 cells (by rw [hc, hlen']; simp)
    refine ⟨out, by rw [← h1]; simp, by rw [h2, hc], ?_⟩
    simp at h4
    rw [h4]; exact h3
  have hrun : ∃ out : Array Value, (Instr.buildSlice t len (parts.map fun (i, x) => (i, a.eval x))).run P w = .ok (.slice (some ⟨w.heap.size, 0, none⟩) len len) (w.alloc (.cells out e)) ∧ out.size = len * ei.size ∧ RRelL S μ st'.h rows.flatten out.toList := by
    by_cases h0 : len * ei.size = 0
    · obtain ⟨out, h1, h2, h3⟩ := key ((Array.range (len * ei.size)).map ((#[] : Array Value)[· % (#[] : Array Value).size]!)) (by simp)
      refine ⟨out, ?_, h2, h3⟩
      have hgt : ¬ len * ei.size > 2 ^ 24 := by omega
      simp only [Instr.buildSlice, Sem.run_bind, run_underlying ((hT.get hi).slice hk) w, Result.andThen_ok, (hT.get hei).size_run w]
      rw [if_neg hgt, if_pos h0]
      simp only [Sem.run_bind, Result.andThen_ok, Sem.run_pure, h1, run_newRow]
    · obtain ⟨out, h1, h2, h3⟩ := key ((Array.range (len * ei.size)).map (z.cells[· % z.cells.size]!)) (by simp)
      refine ⟨out, ?_, h2, h3⟩
      have hgt : ¬ len * ei.size > 2 ^ 24 := by omega
      simp only [Instr.buildSlice, Sem.run_bind, run_underlying ((hT.get hi).slice hk) w, Result.andThen_ok, (hT.get hei).size_run w]
      rw [if_neg hgt, if_neg h0]
      simp only [Sem.run_bind, hz w, Result.andThen_ok, Sem.run_pure, h1, run_newRow]
  obtain ⟨out, h1, h2, h3⟩ := hrun
  have hlm : len ≤ maxLen := by
    have := Nat.le_of_ble_eq_true hsm1
    unfold maxLen
    omega
  have hrl' : rows.length = len := by omega
  refine ⟨_, _, .slice (some ⟨w.heap.size, 0, none⟩) len len, (0, len), ?_, WChg.alloc w (.cells out e), ?_, ?_⟩
  · simp only [execOp, ho, Sem.run_bind, h1, Result.andThen_ok, Sem.run_pure]
  · refine ⟨hrw, .inr ⟨w.heap.size, 0, len, out.toList, upd_same _ _ _, heap_alloc_new w _, by simp [h2], by omega, hlm, ?_, fun o _ => no_cell hs.inv o⟩⟩
    simp only [List.drop_zero]
    rw [List.take_of_length_le (by simp [h2, hrl'])]
    exact RRelL.evolve (evolve_new hid' _ _) _ _ h3
  · simp only [VRel, RRel]
    exact ⟨⟨_, _, _, rfl⟩, .inr ⟨e, ei.size, rows, upd_same _ _ _, by omega, fun _ => ⟨by omega, .inr ⟨w.heap.size, 0, len, upd_same _ _ _, by simp⟩⟩⟩⟩
theorem r_index_ra {t e : TypeId} {i ei : TI} {x y : Operand} {te es k id off len sz : Nat} {kk : IntKind} {m : Int} {elems : List (List R)} (hT : Tok P T) (ho : o.op = .indexAddr t x y) (hd : o.dst = some d) (hdn : d < n) (hi : T[t]? = some (some i)) (hk : i.k = .sl e) (hei : T[e]? = some (some ei)) (hes : ei.size = es)
    (hx : opv st x = some (.one (.ra id off len sz))) (hh : st.h id = some (.rarr te es elems)) (hsz : sz = elems.length) (hy : opv st y = some (I kk m)) (hm : m = (k : Int)) (hlt : k < len) : Step P n o st ⟨opr x ++ opr y, [id]⟩ ⟨some (d, some (.one (.rp id (off + k) 0 sz))), []⟩ := by
  refine Step.value hd hdn fun st' ha G S μ a w hs => ?_
  have hv := opv_rel hs hx fun t ht => ha.1 t (by simp [ht])
  have hv2 := one_int (opv_rel hs hy fun t ht => ha.1 t (by simp [ht]))
  have hh' : st'.h id = some (.rarr te es elems) := by rw [ha.2 id (by simp), hh]
  simp only [VRel, RRel] at hv
  obtain ⟨_, hv | ⟨te', es', elems', h1, h2, h3⟩⟩ := hv
  · rw [hh'] at hv; cases hv
  rw [hh'] at h1; cases h1
  obtain ⟨h4, ⟨h5, h6, h7⟩ | ⟨b, base, cap, h5, h6⟩⟩ := h3 hsz
  · subst h6; simp at hsz; omega
  subst hm
  refine ⟨.pointer (some ⟨b, base + (off + k) * es + 0, none⟩), ?_, ?_⟩
  · simp only [execOp, ho, h6, hv2, Sem.run_bind, run_indexAt hT hi hk hei w b (base + off * es) len _ k kk hlt, Result.andThen_ok, Sem.run_pure, hes, Nat.add_zero]
    rw [show base + off * es + k * es = base + (off + k) * es by rw [Nat.add_mul]; omega]
  · simp only [VRel, RRel]
    exact ⟨⟨_, rfl⟩, .inr ⟨te, es, elems, hh', h2, fun _ => ⟨by omega, b, base, cap, h5, rfl⟩⟩⟩
theorem r_field_rp {t ft : TypeId} {i fi : TI} {fs : List (Nat × TypeId)} {f foff : Nat} {x : Operand} {id k fo sz : Nat} (hT : Tok P T) (ho : o.op = .fieldAddr t x f) (hd : o.dst = some d) (hdn : d < n) (hi : T[t]? = some (some i)) (hk : i.k = .st fs) (hf : fs[f]? = some (foff, ft)) (hfi : T[ft]? = some (some fi)) (hz : fi.size ≠ 0)
    {te es : Nat} {elems : List (List R)} (hx : opv st x = some (.one (.rp id k fo sz))) (hh : st.h id = some (.rarr te es elems)) (hsz : sz = elems.length) : Step P n o st ⟨opr x, [id]⟩ ⟨some (d, some (.one (.rp id k (fo + foff) sz))), []⟩ := by
  refine Step.value hd hdn fun st' ha G S μ a w hs => ?_
  have hv := opv_rel hs hx ha.1
  have hh' : st'.h id = some (.rarr te es elems) := by rw [ha.2 id (by simp), hh]
  simp only [VRel, RRel] at hv
  obtain ⟨_, hv | ⟨te', es', elems', h1, h2, h3⟩⟩ := hv
  · rw [hh'] at hv; cases hv
  rw [hh'] at h1; cases h1
  obtain ⟨h4, b, base, cap, h5, h6⟩ := h3 hsz
  refine ⟨.pointer (some ⟨b, base + k * es + fo + foff, none⟩), ?_, ?_⟩
  · simp only [execOp, ho, h6, Sem.run_bind, run_fieldAt hT hi hk hf hfi hz, Result.andThen_ok, Sem.run_pure]
  · simp only [VRel, RRel]
    exact ⟨⟨_, rfl⟩, .inr ⟨te, es, elems, hh', h2, fun _ => ⟨h4, b, base, cap, h5, by rw [Nat.add_assoc]⟩⟩⟩
theorem r_len_ra {t e : TypeId} {i : TI} {x : Operand} {te es id off len sz : Nat} {elems : List (List R)} (hT : Tok P T) (ho : o.op = .call { callee := .builtin .len, args := #[x], argTypes := #[t] }) (hd : o.dst = some d) (hdn : d < n) (hi : T[t]? = some (some i)) (hk : i.k = .sl e)
    (hx : opv st x = some (.one (.ra id off len sz))) (hh : st.h id = some (.rarr te es elems)) (hsz : sz = elems.length) : Step P n o st ⟨opr x, [id]⟩ ⟨some (d, some (I .i64 (len : Int))), []⟩ := by
  refine Step.value hd hdn fun st' ha G S μ a w hs => ?_
  have hv := opv_rel hs hx ha.1
  have hh' : st'.h id = some (.rarr te es elems) := by rw [ha.2 id (by simp), hh]
  simp only [VRel, RRel] at hv
  obtain ⟨_, hv | ⟨te', es', elems', h1, h2, h3⟩⟩ := hv
  · rw [hh'] at hv; cases hv
  rw [hh'] at h1; cases h1
  obtain ⟨h4, ⟨h5, h6, h7⟩ | ⟨b, base, cap, h5, h6⟩⟩ := h3 hsz
  · have hl : len = 0 := by subst h6; simp at hsz; omega
    subst hl
    refine ⟨goInt 0, run_len ho h7 ?_, by simp [VRel, RRel, Rep, goInt]⟩
    simp [Builtin.len_, run_underlying ((hT.get hi).slice hk) w]
  · refine ⟨goInt len, run_len ho h6 ?_, by simp [VRel, RRel, Rep, goInt]⟩
    simp [Builtin.len_, run_underlying ((hT.get hi).slice hk) w]
theorem row_vsR {S : Sto} {μ : Mu} {H : Heap} {es base : Nat} {elems : List (List R)} {vs : List Value} (h0 : ∀ r ∈ elems, r.length = es) (h : RRelL S μ H elems.flatten ((vs.drop base).take (elems.length * es))) {k : Nat} {r : List R} (hk : elems[k]? = some r) :
    RRelL S μ H r ((vs.drop (base + k * es)).take es) := by
  have hlt : k < elems.length := (List.getElem?_eq_some_iff.1 hk).1
  have hmul : (k + 1) * es ≤ elems.length * es := Nat.mul_le_mul_right _ hlt
  rw [Nat.add_mul] at hmul
  have h1 := (h.drop (k * es)).take es
  rw [take_flat h0 k r hk] at h1
  rw [List.drop_take, List.take_take, List.drop_drop, Nat.min_eq_left (by omega)] at h1
  exact h1
theorem r_load_rp {t te es : Nat} {i : TI} {x : Operand} {id k fo sz : Nat} {elems : List (List R)} {r : List R} {y : V} (hT : Tok P T) (ho : o.op = .load t x) (hd : o.dst = some d) (hdn : d < n) (hi : T[t]? = some (some i)) (hx : opv st x = some (.one (.rp id k fo sz)))
    (hh : st.h id = some (.rarr te es elems)) (hsz : sz = elems.length) (hr : elems[k]? = some r) (hl : fo + i.size ≤ es) (hy : loadV i ((r.drop fo).take i.size) = some y) : Step P n o st ⟨opr x, [id]⟩ ⟨some (d, some y), []⟩ := by
  refine Step.value hd hdn fun st' ha G S μ a w hs => ?_
  have hv := opv_rel hs hx ha.1
  have hh' : st'.h id = some (.rarr te es elems) := by rw [ha.2 id (by simp), hh]
  simp only [VRel, RRel] at hv
  obtain ⟨_, hv | ⟨te', es', elems', h1, h2, h3⟩⟩ := hv
  · rw [hh'] at hv; cases hv
  rw [hh'] at h1; cases h1
  obtain ⟨h4, b, base, cap, h5, h6⟩ := h3 hsz
  obtain ⟨g0, vs, g1, g2, g3, g4, g5, g6⟩ := (hs.inv.obj id _ hh').rarr h5
  have hrow := row_vsR g0 g5 hr
  have hrow2 := (hrow.drop fo).take i.size
  rw [List.drop_take, List.take_take, List.drop_drop, Nat.min_eq_left (by omega)] at hrow2
  have hlt : k < elems.length := (List.getElem?_eq_some_iff.1 hr).1
  have hmul : (k + 1) * es ≤ cap * es := Nat.mul_le_mul_right _ (by omega)
  rw [Nat.add_mul] at hmul
  have hcl : ((vs.drop (base + k * es + fo)).take i.size).length = i.size := cutL (by omega)
  have hrg := range_of_vs g1 (base + k * es + fo) i.size
  refine ⟨_, ?_, loadV_rel hrow2 hy⟩
  have hrun := run_load (hT.get hi) w b (base + k * es + fo) _ hrg hcl
  simp only [execOp, ho, h6, Sem.run_bind, Sem.run_pure] at hrun ⊢
  rw [hrun]
  rfl
/-- A pointer into an array. -/
theorem r_nilCheck_ep {x : Operand} {te es id k fo sz : Nat} {elems : List (List C)} {fz : Nat} (ho : o.op = .nilCheck x) (hd : o.dst = some d) (hdn : d < n) (hx : opv st x = some (.one (.ep id k fo sz))) (hh : st.h id = some (.arr te es elems fz)) (hsz : sz = elems.length) :
    Step P n o st ⟨opr x, [id]⟩ ⟨some (d, some (.one (.ep id k fo sz))), []⟩ := by
  refine Step.value hd hdn fun st' ha G S μ a w hs => ⟨a.eval x, ?_, opv_rel hs hx ha.1⟩
  have hv := opv_rel hs hx ha.1
  have hh' : st'.h id = some (.arr te es elems fz) := by rw [ha.2 id (by simp), hh]
  simp only [VRel, RRel] at hv
  obtain ⟨_, hv | ⟨te', es', elems', fz', h1, h2, h3⟩⟩ := hv
  · rw [hh'] at hv; cases hv
  rw [hh'] at h1; cases h1
  obtain ⟨h4, b, base, cap, h5, h6⟩ := h3 hsz
  simp [execOp, ho, h6]
theorem r_nilCheck_rp {x : Operand} {te es id k fo sz : Nat} {elems : List (List R)} (ho : o.op = .nilCheck x) (hd : o.dst = some d) (hdn : d < n) (hx : opv st x = some (.one (.rp id k fo sz))) (hh : st.h id = some (.rarr te es elems)) (hsz : sz = elems.length) :
    Step P n o st ⟨opr x, [id]⟩ ⟨some (d, some (.one (.rp id k fo sz))), []⟩ := by
  refine Step.value hd hdn fun st' ha G S μ a w hs => ⟨a.eval x, ?_, opv_rel hs hx ha.1⟩
  have hv := opv_rel hs hx ha.1
  have hh' : st'.h id = some (.rarr te es elems) := by rw [ha.2 id (by simp), hh]
  simp only [VRel, RRel] at hv
  obtain ⟨_, hv | ⟨te', es', elems', h1, h2, h3⟩⟩ := hv
  · rw [hh'] at hv; cases hv
  rw [hh'] at h1; cases h1
  obtain ⟨h4, b, base, cap, h5, h6⟩ := h3 hsz
  simp [execOp, ho, h6]
end
end Go.AM

/- APPEND, onto an array whose cells refer to objects. -/
namespace Go.AM
open Go
section
variable {P : Program} {n : Nat} {o : Oper} {st : St} {d : Nat} {T : TT}
theorem append_atR {t e : TypeId} {i ei : TI} {x y : Operand} {id id2 sz te2 : Nat} {elems rows : List (List R)} {st' : St} {G : Ctx} {S : Sto} {μ : Mu} {a : Act} {w : World} (hT : Tok P T) (ho : o.op = .call { callee := .builtin .append, args := #[x, y], argTypes := #[t, t] })
    (hi : T[t]? = some (some i)) (hk : i.k = .sl e) (hei : T[e]? = some (some ei)) (hes : Nat.ble 1 ei.size = true) (heb : Nat.ble 1 ei.bytes = true)
    (hsz : sz = elems.length) (hpos : 0 < rows.length) (hroom : (elems.length + rows.length) * ei.bytes ≤ 140737488355328) (hh' : st'.h id = some (.rarr e ei.size elems)) (hs : Sim G n S μ st' a w)
    (hvx : VRel S μ st'.h (.one (.ra id 0 sz sz)) (a.eval x)) (hvy : VRel S μ st'.h (.one (.ra id2 0 rows.length rows.length)) (a.eval y)) (hh2 : st'.h id2 = some (.rarr te2 ei.size rows)) :
    ∃ w' v b bo c, (execOp a.eval o).run P w = .ok (.value v) w' ∧ (w.heap.size ≤ b ∨ ∃ c', μ id = some (b, c')) ∧ WChg w w' b bo ∧
      ORel S (upd μ id (some (b, c))) (upd st'.h id (some (.rarr e ei.size (elems ++ rows)))) w' id (.rarr e ei.size (elems ++ rows)) ∧ (∀ o v, S.cell b o = some v → ∃ vs t fr, bo = .cells vs t fr ∧ vs[o]? = some v) ∧ (∀ m, S.mapo b = some m → w.heap.size ≤ b) ∧
      Evolve S μ st'.h S (upd μ id (some (b, c))) (upd st'.h id (some (.rarr e ei.size (elems ++ rows)))) ∧
      VRel S (upd μ id (some (b, c))) (upd st'.h id (some (.rarr e ei.size (elems ++ rows)))) (.one (.ra id 0 (elems.length + rows.length) (elems.length + rows.length))) v := by
  subst hsz
  have hes' := Nat.le_of_ble_eq_true hes
  have heb' := Nat.le_of_ble_eq_true heb
  have hE : ∀ b c, Evolve S μ st'.h S (upd μ id (some (b, c))) (upd st'.h id (some (.rarr e ei.size (elems ++ rows)))) := fun b c => ⟨S.le_refl, fun j x hj => by
    by_cases hne : j = id
    · subst hne
      rw [hh'] at hj; cases hj
      exact ⟨_, upd_same _ _ _, by simp only [AObj.succ, true_and]; exact ⟨by simp, fun e => by rw [List.length_append] at e; omega⟩⟩
    · exact ⟨x, by rw [upd_ne _ _ _ hne]; exact hj, x.succ_refl (upd_ne _ _ _ hne)⟩⟩
  -- what is appended
  obtain ⟨ad, cc, news, hvy1, hnrep, hrl, hcell⟩ : ∃ ad cc news, a.eval y = .slice (some ad) rows.length cc ∧ RRelL S μ st'.h rows.flatten news ∧ (∀ r ∈ rows, r.length = ei.size) ∧ ∀ j u, news[j]? = some u → w.cell? (ad.add j) = some u := by
    simp only [VRel, RRel] at hvy
    obtain ⟨_, hv | ⟨te', es', elems', h1, h2, h3⟩⟩ := hvy
    · rw [hh2] at hv; cases hv
    rw [hh2] at h1; cases h1
    obtain ⟨h4, ⟨h5, h6, h7⟩ | ⟨b, base, cap, h5, h6⟩⟩ := h3 rfl
    · rw [h6] at hpos; simp at hpos
    obtain ⟨g0, vs, g1, g2, g3, g4, g5, g6⟩ := (hs.inv.obj id2 _ hh2).rarr h5
    refine ⟨_, _, _, h6, g5, g0, fun j u hj => ?_⟩
    rw [Addr.add_mid, cell_of_row w b _ ⟨vs⟩ te2 (0, 0) g1]
    rw [List.getElem?_take] at hj
    split at hj
    · rw [List.getElem?_drop] at hj
      simpa using hj
    · cases hj
  have hnl : news.length = rows.length * ei.size := by rw [hnrep.length, length_flat hrl]
  obtain ⟨inf, dd, z, g1, g2, g3, g4, g5, g6, g7, g8⟩ := (hT.get hei).ex
  have hu := (hT.get hi).slice hk
  have hzs : z.cells.size = ei.size := by
    have h1 := (checkL_rep (S := S) g7).length
    rw [(hT.get hei).len] at h1
    simpa using h1
  simp only [VRel, RRel] at hvx
  obtain ⟨_, hv | ⟨te', es', elems', h1, h2, h3⟩⟩ := hvx
  · rw [hh'] at hv; cases hv
  rw [hh'] at h1; cases h1
  obtain ⟨h4, hcase⟩ := h3 rfl
  have hbig : elems.length + rows.length ≤ 140737488355328 := by
    have : (elems.length + rows.length) * 1 ≤ (elems.length + rows.length) * ei.bytes := Nat.mul_le_mul_left _ heb'
    omega
  have hone : ∀ u ∈ news, u.oneCell' = true := hnrep.one
  have hcap : ∀ old, elems.length + rows.length ≤ grownCap w (elems.length + rows.length) old e ∧ grownCap w (elems.length + rows.length) old e ≤ maxLen := fun old =>
    ⟨grownCap_ge _ _ _ _, grownCap_le_maxLen _ _ _ _ (by unfold maxLen; omega)⟩
  have hlen' : (elems ++ rows).length = elems.length + rows.length := by simp
  -- into a new block
  have hgrown : ∀ (olds : List Value) (old : Nat), RRelL S μ st'.h elems.flatten olds → ∀ g0 : (∀ r ∈ elems, r.length = ei.size),
      ORel S (upd μ id (some (w.heap.size, 0, grownCap w (elems.length + rows.length) old e))) (upd st'.h id (some (.rarr e ei.size (elems ++ rows))))
        (w.drew.alloc (.cells (olds.toArray ++ news.toArray ++ Builtin.zeroCells z.cells (grownCap w (elems.length + rows.length) old e - (elems.length + rows.length))) e)) id (.rarr e ei.size (elems ++ rows)) := by
    intro olds old hol g0
    obtain ⟨hc1, hc2⟩ := hcap old
    have hol' := hol.length
    rw [length_flat g0] at hol'
    refine ⟨?_, .inr ⟨w.heap.size, 0, grownCap w (elems.length + rows.length) old e, (olds.toArray ++ news.toArray ++ Builtin.zeroCells z.cells (grownCap w (elems.length + rows.length) old e - (elems.length + rows.length))).toList, upd_same _ _ _, heap_alloc_new w.drew _, ?_, by simpa using hc1, hc2, ?_, fun o _ => no_cell hs.inv o⟩⟩
    · intro r hr
      rcases List.mem_append.1 hr with hr | hr
      · exact g0 r hr
      · exact hrl r hr
    · simp only [Array.toList_append, List.length_append, Array.length_toList, size_zeroCells, hzs]
      simp only [hol', hnl, Nat.zero_add, ← Nat.add_mul]
      exact Nat.mul_le_mul_right _ (by omega)
    · simp only [Array.toList_append, List.drop_zero, List.length_append, List.flatten_append]
      rw [List.take_append_of_le_length (by simp [hol', hnl, Nat.add_mul]), List.take_of_length_le (by simp [hol', hnl, Nat.add_mul])]
      exact (RRelL.evolve (hE _ _) _ _ hol).append (RRelL.evolve (hE _ _) _ _ hnrep)
  rcases hcase with ⟨h5, h6, h7⟩ | ⟨b, base, cap, h5, h6⟩
  · -- the first elements
    subst h6
    simp only [List.length_nil, Nat.zero_add] at hroom hbig hgrown hcap
    have hr := run_append_nil (P := P) w t o.type e inf z hu g1 g6 ad rows.length cc news (by rw [hnl, g3]) hcell (by omega) (by omega) (by rw [g4]; omega)
    refine ⟨_, _, w.heap.size, _, (0, grownCap w rows.length 0 e), run_append ho h7 hvy1 hr, .inl (Nat.le_refl _), WChg.alloc_drew w _, ?_, fun o v e => (by rw [no_cell hs.inv o] at e; cases e), fun m e => Nat.le_refl _, hE _ _, ?_⟩
    · have := hgrown [] 0 (by simp [RRelL]) (by simp)
      simpa using this
    · simp only [VRel, RRel]
      exact ⟨⟨_, _, _, rfl⟩, .inr ⟨e, ei.size, _, upd_same _ _ _, by simp, fun _ => ⟨by simp, .inr ⟨w.heap.size, 0, _, upd_same _ _ _, by simp⟩⟩⟩⟩
  · obtain ⟨q0, vs, q1, q2, q3, q4, q5, q6⟩ := (hs.inv.obj id _ hh').rarr h5
    have hce : elems.length * ei.size ≤ cap * ei.size := Nat.mul_le_mul_right _ q3
    simp only [Nat.sub_zero, Nat.zero_mul, Nat.add_zero] at h6
    by_cases hroom' : elems.length + rows.length ≤ cap
    · -- there is room
      have hce2 : (elems.length + rows.length) * ei.size ≤ cap * ei.size := Nat.mul_le_mul_right _ hroom'
      rw [Nat.add_mul] at hce2
      have hr := run_append_room' (P := P) w t o.type e inf hu g1 b base elems.length cap ⟨vs⟩ q1 ad rows.length cc news (by rw [hnl, g3]) hcell hone hroom' (by rw [g3, hnl]; simp only [List.size_toArray]; omega)
      rw [g3] at hr
      have hW := WChg.setRow w b ⟨vs⟩ ⟨vs.take (base + elems.length * ei.size) ++ news ++ vs.drop (base + elems.length * ei.size + news.length)⟩ e (0, 0) q1
      refine ⟨_, _, b, _, (base, cap), run_append ho h6 hvy1 hr, .inr ⟨_, h5⟩, hW, ⟨?_, .inr ⟨b, base, cap, _, upd_same _ _ _, hW.new, ?_, by rw [hlen']; omega, q4, ?_, q6⟩⟩, fun o v e => (by
          by_cases hb : base ≤ o
          · rw [q6 o hb] at e; cases e
          · obtain ⟨vs0, t0, fr0, p1, p2⟩ := hs.inv.holds.1 b o v e
            rw [q1] at p1; cases p1
            refine ⟨_, _, _, rfl, ?_⟩
            simp only [List.getElem?_toArray] at p2 ⊢
            have hlt : o < vs.length := (List.getElem?_eq_some_iff.1 p2).1
            rw [List.append_assoc, List.getElem?_append_left (by simp; omega), List.getElem?_take, if_pos (by omega)]
            exact p2), fun m e => map_none_of hs.inv.holds q1 m e, hE _ _, ?_⟩
      · intro r hr
        rcases List.mem_append.1 hr with hr | hr
        · exact q0 r hr
        · exact hrl r hr
      · simp only [List.length_append, List.length_take, List.length_drop]
        omega
      · rw [hlen', List.flatten_append]
        have e1 : ((vs.take (base + elems.length * ei.size) ++ news ++ vs.drop (base + elems.length * ei.size + news.length)).drop base).take ((elems.length + rows.length) * ei.size) = (vs.drop base).take (elems.length * ei.size) ++ news := by
          rw [List.append_assoc, List.drop_append_of_le_length (by simp; omega), ← List.append_assoc, List.take_append_of_le_length (by simp [Nat.add_mul]; omega)]
          rw [List.take_of_length_le (by simp [Nat.add_mul]; omega), List.drop_take]
          rw [show base + elems.length * ei.size - base = elems.length * ei.size by omega]
        rw [e1]
        exact (RRelL.evolve (hE _ _) _ _ q5).append (RRelL.evolve (hE _ _) _ _ hnrep)
      · simp only [VRel, RRel]
        exact ⟨⟨_, _, _, rfl⟩, .inr ⟨e, ei.size, _, upd_same _ _ _, by simp, fun _ => ⟨by simp, .inr ⟨b, base, cap, upd_same _ _ _, by simp⟩⟩⟩⟩
    · -- into a new block
      have hr := run_append_grow (P := P) w t o.type e inf z hu g1 g6 ⟨b, base, none⟩ elems.length cap ((vs.drop base).take (elems.length * ei.size)) (by rw [g3]; simp; omega) (by
          intro j v hj
          rw [Addr.add_mid, cell_of_row w b _ ⟨vs⟩ e (0, 0) q1]
          rw [List.getElem?_take] at hj
          split at hj
          · rw [List.getElem?_drop] at hj
            simpa using hj
          · cases hj) ad rows.length cc news (by rw [hnl, g3]) hcell (by omega) (by omega) (by rw [g4]; exact growslice_fits (by omega) hroom)
      refine ⟨_, _, w.heap.size, _, (0, grownCap w (elems.length + rows.length) cap e), run_append ho h6 hvy1 hr, .inl (Nat.le_refl _), WChg.alloc_drew w _, ?_, fun o v e => (by rw [no_cell hs.inv o] at e; cases e), fun m e => Nat.le_refl _, hE _ _, ?_⟩
      · have := hgrown _ cap q5 q0
        simpa using this
      · simp only [VRel, RRel]
        exact ⟨⟨_, _, _, rfl⟩, .inr ⟨e, ei.size, _, upd_same _ _ _, by simp, fun _ => ⟨by simp, .inr ⟨w.heap.size, 0, _, upd_same _ _ _, by simp⟩⟩⟩⟩
/-- What runs goes on, with the array grown. -/
theorem grow_atR {y : V} {id te es : Nat} {elems : List (List R)} (hd : o.dst = some d) (hdn : d < n) {st' : St} {G : Ctx} {S : Sto} {μ : Mu} {a : Act} {w : World} {K : Act → World → Prop} {Q : Exit → Act → World → Prop}
    (hs : Sim G n S μ st' a w) (hown : ∀ b c', μ id = some (b, c') → ∃ ao, st'.h id = some ao) (hk : ∀ S' μ' a' w', Sim G n S' μ' (Eff.apply ⟨some (d, some y), [(id, some (.rarr te es elems))]⟩ st') a' w' → K a' w')
    (h : ∃ w' v b bo c, (execOp a.eval o).run P w = .ok (.value v) w' ∧ (w.heap.size ≤ b ∨ ∃ c', μ id = some (b, c')) ∧ WChg w w' b bo ∧ ORel S (upd μ id (some (b, c))) (upd st'.h id (some (.rarr te es elems))) w' id (.rarr te es elems) ∧
      (∀ o v, S.cell b o = some v → ∃ vs t fr, bo = .cells vs t fr ∧ vs[o]? = some v) ∧ (∀ m, S.mapo b = some m → w.heap.size ≤ b) ∧ Evolve S μ st'.h S (upd μ id (some (b, c))) (upd st'.h id (some (.rarr te es elems))) ∧ VRel S (upd μ id (some (b, c))) (upd st'.h id (some (.rarr te es elems))) y v) :
    ∀ ro, o.wpIn (Wd ro) 0 P a w K Q := by
  obtain ⟨w', v, b, bo, c, hr, hb, hw, hO, hS, hSm, hE, hv⟩ := h
  refine fun ro => wpIn_of_value hr ?_
  rw [hd]
  have hi := hs.inv.chg (id := id) (cap := c) (ao := .rarr te es elems) hw (hb.imp (fun h => h) fun ⟨c', h⟩ => by obtain ⟨ao, hao⟩ := hown _ _ h; exact ⟨_, c', hao, h⟩) hE hO hS hSm
  have := hs.put hi hE hdn (x := some y) (v := v) (fun z hz => by cases hz; exact hv)
  refine hk S (upd μ id (some (b, c))) _ _ ?_
  unfold Eff.apply
  rw [updL_one]
  exact this
theorem r_appendR {t e : TypeId} {i ei : TI} {x y : Operand} {id id2 sz te2 : Nat} {elems rows : List (List R)} (hT : Tok P T) (ho : o.op = .call { callee := .builtin .append, args := #[x, y], argTypes := #[t, t] }) (hd : o.dst = some d) (hdn : d < n)
    (hi : T[t]? = some (some i)) (hk : i.k = .sl e) (hei : T[e]? = some (some ei)) (hes : Nat.ble 1 ei.size = true) (heb : Nat.ble 1 ei.bytes = true)
    (hx : opv st x = some (.one (.ra id 0 sz sz))) (hh : st.h id = some (.rarr e ei.size elems)) (hsz : sz = elems.length) (hy : opv st y = some (.one (.ra id2 0 rows.length rows.length))) (hh2 : st.h id2 = some (.rarr te2 ei.size rows)) (hpos : 0 < rows.length)
    (hroom : (elems.length + rows.length) * ei.bytes ≤ 140737488355328) :
    Step P n o st ⟨opr x ++ opr y, [id, id2]⟩ ⟨some (d, some (.one (.ra id 0 (elems.length + rows.length) (elems.length + rows.length)))), [(id, some (.rarr e ei.size (elems ++ rows)))]⟩ := by
  intro st' ha G S μ a w K Q hs hk'
  have hvx := opv_rel hs hx fun t ht => ha.1 t (by simp [ht])
  have hvy := opv_rel hs hy fun t ht => ha.1 t (by simp [ht])
  have hh' : st'.h id = some (.rarr e ei.size elems) := by rw [ha.2 id (by simp), hh]
  have hh2' : st'.h id2 = some (.rarr te2 ei.size rows) := by rw [ha.2 id2 (by simp), hh2]
  exact grow_atR hd hdn hs (fun _ _ _ => ⟨_, hh'⟩) hk' (append_atR hT ho hi hk hei hes heb hsz hpos hroom hh' hs hvx hvy hh2')
theorem Inv.emptyR {G : Ctx} {S : Sto} {μ : Mu} {H : Heap} {w : World} {id : Nat} (te es : Nat) (h : Inv G S μ H w) (hid : H id = none) : Inv G S (upd μ id none) (upd H id (some (.rarr te es []))) w ∧ Evolve S μ H S (upd μ id none) (upd H id (some (.rarr te es []))) := by
  have hE : Evolve S μ H S (upd μ id none) (upd H id (some (.rarr te es []))) := evolve_new hid _ _
  refine ⟨⟨h.holds, fun j x hj => ?_, fun i j x x' b c c' hi hj hm hm' => ?_, fun i x b c hi hm => ?_, h.frame, h.sle, h.sto, h.evo.trans hE⟩, hE⟩
  · by_cases hne : j = id
    · subst hne
      rw [upd_same] at hj; cases hj
      exact ⟨by simp, .inl ⟨upd_same _ _ _, rfl⟩⟩
    · rw [upd_ne _ _ _ hne] at hj
      exact (h.obj j x hj).evolve hE (upd_ne _ _ _ hne) fun _ _ _ => ⟨rfl, fun _ => rfl, rfl⟩
  · have h1 : i ≠ id := fun e => by subst e; rw [upd_same] at hm; cases hm
    have h2 : j ≠ id := fun e => by subst e; rw [upd_same] at hm'; cases hm'
    rw [upd_ne _ _ _ h1] at hi hm
    rw [upd_ne _ _ _ h2] at hj hm'
    exact h.inj i j x x' b c c' hi hj hm hm'
  · have h1 : i ≠ id := fun e => by subst e; rw [upd_same] at hm; cases hm
    rw [upd_ne _ _ _ h1] at hi hm
    exact h.own i x b c hi hm
/-- append, onto nil. -/
theorem r_appendR0 {t e : TypeId} {i ei : TI} {x y : Operand} {id2 te2 : Nat} {rows : List (List R)} (id : Nat) (hT : Tok P T) (ho : o.op = .call { callee := .builtin .append, args := #[x, y], argTypes := #[t, t] }) (hd : o.dst = some d) (hdn : d < n)
    (hi : T[t]? = some (some i)) (hk : i.k = .sl e) (hei : T[e]? = some (some ei)) (hes : Nat.ble 1 ei.size = true) (heb : Nat.ble 1 ei.bytes = true)
    (hx : opv st x = some (.one (.c .nl))) (hid : st.h id = none) (hy : opv st y = some (.one (.ra id2 0 rows.length rows.length))) (hh2 : st.h id2 = some (.rarr te2 ei.size rows)) (hpos : 0 < rows.length)
    (hroom : rows.length * ei.bytes ≤ 140737488355328) :
    Step P n o st ⟨opr x ++ opr y, [id, id2]⟩ ⟨some (d, some (.one (.ra id 0 rows.length rows.length))), [(id, some (.rarr e ei.size rows))]⟩ := by
  intro st' ha G S μ a w K Q hs hk'
  have hid' : st'.h id = none := by rw [ha.2 id (by simp), hid]
  obtain ⟨hi', hE⟩ := hs.inv.emptyR e ei.size hid'
  have hs2 : Sim G n S (upd μ id none) ⟨st'.e, upd st'.h id (some (.rarr e ei.size [])), st'.d⟩ a w := ⟨hi', hs.size, hs.defers.evolve hE, fun t v e => VRel.evolve hE v _ (hs.env t v e)⟩
  have hvx := opv_rel hs hx fun t ht => ha.1 t (by simp [ht])
  have hvy := opv_rel hs hy fun t ht => ha.1 t (by simp [ht])
  have hh2' : st'.h id2 = some (.rarr te2 ei.size rows) := by rw [ha.2 id2 (by simp), hh2]
  simp only [VRel, RRel, Rep] at hvx
  have hvx' : VRel S (upd μ id none) (upd st'.h id (some (.rarr e ei.size []))) (.one (.ra id 0 0 0)) (a.eval x) := by
    simp only [VRel, RRel]
    exact ⟨⟨_, _, _, hvx⟩, .inr ⟨e, ei.size, [], upd_same _ _ _, Nat.le_refl _, fun _ => ⟨Nat.le_refl _, .inl ⟨upd_same _ _ _, rfl, hvx⟩⟩⟩⟩
  have hne : id2 ≠ id := fun e => by subst e; rw [hid'] at hh2'; cases hh2'
  have := append_atR (elems := []) (id := id) hT ho hi hk hei hes heb rfl hpos (by simpa using hroom) (upd_same _ _ _) hs2 hvx' (VRel.evolve hE _ _ hvy) (by
    show upd st'.h id (some (.rarr e ei.size [])) id2 = _
    rw [upd_ne _ _ _ hne]
    exact hh2')
  refine grow_atR hd hdn hs2 (fun _ _ _ => ⟨_, upd_same _ _ _⟩) (fun S' μ' a' w' h => hk' S' μ' a' w' ?_) this
  have e1 : Eff.apply ⟨some (d, some (.one (.ra id 0 (([] : List (List R)).length + rows.length) (([] : List (List R)).length + rows.length)))), [(id, some (.rarr e ei.size ([] ++ rows)))]⟩ ⟨st'.e, upd st'.h id (some (.rarr e ei.size [])), st'.d⟩
      = Eff.apply ⟨some (d, some (.one (.ra id 0 rows.length rows.length))), [(id, some (.rarr e ei.size rows))]⟩ st' := by
    unfold Eff.apply
    rw [updL_one, updL_one, upd_upd]
    simp
  rw [e1] at h
  exact h
end
end Go.AM

/- CONVERSIONS: numbers of another kind; bytes as a text. len of a map. -/
namespace Go.AM
open Go
section
variable {P : Program} {n : Nat} {o : Oper} {st : St} {d : Nat} {T : TT}
theorem r_convI {src dst : TypeId} {i j : TI} {x : Operand} {k k' : IntKind} {m : Int} (hT : Tok P T) (ho : o.op = .convert src dst x) (hd : o.dst = some d) (hdn : d < n) (hi : T[src]? = some (some i)) (hik : i.k = .int k) (hj : T[dst]? = some (some j)) (hjk : j.k = .int k')
    (hx : opv st x = some (I k m)) : Step P n o st ⟨opr x, []⟩ ⟨some (d, some (I k' (k'.wrap m))), []⟩ := by
  refine Step.value hd hdn fun st' ha G S μ a w hs => ?_
  have hv := one_int (opv_rel hs hx ha.1)
  refine ⟨.int k' (k'.wrap m), ?_, by simp [VRel, RRel, Rep]⟩
  have h1 := (hT.get hi).int hik
  have h2 := (hT.get hj).int hjk
  simp only [execOp, ho, hv, Sem.run_bind, convert, run_underlying h1 w, run_underlying h2 w, Result.andThen_ok, Conv.intToInt, Sem.run_pure]
theorem r_convB {src dst e : TypeId} {i j ei : TI} {x : Operand} {v : V} {ids : List Nat} {rows : List (List C)} {ns : List Int} (hT : Tok P T) (ho : o.op = .convert src dst x) (hd : o.dst = some d) (hdn : d < n) (hi : T[src]? = some (some i)) (hik : i.k = .sl e) (hei : T[e]? = some (some ei)) (hek : ei.k = .int .u8)
    (hj : T[dst]? = some (some j)) (hjk : j.k = .str) (hx : opv st x = some v) (hsrc : Src st 1 ids v rows) (hr : rows = ns.map fun m => [C.int .u8 m]) : Step P n o st ⟨opr x, ids⟩ ⟨some (d, some (Go.AM.T (ns.map fun m => UInt8.ofNat m.toNat))), []⟩ := by
  refine Step.value hd hdn fun st' ha G S μ a w hs => ?_
  have hv := opv_rel hs hx ha.1
  obtain ⟨ad, c, news, h1, h2, h3, h4, h5⟩ := hsrc.rel hs ha.2 hv
  have hsu := (hT.get hi).slice hik
  have heu := (hT.get hei).int hek
  have hdu := (hT.get hj).str hjk
  have hnews : ∀ (ns : List Int) (news : List Value), RepL S (ns.map fun m => [C.int .u8 m]).flatten news → news = ns.map (Value.int .u8) := by
    intro ns
    induction ns with
    | nil => intro news h; simpa [RepL] using h
    | cons m ns ih =>
      intro news h
      simp only [List.map_cons, List.flatten_cons, List.singleton_append, RepL, Rep] at h
      obtain ⟨u, us, rfl, rfl, h⟩ := h
      rw [ih us h]; rfl
  rw [hr] at h2
  have hn := hnews ns news h2
  have hrun : (convert src dst (a.eval x)).run P w = .ok (.string ⟨⟨ns.map fun m => UInt8.ofNat m.toNat⟩⟩) w := by
    rw [h1]
    cases ad with
    | none =>
      have h6 := h4 rfl
      rw [hr] at h6
      have : ns = [] := by simpa using h6
      subst this
      exact run_convert_bytes_nil w src e hsu heu _ _ dst hdu
    | some ad =>
      have hlen : rows.length = ns.length := by rw [hr]; simp
      have hl : (loadCells ad ns.length).run P w = .ok (ns.map (Value.int .u8)).toArray w := by
        have := run_loadCells_list (P := P) w ad (ns.map (Value.int .u8)) (fun j v hj => h5 ad rfl j v (by rw [hn]; exact hj))
        simpa using this
      rw [hlen, run_convert_bytes_string w src dst e _ _ _ hsu heu hdu, run_bytesToString w _ _ _ ns hl, foldl_push_bytes]
      simp [ByteArray.empty, ByteArray.emptyWithCapacity]
      rfl
  refine ⟨.string ⟨⟨ns.map fun m => UInt8.ofNat m.toNat⟩⟩, ?_, by simp [VRel, RRel, Rep]⟩
  simp only [execOp, ho, Sem.run_bind, hrun, Result.andThen_ok, Sem.run_pure]
theorem RepEnts.length {S : Sto} {agg : Bool} : ∀ {l : List (List C)} {es : List MapEntry}, RepEnts S agg l es → es.length = l.length
  | [], es, h => by simp only [RepEnts] at h; subst h; rfl
  | r :: rs, es, h => by
    simp only [RepEnts] at h
    obtain ⟨e, es', rfl, _, h⟩ := h
    simp [RepEnts.length h]
theorem r_len_map {t kt et : TypeId} {i : TI} {x : Operand} {id : Nat} {agg : Bool} {ents : List (List C)} (hT : Tok P T) (ho : o.op = .call { callee := .builtin .len, args := #[x], argTypes := #[t] }) (hd : o.dst = some d) (hdn : d < n) (hi : T[t]? = some (some i)) (hk : i.k = .mp kt et)
    (hx : opv st x = some (.one (.mr id))) (hh : st.h id = some (.map agg ents)) (hms : mstr ents) : Step P n o st ⟨opr x, [id]⟩ ⟨some (d, some (I .i64 (ents.length : Int))), []⟩ := by
  refine Step.value hd hdn fun st' ha G S μ a w hs => ?_
  have hv := opv_rel hs hx ha.1
  have hh' : st'.h id = some (.map agg ents) := by rw [ha.2 id (by simp), hh]
  simp only [VRel, RRel] at hv
  obtain ⟨agg', ents', b, c, h1, h2, h3⟩ := hv
  rw [hh'] at h1; cases h1
  obtain ⟨b', es, clk, q1, q2, q3, q4⟩ := hs.inv.obj id _ hh'
  rw [h2] at q1; cases q1
  have hl := (q3.rep hms).length
  refine ⟨goInt ents.length, run_len ho h3 ?_, by simp [VRel, RRel, Rep, goInt]⟩
  have hg : (getObj b).run P w = .ok (.map es clk) w := MapKept.run_getObj_map q2
  simp at hl
  simp [Builtin.len_, run_underlying ((hT.get hi).map hk) w, hg, hl]
end
end Go.AM

/- FROZEN ARRAYS OF REFERENCES are read; an array of references is written. -/
namespace Go.AM
open Go
section
variable {P : Program} {n : Nat} {T : TT} {o : Oper} {st : St} {d : Nat}
theorem r_index_ras {t e : TypeId} {i ei : TI} {x y : Operand} {n' es k : Nat} {kk : IntKind} {m : Int} {l r : List R} (hT : Tok P T) (ho : o.op = .indexAddr t x y) (hd : o.dst = some d) (hdn : d < n) (hi : T[t]? = some (some i)) (hk : i.k = .sl e) (hei : T[e]? = some (some ei)) (hes : ei.size = es)
    (hx : opv st x = some (.one (.ras n' es l))) (hy : opv st y = some (I kk m)) (hm : m = (k : Int)) (hlt : k < n') (hr : (l.drop (k * es)).take es = r) : Step P n o st ⟨opr x ++ opr y, []⟩ ⟨some (d, some (.one (.pas r))), []⟩ := by
  refine Step.value hd hdn fun st' ha G S μ a w hs => ?_
  have hv := opv_rel hs hx (agree2 ha).1
  have hv2 := one_int (opv_rel hs hy (agree2 ha).2)
  simp only [VRel, RRel] at hv
  obtain ⟨ad, cap, h1, h2, h3, h4, h5, h6, b, off, h7, vs, h8, h9⟩ := hv
  cases ad with
  | none => have := (h5 rfl).1; omega
  | some ad =>
    obtain ⟨h10, h10'⟩ := h7 ad rfl
    have h11 := h6 ad rfl
    have had : ad = ⟨b, off, none⟩ := by cases ad; simp_all
    subst had
    subst hm
    refine ⟨.pointer (some ⟨b, off + k * es, none⟩), ?_, ?_⟩
    · simp only [execOp, ho, h1, hv2, Sem.run_bind, run_indexAt hT hi hk hei w b off n' cap k kk hlt, Result.andThen_ok, Sem.run_pure, hes]
    · simp only [VRel, RRel]
      subst hr
      refine ⟨b, off + k * es, rfl, (vs.drop (k * es)).take es, (h8.drop (k * es)).take es, fun j v hj => ?_⟩
      rw [List.getElem?_take] at hj
      split at hj
      · rw [List.getElem?_drop] at hj
        have := h9 _ v hj
        rwa [← Nat.add_assoc] at this
      · cases hj
theorem r_load_pas {t : TypeId} {i : TI} {x : Operand} {l : List R} {y : V} (hT : Tok P T) (ho : o.op = .load t x) (hd : o.dst = some d) (hdn : d < n) (hi : T[t]? = some (some i)) (hx : opv st x = some (.one (.pas l)))
    (hl : i.size ≤ l.length) (hy : loadV i (l.take i.size) = some y) : Step P n o st ⟨opr x, []⟩ ⟨some (d, some y), []⟩ := by
  refine Step.value hd hdn fun st' ha G S μ a w hs => ?_
  have hv := opv_rel hs hx ha.1
  simp only [VRel, RRel] at hv
  obtain ⟨b, off, h1, vs, h2, h3⟩ := hv
  have hvl := h2.length
  refine ⟨_, ?_, loadV_rel (h2.take i.size) hy⟩
  have hr := range_of_cells hs.inv.holds h3
  have hr' : w.rangeAt b off (vs.take i.size) := fun j v hj => by
    rw [List.getElem?_take] at hj
    split at hj
    · exact hr j v hj
    · cases hj
  simp only [execOp, ho, h1, Sem.run_bind, run_load (hT.get hi) w b off _ hr' (by simp; omega), Result.andThen_ok, Sem.run_pure]
theorem r_field_pas {t ft : TypeId} {i fi : TI} {fs : List (Nat × TypeId)} {f foff : Nat} {x : Operand} {l : List R} (hT : Tok P T) (ho : o.op = .fieldAddr t x f) (hd : o.dst = some d) (hdn : d < n) (hi : T[t]? = some (some i)) (hk : i.k = .st fs) (hf : fs[f]? = some (foff, ft)) (hfi : T[ft]? = some (some fi)) (hz : fi.size ≠ 0)
    (hx : opv st x = some (.one (.pas l))) : Step P n o st ⟨opr x, []⟩ ⟨some (d, some (.one (.pas (l.drop foff)))), []⟩ := by
  refine Step.value hd hdn fun st' ha G S μ a w hs => ?_
  have hv := opv_rel hs hx ha.1
  simp only [VRel, RRel] at hv
  obtain ⟨b, off, h1, vs, h2, h3⟩ := hv
  refine ⟨.pointer (some ⟨b, off + foff, none⟩), ?_, ?_⟩
  · simp only [execOp, ho, h1, Sem.run_bind, run_fieldAt hT hi hk hf hfi hz, Result.andThen_ok, Sem.run_pure]
  · simp only [VRel, RRel]
    refine ⟨b, off + foff, rfl, vs.drop foff, h2.drop foff, fun j v hj => ?_⟩
    rw [List.getElem?_drop] at hj
    have := h3 (foff + j) v hj
    rwa [← Nat.add_assoc] at this
theorem r_len_ras {t e : TypeId} {i : TI} {x : Operand} {n' es : Nat} {l : List R} (hT : Tok P T) (ho : o.op = .call { callee := .builtin .len, args := #[x], argTypes := #[t] }) (hd : o.dst = some d) (hdn : d < n) (hi : T[t]? = some (some i)) (hk : i.k = .sl e)
    (hx : opv st x = some (.one (.ras n' es l))) : Step P n o st ⟨opr x, []⟩ ⟨some (d, some (I .i64 (n' : Int))), []⟩ := by
  refine Step.value hd hdn fun st' ha G S μ a w hs => ?_
  have hv := opv_rel hs hx ha.1
  simp only [VRel, RRel] at hv
  obtain ⟨ad, cap, h1, _⟩ := hv
  refine ⟨goInt n', run_len ho h1 ?_, by simp [VRel, RRel, Rep, goInt]⟩
  simp [Builtin.len_, run_underlying ((hT.get hi).slice hk) w]
/-- A cell of an array of references is written. -/
theorem r_store_rp {t te es : Nat} {i : TI} {x y : Operand} {id k fo sz : Nat} {elems : List (List R)} {v : V} {cs r : List R} (hT : Tok P T) (ho : o.op = .store t x y) (hd : o.dst = none) (hi : T[t]? = some (some i)) (hx : opv st x = some (.one (.rp id k fo sz)))
    (hy : opv st y = some v) (hc : cellsV v = some cs) (hh : st.h id = some (.rarr te es elems)) (hsz : sz = elems.length) (hr : elems[k]? = some r) (hcs : cs.length = i.size) (hl : fo + i.size ≤ es) :
    Step P n o st ⟨opr x ++ opr y, [id]⟩ ⟨none, [(id, some (.rarr te es (elems.set k (splice r fo cs))))]⟩ := by
  refine Step.turn hd hh (by simp) (by simp [AObj.succ]) fun st' ha hh' G S μ a w hs => ?_
  have hvx := opv_rel hs hx fun t ht => ha.1 t (by simp [ht])
  have hvy := opv_rel hs hy fun t ht => ha.1 t (by simp [ht])
  simp only [VRel, RRel] at hvx
  obtain ⟨_, hv | ⟨te', es', elems', h1, h2, h3⟩⟩ := hvx
  · rw [hh'] at hv; cases hv
  rw [hh'] at h1; cases h1
  obtain ⟨h4, b, base, cap, h5, h6⟩ := h3 hsz
  obtain ⟨g0, vs, g1, g2, g3, g4, g5, g6⟩ := (hs.inv.obj id _ hh').rarr h5
  have hrel := cellsV_rel hvy hc
  have hrep := hrel
  have hone := hrel.one
  have hnl := hrep.length
  have hk : k < elems.length := (List.getElem?_eq_some_iff.1 hr).1
  have hres : r.length = es := g0 r (List.mem_of_getElem? hr)
  have hke : (k + 1) * es ≤ elems.length * es := Nat.mul_le_mul_right _ hk
  have hce : elems.length * es ≤ cap * es := Nat.mul_le_mul_right _ g3
  rw [Nat.add_mul] at hke
  generalize hnews : (a.eval y).cells.toList = news at *
  have hrun := run_store (hT.get hi) w b (base + k * es + fo) vs news te (a.eval y) g1 hnews (by omega) (by omega) hone
  have hE := evolve_turn (S := S) (μ := μ) (o' := .rarr te es (elems.set k (splice r fo cs))) hh' h5 (by simp [AObj.succ])
  have hrow := row_vsR g0 g5 hr
  have hflat := flat_at g0 k r hr
  have hlen : (elems.set k (splice r fo cs)).length = elems.length := by simp
  have hW := WChg.setRow w b ⟨vs⟩ ⟨vs.take (base + k * es + fo) ++ news ++ vs.drop (base + k * es + fo + news.length)⟩ te (0, 0) g1
  refine ⟨_, _, b, (base, cap), ?_, h5, hW, ⟨?_, .inr ⟨b, base, cap, _, upd_same _ _ _, hW.new, ?_, by rw [hlen]; exact g3, g4, ?_, g6⟩⟩, fun o v e => ?_, fun m e => map_none_of hs.inv.holds g1 m e⟩
  · simp only [execOp, ho, h6, Sem.run_bind, hrun, Result.andThen_ok, Sem.run_pure]
  · intro q hq
    rcases List.mem_or_eq_of_mem_set hq with hq | rfl
    · exact g0 q hq
    · unfold splice
      simp
      omega
  · simp only [List.length_append, List.length_take, List.length_drop]
    omega
  · rw [hlen]
    have e1 : (elems.set k (splice r fo cs)).flatten = elems.flatten.take (k * es) ++ (r.take fo ++ cs ++ r.drop (fo + cs.length)) ++ elems.flatten.drop (k * es + es) := by
      rw [List.set_eq_take_append_cons_drop, if_pos hk, List.flatten_append, List.flatten_cons, hflat.1, hflat.2, ← List.append_assoc]
      rfl
    have e2 : ((vs.take (base + k * es + fo) ++ news ++ vs.drop (base + k * es + fo + news.length)).drop base).take (elems.length * es) =
        ((vs.drop base).take (elems.length * es)).take (k * es) ++ ((((vs.drop (base + k * es)).take es).take fo) ++ news ++ (((vs.drop (base + k * es)).take es).drop (fo + cs.length))) ++ ((vs.drop base).take (elems.length * es)).drop (k * es + es) := by
      apply List.ext_getElem?
      intro j
      simp only [List.getElem?_take, List.getElem?_drop, List.getElem?_append, List.length_append, List.length_take, List.length_drop]
      have hm1 : min (k * es) (min (elems.length * es) (vs.length - base)) = k * es := by omega
      have hm2 : min (base + k * es + fo) vs.length = base + k * es + fo := by omega
      have hm3 : min fo es = fo := by omega
      have hm4 : min es (vs.length - (base + k * es)) = es := by omega
      simp only [hm1, hm2, hm3, hm4, hnl]
      by_cases c1 : j < k * es
      · have a1 : j < elems.length * es := by omega
        have a2 : base + j < base + k * es + fo := by omega
        have a3 : base + j < base + k * es + fo + cs.length := by omega
        have a4 : j < k * es + (fo + cs.length + (es - (fo + cs.length))) := by omega
        simp [c1, a1, a2, a3, a4]
      · by_cases c2 : j < k * es + fo
        · have a1 : j < elems.length * es := by omega
          have a2 : base + j < base + k * es + fo := by omega
          have a3 : base + j < base + k * es + fo + cs.length := by omega
          have a4 : j < k * es + (fo + cs.length + (es - (fo + cs.length))) := by omega
          have a5 : j - k * es < fo + cs.length := by omega
          have a6 : j - k * es < fo := by omega
          have a7 : j - k * es < es := by omega
          simp [c1, a1, a2, a3, a4, a5, a6, a7, show base + k * es + (j - k * es) = base + j by omega]
        · by_cases c3 : j < k * es + fo + cs.length
          · have a1 : j < elems.length * es := by omega
            have a2 : ¬ base + j < base + k * es + fo := by omega
            have a3 : base + j < base + k * es + fo + cs.length := by omega
            have a4 : j < k * es + (fo + cs.length + (es - (fo + cs.length))) := by omega
            have a5 : j - k * es < fo + cs.length := by omega
            have a6 : ¬ j - k * es < fo := by omega
            simp [c1, a1, a2, a3, a4, a5, a6, show base + j - (base + k * es + fo) = j - k * es - fo by omega]
          · by_cases c4 : j < k * es + es
            · have a1 : j < elems.length * es := by omega
              have a3 : ¬ base + j < base + k * es + fo + cs.length := by omega
              have a4 : j < k * es + (fo + cs.length + (es - (fo + cs.length))) := by omega
              have a5 : ¬ j - k * es < fo + cs.length := by omega
              have a6 : fo + cs.length + (j - k * es - (fo + cs.length)) < es := by omega
              simp [c1, a1, a3, a4, a5, a6, show base + k * es + fo + cs.length + (base + j - (base + k * es + fo + cs.length)) = base + j by omega, show base + k * es + (fo + cs.length + (j - k * es - (fo + cs.length))) = base + j by omega]
            · have a3 : ¬ base + j < base + k * es + fo + cs.length := by omega
              have a4 : ¬ j < k * es + (fo + cs.length + (es - (fo + cs.length))) := by omega
              by_cases c5 : j < elems.length * es
              · have a5 : k * es + es + (j - (k * es + (fo + cs.length + (es - (fo + cs.length))))) < elems.length * es := by omega
                simp [a3, a4, c5, a5, show base + k * es + fo + cs.length + (base + j - (base + k * es + fo + cs.length)) = base + j by omega, show base + (k * es + es + (j - (k * es + (fo + cs.length + (es - (fo + cs.length)))))) = base + j by omega]
              · have a5 : ¬ k * es + es + (j - (k * es + (fo + cs.length + (es - (fo + cs.length))))) < elems.length * es := by omega
                simp [a4, c5, a5]
    rw [e1]
    show RRelL S _ _ _ (((vs.take (base + k * es + fo) ++ news ++ vs.drop (base + k * es + fo + news.length)).drop base).take (elems.length * es))
    rw [e2]
    refine RRelL.evolve hE _ _ ?_
    exact ((g5.take (k * es)).append (((hrow.take fo).append hrep).append (hrow.drop (fo + cs.length)))).append (g5.drop (k * es + es))
  · -- what stays is not touched
    by_cases hb : base ≤ o
    · rw [g6 o hb] at e; cases e
    · obtain ⟨vs0, t0, fr0, q1, q2⟩ := hs.inv.holds.1 b o v e
      rw [g1] at q1; cases q1
      refine ⟨_, _, _, rfl, ?_⟩
      simp only [List.getElem?_toArray] at q2 ⊢
      have hlt : o < vs.length := (List.getElem?_eq_some_iff.1 q2).1
      rw [List.append_assoc, List.getElem?_append_left (by simp; omega), List.getElem?_take, if_pos (by omega)]
      exact q2
end
end Go.AM
