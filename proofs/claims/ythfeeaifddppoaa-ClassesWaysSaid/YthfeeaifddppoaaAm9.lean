/-
  THE OPERATIONS, ONE BY ONE (6): slices' literals; append.
-/
import Derived.Test.YthfeeaifddppoaaAm8
namespace Go.AM
open Go

/-- A nil slice is an empty one. -/
inductive Cle : C → C → Prop
  | refl {x} : Cle x x
  | nl {es} : Cle .nl (.sl es [])
  | sn {es l} : Cle (.sn es l) (.sl es l)
theorem Cle.rep {S : Sto} {x y : C} {v : Value} (h : Cle x y) (k : Rep S x v) : Rep S y v := by
  cases h with
  | refl => exact k
  | nl =>
    simp only [Rep] at k ⊢
    exact ⟨none, 0, 0, k, by simp, Nat.le_refl _, Nat.zero_le _, fun _ => ⟨rfl, rfl⟩, by simp, 0, 0, by simp, by simp [RepRows]⟩
  | sn =>
    simp only [Rep] at k ⊢
    obtain ⟨b, o, len, cap, h1, h2, h3, h4, h5⟩ := k
    exact ⟨some ⟨b, o, none⟩, len, cap, h1, h2, h3, h4, by simp, by rintro ad ⟨⟩; rfl, b, o, by rintro ad ⟨⟩; exact ⟨rfl, rfl⟩, h5⟩

/-- Cells as plain data: what refers to an array that is wholly frozen reads as a slice. -/
inductive PureL (h : Heap) : List Nat → List R → List C → Prop
  | nil : PureL h [] [] []
  | c {ids rs cs x y} : Cle x y → PureL h ids rs cs → PureL h ids (.c x :: rs) (y :: cs)
  | hs {ids rs cs id off len sz te es elems e} : h id = some (.arr te es elems 2) → sz = elems.length → e = (elems.drop off).take len → PureL h ids rs cs → PureL h (id :: ids) (.hs id off len sz :: rs) (.sl es e :: cs)

theorem PureL.of_pure {h : Heap} : ∀ {cs : List C}, PureL h [] (cs.map R.c) cs
  | [] => .nil
  | _ :: _ => .c .refl PureL.of_pure
theorem PureL.of {h : Heap} {rs : List R} {cs : List C} (e : pureL rs = some cs) : PureL h [] rs cs := by
  rw [pureL_eq e]; exact .of_pure

/-- A frozen array reads as a slice. -/
theorem hs_rep {S : Sto} {μ : Mu} {H : Heap} {w : World} {id off len sz te es : Nat} {elems : List (List C)} {v : Value} (hO : ORel S μ H w id (.arr te es elems 2)) (hh : H id = some (.arr te es elems 2)) (hsz : sz = elems.length)
    (hv : RRel S μ H (.hs id off len sz) v) : Rep S (.sl es ((elems.drop off).take len)) v := by
  simp only [RRel] at hv
  obtain ⟨_, hv | ⟨te', es', elems', fz', h1, h2, h3⟩⟩ := hv
  · rw [hh] at hv; cases hv
  rw [hh] at h1; cases h1
  obtain ⟨h4, ⟨h5, h6, h7⟩ | ⟨b, base, cap, h5, h6⟩⟩ := h3 hsz
  · subst h6
    simp only [Rep]
    exact ⟨none, 0, 0, h7, by simp, Nat.le_refl _, Nat.zero_le _, fun _ => ⟨rfl, rfl⟩, by simp, 0, 0, by simp, by simp [RepRows]⟩
  · obtain ⟨g0, vs, g1, g2, g3, g4, g5, g6, g7, g8⟩ := hO.arr h5
    simp only [Rep]
    have hlen : ((elems.drop off).take len).length = len := by simp; omega
    refine ⟨_, len, cap - off, h6, hlen.symm, by omega, Nat.le_trans (Nat.sub_le _ _) g4, by simp, by rintro ad ⟨⟩; rfl, b, base + off * es, by rintro ad ⟨⟩; exact ⟨rfl, rfl⟩, ?_⟩
    have := RepRows.of_flat g0 g5 (g8 rfl)
    exact (this.drop off).take len

theorem PureL.rel {S : Sto} {μ : Mu} {H H0 : Heap} {w : World} : ∀ {ids : List Nat} {rs : List R} {cs : List C} {vs : List Value}, PureL H0 ids rs cs → (∀ i ∈ ids, H i = H0 i) → (∀ id o, H id = some o → ORel S μ H w id o) → RRelL S μ H rs vs → RepL S cs vs := by
  intro ids rs cs vs hp
  induction hp generalizing vs with
  | nil => intro _ _ h; simp only [RRelL] at h; subst h; simp [RepL]
  | c hc _ ih =>
    intro hi hO h
    simp only [RRelL] at h
    obtain ⟨v, vs', rfl, h1, h2⟩ := h
    simp only [RRel] at h1
    simp only [RepL]
    exact ⟨v, vs', rfl, hc.rep h1, ih hi hO h2⟩
  | @hs ids rs cs id off len sz te es elems e he hsz hee _ ih =>
    intro hi hO h
    simp only [RRelL] at h
    obtain ⟨v, vs', rfl, h1, h2⟩ := h
    simp only [RepL]
    have hh : H id = some (.arr te es elems 2) := by rw [hi id (by simp), he]
    exact ⟨v, vs', rfl, by rw [hee]; exact hs_rep (hO id _ hh) hh hsz h1, ih (fun i h => hi i (by simp [h])) hO h2⟩

/-- The rows of a slice's literal, in order. -/
inductive RowsV (st : St) (es : Nat) : Nat → List Nat → List (Nat × Operand) → List (List C) → Prop
  | nil {k} : RowsV st es k [] [] []
  | cons {k ids ids' x ps v rs cs rows} : opv st x = some v → cellsV v = some rs → PureL st.h ids rs cs → Nat.beq rs.length es = true → RowsV st es (k + 1) ids' ps rows → RowsV st es k (ids ++ ids') ((k, x) :: ps) (cs :: rows)

section
variable {P : Program} {n : Nat} {o : Oper} {st : St} {d : Nat} {T : TT}

theorem rowsV_fill {G : Ctx} {S : Sto} {μ : Mu} {st' : St} {a : Act} {w : World} (hs : Sim G n S μ st' a w) {es : Nat} : ∀ {k : Nat} {ids : List Nat} {ps : List (Nat × Operand)} {rows : List (List C)}, RowsV st es k ids ps rows → (∀ t ∈ partsR ps, st'.e t = st.e t) → (∀ i ∈ ids, st'.h i = st.h i) →
    ∀ (cells : Array Value), cells.size = (k + ps.length) * es → ∃ out : Array Value, Instr.fill (fun i => some (i * es, es)) cells (ps.map fun (i, x) => (i, a.eval x)) = some out ∧ out.size = cells.size ∧
      ∃ us, RepL S rows.flatten us ∧ out.toList = cells.toList.take (k * es) ++ us ∧ (∀ r ∈ rows, r.length = es) := by
  intro k ids ps rows h
  induction h with
  | nil =>
    intro _ _ cells hc
    refine ⟨cells, rfl, rfl, [], by simp [RepL], ?_, by simp⟩
    rw [List.append_nil, List.take_of_length_le]
    simp at hc
    simp [hc]
  | @cons k ids ids' x ps v rs cs rows hv hc hp hl _ ih =>
    intro ha hi cells hsz
    have hl' := Nat.eq_of_beq_eq_true hl
    have hrel := cellsV_rel (opv_rel hs hv fun t ht => ha t (by simp [partsR, ht])) hc
    have hrep := hp.rel (fun i h => hi i (by simp [h])) hs.inv.obj hrel
    have hvl := hrel.length
    simp only [Array.length_toList] at hvl
    simp only [List.length_cons] at hsz
    have hke : (k + (ps.length + 1)) * es = k * es + es + ps.length * es := by
      rw [Nat.add_mul, Nat.add_mul]; omega
    have hset := foldl_set (k * es) (a.eval x).cells.toList 0 cells (by simp only [Array.length_toList]; omega)
    have hsl : (splice cells.toList (k * es) (a.eval x).cells.toList).length = cells.size := by
      unfold splice
      simp
      omega
    obtain ⟨out, h1, h2, us, h3, h4, h5⟩ := ih (fun t ht => ha t (by simp [partsR, ht])) (fun i h => hi i (by simp [h])) ⟨splice cells.toList (k * es) (a.eval x).cells.toList⟩ (by
      simp only [List.size_toArray, hsl, hsz]
      congr 1
      omega)
    refine ⟨out, ?_, by rw [h2]; simpa using hsl, (a.eval x).cells.toList ++ us, ?_, ?_, ?_⟩
    · simp only [List.map_cons, Instr.fill]
      have hcond : ((a.eval x).cells.size ≠ es || decide (k * es + (a.eval x).cells.size > cells.size)) = false := by
        simp only [Bool.or_eq_false_iff, decide_eq_false_iff_not]
        exact ⟨by simp; omega, by omega⟩
      simp only [hcond, Bool.false_eq_true, if_false]
      have hset' : ((a.eval x).cells.zipIdx.foldl (fun cs (x : Value × Nat) => cs.setIfInBounds (k * es + x.2) x.1) cells) = ⟨splice cells.toList (k * es) (a.eval x).cells.toList⟩ := by
        rw [← Array.foldl_toList, Array.toList_zipIdx]
        simpa using hset
      rw [← h1]
      congr 1
    · rw [List.flatten_cons]; exact hrep.append h3
    · rw [h4]
      have : (splice cells.toList (k * es) (a.eval x).cells.toList).take ((k + 1) * es) = cells.toList.take (k * es) ++ (a.eval x).cells.toList := by
        unfold splice
        apply List.take_left'
        simp
        rw [Nat.add_mul]
        omega
      show (splice cells.toList (k * es) (a.eval x).cells.toList).take ((k + 1) * es) ++ us = _
      rw [this, List.append_assoc]
    · intro r hr
      rcases List.mem_cons.1 hr with rfl | hr
      · have := hrep.length
        simp only [Array.length_toList] at this
        omega
      · exact h5 r hr

theorem RowsV.lengths {es k : Nat} {ids : List Nat} {ps : List (Nat × Operand)} {rows : List (List C)} (h : RowsV st es k ids ps rows) : rows.length = ps.length := by
  induction h with
  | nil => rfl
  | cons _ _ _ _ _ ih => simp [ih]

/-- '[]T{..}'. -/
theorem r_slice {t e : TypeId} {i ei : TI} {len : Nat} {parts : Array (Nat × Operand)} {ids : List Nat} {rows : List (List C)} (id : Nat) (hT : Tok P T) (ho : o.op = .buildSlice t len parts) (hd : o.dst = some d) (hdn : d < n) (hi : T[t]? = some (some i)) (hk : i.k = .sl e) (hei : T[e]? = some (some ei))
    (hrows : RowsV st ei.size 0 ids parts.toList rows) (hlen : Nat.beq len parts.size = true) (hsmall : Nat.ble (len * ei.size) 16777216 = true) (hsm1 : Nat.ble len 16777216 = true) (hid : st.h id = none) :
    Step P n o st ⟨partsR parts.toList, id :: ids⟩ ⟨some (d, some (.one (.hs id 0 len len))), [(id, some (.arr e ei.size rows 0))]⟩ := by
  refine Step.new hd hdn hid (by simp) fun st' ha hid' G S μ a w hs => ?_
  have hlen' := Nat.eq_of_beq_eq_true hlen
  have hsm := Nat.le_of_ble_eq_true hsmall
  obtain ⟨z, hz, hzr, _⟩ := (hT.get hei).zero_run
  have hzl := (hzr S).length
  rw [(hT.get hei).len] at hzl
  simp only [Array.length_toList] at hzl
  have hrl := hrows.lengths
  simp only [Array.length_toList] at hrl
  have key : ∀ (cells : Array Value), cells.size = len * ei.size → ∃ out : Array Value, Instr.fill (fun i => some (i * ei.size, ei.size)) cells (parts.map fun (i, x) => (i, a.eval x)).toList = some out ∧ out.size = len * ei.size ∧ RepL S rows.flatten out.toList ∧ (∀ r ∈ rows, r.length = ei.size) := by
    intro cells hc
    obtain ⟨out, h1, h2, us, h3, h4, h5⟩ := rowsV_fill hs hrows ha.1 (fun i h => ha.2 i (by simp [h])) cells (by rw [hc, hlen']; simp)
    refine ⟨out, by rw [← h1]; simp, by rw [h2, hc], ?_, h5⟩
    simp at h4
    rw [h4]; exact h3
  have hrun : ∃ out : Array Value, (Instr.buildSlice t len (parts.map fun (i, x) => (i, a.eval x))).run P w = .ok (.slice (some ⟨w.heap.size, 0, none⟩) len len) (w.alloc (.cells out e)) ∧ out.size = len * ei.size ∧ RepL S rows.flatten out.toList ∧ (∀ r ∈ rows, r.length = ei.size) := by
    by_cases h0 : len * ei.size = 0
    · obtain ⟨out, h1, h2, h3, h4⟩ := key ((Array.range (len * ei.size)).map ((#[] : Array Value)[· % (#[] : Array Value).size]!)) (by simp)
      refine ⟨out, ?_, h2, h3, h4⟩
      have hgt : ¬ len * ei.size > 2 ^ 24 := by omega
      simp only [Instr.buildSlice, Sem.run_bind, run_underlying ((hT.get hi).slice hk) w, Result.andThen_ok, (hT.get hei).size_run w]
      rw [if_neg hgt, if_pos h0]
      simp only [Sem.run_bind, Result.andThen_ok, Sem.run_pure, h1, run_newRow]
    · obtain ⟨out, h1, h2, h3, h4⟩ := key ((Array.range (len * ei.size)).map (z.cells[· % z.cells.size]!)) (by simp)
      refine ⟨out, ?_, h2, h3, h4⟩
      have hgt : ¬ len * ei.size > 2 ^ 24 := by omega
      simp only [Instr.buildSlice, Sem.run_bind, run_underlying ((hT.get hi).slice hk) w, Result.andThen_ok, (hT.get hei).size_run w]
      rw [if_neg hgt, if_neg h0]
      simp only [Sem.run_bind, hz w, Result.andThen_ok, Sem.run_pure, h1, run_newRow]
  obtain ⟨out, h1, h2, h3, h4⟩ := hrun
  have hlm : len ≤ maxLen := by
    have := Nat.le_of_ble_eq_true hsm1
    unfold maxLen
    omega
  refine ⟨_, _, .slice (some ⟨w.heap.size, 0, none⟩) len len, (0, len), ?_, WChg.alloc w (.cells out e), ?_, ?_⟩
  · simp only [execOp, ho, Sem.run_bind, h1, Result.andThen_ok, Sem.run_pure]
  · have hrl' : rows.length = len := by omega
    refine ⟨h4, .inr ⟨w.heap.size, 0, len, out.toList, upd_same _ _ _, heap_alloc_new w _, by simp [h2], by omega, ?_, ?_, fun _ o _ => no_cell hs.inv o, fun o _ => no_cell hs.inv o, fun e => by cases e⟩⟩
    · exact hlm
    · simp only [List.drop_zero]
      rw [List.take_of_length_le (by simp [h2, hrl'])]
      exact h3
  · simp only [VRel, RRel]
    have hrl' : rows.length = len := by omega
    exact ⟨⟨_, _, _, rfl⟩, .inr ⟨e, ei.size, rows, 0, upd_same _ _ _, by omega, fun _ => ⟨by omega, .inr ⟨w.heap.size, 0, len, upd_same _ _ _, by simp⟩⟩⟩⟩
end
end Go.AM
