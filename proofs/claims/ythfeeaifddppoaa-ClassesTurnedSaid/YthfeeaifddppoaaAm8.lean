/-
  THE OPERATIONS, ONE BY ONE (5): literals; append; pieces.
-/
import Derived.Test.YthfeeaifddppoaaAm7
namespace Go.AM
open Go

section
variable {P : Program} {n : Nat} {o : Oper} {st : St} {d : Nat} {T : TT}

theorem foldl_set (off : Nat) : ∀ (vs : List Value) (j : Nat) (cells : Array Value), off + j + vs.length ≤ cells.size →
    (vs.zipIdx j).foldl (fun cs (x : Value × Nat) => cs.setIfInBounds (off + x.2) x.1) cells = ⟨splice cells.toList (off + j) vs⟩
  | [], j, cells, _ => by simp [splice]
  | v :: vs, j, cells, h => by
    simp only [List.length_cons] at h
    have ih := foldl_set off vs (j + 1) (cells.setIfInBounds (off + j) v) (by simp; omega)
    simp only [List.zipIdx_cons, List.foldl_cons, ih]
    congr 1
    unfold splice
    simp only [Array.toList_setIfInBounds]
    apply List.ext_getElem?
    intro k
    simp only [List.getElem?_append, List.length_append, List.length_take, List.length_set, Array.length_toList, List.length_cons, List.getElem?_take, List.getElem?_drop, List.getElem?_set]
    have hm1 : min (off + (j + 1)) cells.size = off + j + 1 := by omega
    have hm2 : min (off + j) cells.size = off + j := by omega
    simp only [hm1, hm2]
    by_cases c1 : k < off + j
    · have a1 : k < off + j + 1 + vs.length := by omega
      have a2 : k < off + j + 1 := by omega
      have a3 : k < off + (j + 1) := by omega
      have a4 : k < off + j + (vs.length + 1) := by omega
      have a5 : ¬ off + j = k := by omega
      simp [c1, a1, a2, a3, a4, a5]
    · by_cases c2 : k = off + j
      · subst c2
        have a1 : off + j < off + j + 1 + vs.length := by omega
        have a5 : off + j < cells.size := by omega
        have a6 : off + j < off + (j + 1) := by omega
        simp [a1, a5, a6]
      · by_cases c3 : k < off + j + 1 + vs.length
        · have a2 : ¬ k < off + j + 1 := by omega
          have a4 : k < off + j + (vs.length + 1) := by omega
          have a6 : k - (off + j) = (k - (off + j + 1)) + 1 := by omega
          simp [c1, c3, a2, a4, a6]
        · have a4 : ¬ k < off + j + (vs.length + 1) := by omega
          have a5 : ¬ off + j = k := by omega
          simp [c3, a4, a5, show off + (j + 1) + vs.length + (k - (off + j + 1 + vs.length)) = k by omega, show off + j + (vs.length + 1) + (k - (off + j + (vs.length + 1))) = k by omega]

/-- The parts of a literal. -/
def partsV (st : St) : List (Nat × Operand) → Option (List (Nat × List R))
  | [] => some []
  | (i, x) :: ps => match opv st x with
    | some v => match cellsV v with
      | some rs => match partsV st ps with | some l => some ((i, rs) :: l) | none => none
      | none => none
    | none => none
def partsR : List (Nat × Operand) → List Nat
  | [] => []
  | (_, x) :: ps => opr x ++ partsR ps
/-- Cells, filled with parts. -/
def fillR (places : List (Nat × Nat)) : List R → List (Nat × List R) → Option (List R)
  | cells, [] => some cells
  | cells, (i, rs) :: ps => match places[i]? with
    | some (off, size) => if Nat.beq rs.length size && Nat.ble (off + rs.length) cells.length then fillR places (splice cells off rs) ps else none
    | none => none
def placesT (T : TT) : List (Nat × TypeId) → Option (List (Nat × Nat))
  | [] => some []
  | (off, t) :: fs => match T[t]? with
    | some (some i) => match placesT T fs with | some l => some ((off, i.size) :: l) | none => none
    | _ => none

theorem partsV_rel {G : Ctx} {S : Sto} {μ : Mu} {st' : St} {a : Act} {w : World} (hs : Sim G n S μ st' a w) : ∀ (ps : List (Nat × Operand)) (l : List (Nat × List R)), partsV st ps = some l → (∀ t ∈ partsR ps, st'.e t = st.e t) →
    ∃ vs : List (Nat × Value), ps.map (fun (i, x) => (i, a.eval x)) = vs ∧ vs.length = l.length ∧ ∀ (k : Nat) (p : Nat × List R), l[k]? = some p → ∃ v : Value, vs[k]? = some (p.1, v) ∧ RRelL S μ st'.h p.2 v.cells.toList := by
  intro ps
  induction ps with
  | nil => intro l h _; simp [partsV] at h; subst h; exact ⟨[], rfl, rfl, fun k p h => by simp at h⟩
  | cons p ps ih =>
    obtain ⟨i, x⟩ := p
    intro l h ha
    simp only [partsV] at h
    split at h
    · rename_i v hv
      split at h
      · rename_i rs hc
        split at h
        · rename_i l' hl'
          cases h
          obtain ⟨vs, h1, h2, h3⟩ := ih l' hl' fun t ht => ha t (by simp [partsR, ht])
          refine ⟨(i, a.eval x) :: vs, by simp [h1], by simp [h2], fun k q hq => ?_⟩
          cases k with
          | zero =>
            simp at hq; subst hq
            exact ⟨a.eval x, rfl, cellsV_rel (opv_rel hs hv fun t ht => ha t (by simp [partsR, ht])) hc⟩
          | succ k => simp at hq; simpa using h3 k q hq
        · cases h
      · cases h
    · cases h

theorem splice_rel {S : Sto} {μ : Mu} {H : Heap} {cells rs : List R} {vs us : List Value} {off : Nat} (h : RRelL S μ H cells vs) (k : RRelL S μ H rs us) : RRelL S μ H (splice cells off rs) (splice vs off us) := by
  have hl := k.length
  unfold splice
  rw [hl]
  exact ((h.take off).append k).append (h.drop _)

theorem fillR_rel {S : Sto} {μ : Mu} {H : Heap} {places : List (Nat × Nat)} : ∀ (ps : List (Nat × List R)) (vs : List (Nat × Value)) (cells : List R) (cs : Array Value) (out : List R), fillR places cells ps = some out → RRelL S μ H cells cs.toList →
    vs.length = ps.length → (∀ (k : Nat) (p : Nat × List R), ps[k]? = some p → ∃ v : Value, vs[k]? = some (p.1, v) ∧ RRelL S μ H p.2 v.cells.toList) →
    ∃ out', Instr.fill (places[·]?) cs vs = some out' ∧ RRelL S μ H out out'.toList := by
  intro ps
  induction ps with
  | nil =>
    intro vs cells cs out h hr hl _
    simp at hl; subst hl
    simp [fillR] at h; subst h
    exact ⟨cs, rfl, hr⟩
  | cons p ps ih =>
    intro vs cells cs out h hr hl hp
    obtain ⟨i, rs⟩ := p
    match vs, hl with
    | q :: vs, hl =>
      obtain ⟨v, hv, hrel⟩ := hp 0 (i, rs) rfl
      simp at hv; subst hv
      simp only [fillR] at h
      split at h
      · rename_i off size hpl
        split at h
        · rename_i hc
          simp only [Bool.and_eq_true] at hc
          have hc1 := Nat.eq_of_beq_eq_true hc.1
          have hc2 := Nat.le_of_ble_eq_true hc.2
          have hvl := hrel.length
          have hcl := hr.length
          simp only [Array.length_toList] at hvl hcl
          have hset := foldl_set off v.cells.toList 0 cs (by simp; omega)
          obtain ⟨out', h1, h2⟩ := ih vs (splice cells off rs) ⟨splice cs.toList off v.cells.toList⟩ out h (splice_rel hr hrel) (by simpa using hl) fun k p hk => by simpa using hp (k + 1) p (by simpa using hk)
          refine ⟨out', ?_, h2⟩
          simp only [Instr.fill]
          rw [hpl]
          simp only []
          have hcond : (v.cells.size ≠ size || decide (off + v.cells.size > cs.size)) = false := by
            simp only [Bool.or_eq_false_iff, decide_eq_false_iff_not]
            exact ⟨by simp; omega, by omega⟩
          simp only [hcond, Bool.false_eq_true, if_false]
          have hset' : (v.cells.zipIdx.foldl (fun cs (x : Value × Nat) => cs.setIfInBounds (off + x.2) x.1) cs) = ⟨splice cs.toList off v.cells.toList⟩ := by
            rw [← Array.foldl_toList, Array.toList_zipIdx]
            simpa using hset
          rw [← h1]
          congr 1
        · cases h
      · cases h

theorem placesT_ok (hT : Tok P T) : ∀ (fs : List (Nat × TypeId)) (fields : List Field) (places : List (Nat × Nat)), fs = fields.map (fun f => (f.offset, f.type)) → placesT T fs = some places →
    fields.mapM (fun f => (P.info? f.type).map fun i => (f.offset, i.size)) = some places
  | _, [], places, h, hp => by simp at h; subst h; simp [placesT] at hp; subst hp; rfl
  | _, f :: fields, places, h, hp => by
    simp only [List.map_cons] at h
    subst h
    simp only [placesT] at hp
    split at hp
    · rename_i i hi
      split at hp
      · rename_i l hl
        cases hp
        have ih := placesT_ok hT _ fields l rfl hl
        have hsz := (hT.get hi).info
        simp only [List.mapM_cons, ih]
        cases hq : P.info? f.type with
        | none => simp [hq] at hsz
        | some inf =>
          simp [hq] at hsz
          simp [hsz]
      · cases hp
    · cases hp

/-- A struct's literal. -/
theorem r_build {t : TypeId} {i : TI} {fs : List (Nat × TypeId)} {places : List (Nat × Nat)} {parts : Array (Nat × Operand)} {ps : List (Nat × List R)} {out : List R} (hT : Tok P T) (ho : o.op = .build t parts) (hd : o.dst = some d) (hdn : d < n) (hi : T[t]? = some (some i)) (hk : i.k = .st fs)
    (hpl : placesT T fs = some places) (hps : partsV st parts.toList = some ps) (hf : fillR places (i.zero.map R.c) ps = some out) : Step P n o st ⟨partsR parts.toList, []⟩ ⟨some (d, some (aggV out)), []⟩ := by
  refine Step.value hd hdn fun st' ha G S μ a w hs => ?_
  obtain ⟨vs, h1, h2, h3⟩ := partsV_rel hs _ _ hps ha.1
  obtain ⟨fields, hu, hfs⟩ := (hT.get hi).struct hk
  obtain ⟨inf, dd, z, g1, g2, g3, g4, g5, g6, g7, g8⟩ := (hT.get hi).ex
  obtain ⟨out', h4, h5⟩ := fillR_rel (S := S) (μ := μ) (H := st'.h) ps vs (i.zero.map R.c) z.cells out hf (checkL_rep g7).toR h2 h3
  refine ⟨.agg out', ?_, ?_⟩
  · have hb : P.built t (parts.map fun (i, x) => (i, a.eval x)).toList = some out' := by
      unfold Program.built
      simp only [g1, hu, g6, placesT_ok hT fs fields.toList places hfs hpl]
      rw [← h4, ← h1]
      simp
    simp only [execOp, ho, Sem.run_bind, run_build w t _ out' hb, Result.andThen_ok, Sem.run_pure]
  · have := aggV_rel h5
    simpa using this

/-- A field of a value. -/
theorem r_field {t ft : TypeId} {i fi : TI} {fs : List (Nat × TypeId)} {f foff : Nat} {x : Operand} {v y : V} {rs : List R} (hT : Tok P T) (ho : o.op = .field t x f) (hd : o.dst = some d) (hdn : d < n) (hi : T[t]? = some (some i)) (hk : i.k = .st fs) (hf : fs[f]? = some (foff, ft)) (hfi : T[ft]? = some (some fi))
    (hx : opv st x = some v) (hag : (match v with | .pa _ => true | .ma _ => true | _ => false) = true) (hc : cellsV v = some rs) (hl : Nat.ble (foff + fi.size) rs.length = true) (hy : loadV fi ((rs.drop foff).take fi.size) = some y) : Step P n o st ⟨opr x, []⟩ ⟨some (d, some y), []⟩ := by
  refine Step.value hd hdn fun st' ha G S μ a w hs => ?_
  have hv := opv_rel hs hx ha.1
  have hrel := cellsV_rel hv hc
  have hagg : ∃ cs, a.eval x = .agg cs := by
    cases v <;> simp only [VRel] at hv <;> simp at hag
    · obtain ⟨vs, h, _⟩ := hv; exact ⟨_, h⟩
    · obtain ⟨vs, h, _⟩ := hv; exact ⟨_, h⟩
  obtain ⟨cs, hcs⟩ := hagg
  rw [hcs] at hrel
  simp only [Value.cells] at hrel
  have hll := hrel.length
  have hl' := Nat.le_of_ble_eq_true hl
  simp only [Array.length_toList] at hll
  obtain ⟨fields, h1, h2⟩ := (hT.get hi).struct hk
  rw [h2] at hf
  simp only [List.getElem?_map, Option.map_eq_some_iff, Array.getElem?_toList] at hf
  obtain ⟨fl, h3, h4⟩ := hf
  cases h4
  have hres := loadV_rel ((hrel.drop fl.offset).take fi.size) hy
  refine ⟨_, ?_, hres⟩
  simp only [execOp, ho, hcs, Sem.run_bind, Instr.field, run_underlying h1 w, Result.andThen_ok, h3, asAgg, Sem.run_pure, part, (hT.get hfi).agg_run w]
  cases hka : fi.k.agg with
  | true =>
    simp only [if_true, Sem.run_bind, (hT.get hfi).size_run w, Result.andThen_ok, Sem.run_pure]
    congr 3
    have : (cs.extract fl.offset (fl.offset + fi.size)).toList = (cs.toList.drop fl.offset).take fi.size := by simp
    rw [← this]
  | false =>
    have h1s := (hT.get hfi).one hka
    simp only [Bool.false_eq_true, if_false]
    have hlt : fl.offset < cs.size := by omega
    have he : cs[fl.offset]? = some cs[fl.offset] := by simp [hlt]
    rw [he]
    simp only [Sem.run_pure, Result.andThen_ok]
    congr 2
    rw [h1s, List.take_one, List.head?_drop]
    simp [hlt]
end
end Go.AM
