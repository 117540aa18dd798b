/-
  THE OPERATIONS, ONE BY ONE (3): memory.
-/
import Derived.Test.YthfeeaifddppoaaAm5
import Derived.Deep.MidRow
namespace Go.AM
open Go

section
variable {P : Program} {n : Nat} {o : Oper} {st : St} {d : Nat} {T : TT}

theorem evolve_new {S : Sto} {μ : Mu} {H : Heap} {id : Nat} (h : H id = none) (p : Option (Nat × Nat × Nat)) (x : Option AObj) : Evolve S μ H S (upd μ id p) (upd H id x) :=
  ⟨S.le_refl, fun j o hj => by
    have hne : j ≠ id := fun e => by subst e; rw [h] at hj; cases hj
    exact ⟨o, by rw [upd_ne _ _ _ hne]; exact hj, o.succ_refl (upd_ne _ _ _ hne)⟩⟩

/-- A new object. -/
theorem Step.new {rd : Rd} {y : V} {id : Nat} {ao : AObj} (hd : o.dst = some d) (hdn : d < n) (hid : st.h id = none) (hrd : id ∈ rd.h)
    (h : ∀ st', Agree rd st st' → st'.h id = none → ∀ G S μ a w, Sim G n S μ st' a w → ∃ w' bo v c, (execOp a.eval o).run P w = .ok (.value v) w' ∧ WChg w w' w.heap.size bo ∧
      ORel S (upd μ id (some (w.heap.size, c))) (upd st'.h id (some ao)) w' id ao ∧ VRel S (upd μ id (some (w.heap.size, c))) (upd st'.h id (some ao)) y v) :
    Step P n o st rd ⟨some (d, some y), [(id, some ao)]⟩ := by
  intro st' ha G S μ a w K Q hs hk
  have hid' : st'.h id = none := by rw [ha.2 id hrd, hid]
  obtain ⟨w', bo, v, c, hr, hw, hO, hv⟩ := h st' ha hid' G S μ a w hs
  refine fun ro => wpIn_of_value hr ?_
  rw [hd]
  have hi := hs.inv.chg (id := id) (cap := c) (ao := ao) hw (.inl (Nat.le_refl _)) (evolve_new hid' _ _) hO
    (fun o v e => by obtain ⟨vs, t, fr, h1, _⟩ := hs.inv.holds.1 _ _ _ e; exact absurd (lt_of_some h1) (Nat.lt_irrefl _)) (fun m e => Nat.le_refl _)
  refine hk S (upd μ id (some (w.heap.size, c))) _ _ ?_
  have := hs.put hi (evolve_new hid' _ _) hdn (x := some y) (fun z hz => by cases hz; exact hv)
  unfold Eff.apply
  rw [updL_one]
  exact this

theorem no_cell {G : Ctx} {S : Sto} {μ : Mu} {H : Heap} {w : World} (h : Inv G S μ H w) (o : Nat) : S.cell w.heap.size o = none := by
  cases hc : S.cell w.heap.size o with
  | none => rfl
  | some v => obtain ⟨vs, t, fr, h1, _⟩ := h.holds.1 _ _ _ hc; exact absurd (lt_of_some h1) (Nat.lt_irrefl _)
theorem no_map {G : Ctx} {S : Sto} {μ : Mu} {H : Heap} {w : World} (h : Inv G S μ H w) : S.mapo w.heap.size = none := by
  cases hc : S.mapo w.heap.size with
  | none => rfl
  | some v => obtain ⟨es, clk⟩ := v; exact absurd (lt_of_some (h.holds.2 _ _ _ hc)) (Nat.lt_irrefl _)

theorem run_newRow (P : Program) (w : World) (t : TypeId) (cs : Array Value) : (newRow t cs).run P w = .ok ⟨w.heap.size, 0, none⟩ (w.alloc (.cells cs t)) := rfl

/-- 'var x T': a variable with cells of its own. -/
theorem r_alloc {t : TypeId} {i : TI} (id : Nat) (hT : Tok P T) (ho : o.op = .alloc t) (hd : o.dst = some d) (hdn : d < n) (hi : T[t]? = some (some i)) (hid : st.h id = none) :
    Step P n o st ⟨[], [id]⟩ ⟨some (d, some (.one (.vp id 0))), [(id, some (.var t (i.zero.map R.c)))]⟩ := by
  refine Step.new hd hdn hid (by simp) fun st' _ hid' G S μ a w hs => ?_
  obtain ⟨z, hz, hzr, _⟩ := (hT.get hi).zero_run
  refine ⟨_, _, .pointer (some ⟨w.heap.size, 0, none⟩), (0, 0), ?_, WChg.alloc w (.cells z.cells t), ?_, ?_⟩
  · simp [execOp, ho, Instr.alloc, hz, newVar, run_newRow]
  · exact ⟨w.heap.size, z.cells.toList, upd_same _ _ _, heap_alloc_new w _, (hzr S).toR, no_cell hs.inv⟩
  · simp only [VRel, RRel]
    exact ⟨t, _, _, _, upd_same _ _ _, upd_same _ _ _, rfl⟩

/-- A value put into a variable of its own. -/
theorem r_box {t : TypeId} {x : Operand} {y : V} {rs : List R} (id : Nat) (ho : o.op = .box t x) (hd : o.dst = some d) (hdn : d < n) (hx : opv st x = some y) (hc : cellsV y = some rs) (hid : st.h id = none) :
    Step P n o st ⟨opr x, [id]⟩ ⟨some (d, some (.one (.vp id 0))), [(id, some (.var t rs))]⟩ := by
  refine Step.new hd hdn hid (by simp) fun st' ha hid' G S μ a w hs => ?_
  have hv := opv_rel hs hx ha.1
  refine ⟨_, _, .pointer (some ⟨w.heap.size, 0, none⟩), (0, 0), ?_, WChg.alloc w (.cells (a.eval x).cells t), ?_, ?_⟩
  · simp [execOp, ho, Instr.box, newVar, run_newRow]
  · exact ⟨w.heap.size, (a.eval x).cells.toList, upd_same _ _ _, heap_alloc_new w _, RRelL.evolve (evolve_new hid' _ _) _ _ (cellsV_rel hv hc), no_cell hs.inv⟩
  · simp only [VRel, RRel]
    exact ⟨t, _, _, _, upd_same _ _ _, upd_same _ _ _, rfl⟩

/-- 'make(map[K]V)', 'map[K]V{}'. -/
theorem r_makeMap {t : TypeId} (id : Nat) (agg : Bool) (ho : o.op = .makeMap t none) (hd : o.dst = some d) (hdn : d < n) (hid : st.h id = none) :
    Step P n o st ⟨[], [id]⟩ ⟨some (d, some (.one (.mr id))), [(id, some (.map agg []))]⟩ := by
  refine Step.new hd hdn hid (by simp) fun st' _ hid' G S μ a w hs => ?_
  refine ⟨w.alloc (.map #[] 0), _, .map (some w.heap.size), (0, 0), ?_, WChg.alloc w (.map #[] 0), ?_, ?_⟩
  · simp only [execOp, ho, Instr.makeMap, Option.map_none]; rfl
  · exact ⟨w.heap.size, #[], 0, upd_same _ _ _, heap_alloc_new w _, by simp [RepEnts], no_map hs.inv⟩
  · simp only [VRel, RRel]
    exact ⟨_, _, _, _, upd_same _ _ _, upd_same _ _ _, rfl⟩

/-! ### Loads -/
theorem range_of_vs {w : World} {b : Nat} {vs : List Value} {t : TypeId} (h : w.heap[b]? = some (.cells ⟨vs⟩ t (0, 0))) (off k : Nat) : w.rangeAt b off ((vs.drop off).take k) := by
  intro j v hj
  rw [cell_of_row w b (off + j) ⟨vs⟩ t (0, 0) h]
  rw [List.getElem?_take] at hj
  split at hj
  · rw [List.getElem?_drop] at hj
    simpa using hj
  · cases hj

/-- A load of cells that lie: what comes. -/
theorem run_load {t : TypeId} {i : TI} (hT : TIok P t i) (w : World) (b off : Nat) (cs : List Value) (hr : w.rangeAt b off cs) (hl : cs.length = i.size) :
    (Instr.loadAt t (.pointer (some ⟨b, off, none⟩))).run P w = .ok (if i.k.agg then .agg ⟨cs⟩ else cs.headD undef) w := by
  obtain ⟨inf, dd, z, g1, g2, g3, g4, g5, g6, g7, g8⟩ := hT.ex
  cases hk : i.k.agg with
  | true =>
    have hrow : dd.isRow = true := by
      cases hki : i.k <;> rw [hki] at g5 hk <;> cases dd <;> simp [TK.fits, TK.agg] at g5 hk <;> rfl
    rw [run_loadAt_mid w b off t cs dd hr g2 hrow (by rw [hT.info, hl])]
    simp
  | false =>
    have hs := hT.one hk
    rw [hs] at hl
    match cs, hl with
    | [c], _ =>
      have hc := hr 0 c rfl
      have hrun := hT.agg_run w
      rw [hk] at hrun
      simp only [Instr.loadAt, Instr.sureAddr, Sem.run_bind, Sem.run_pure, Result.andThen_ok, loadVar, hrun]
      simp only [Bool.false_eq_true, if_false, load]
      simp only [Sem.run]
      rw [show (⟨b, off, none⟩ : Addr) = ⟨b, off + 0, none⟩ from rfl, hc]
      simp


/-- What is loaded of cells. -/
def loadV (i : TI) (rs : List R) : Option V := if i.k.agg then some (aggV rs) else match rs with | [r] => some (.one r) | _ => none

theorem loadV_rel {i : TI} {S : Sto} {μ : Mu} {H : Heap} {rs : List R} {vs : List Value} {y : V} (h : RRelL S μ H rs vs) (hy : loadV i rs = some y) : VRel S μ H y (if i.k.agg then .agg ⟨vs⟩ else vs.headD undef) := by
  unfold loadV at hy
  cases hk : i.k.agg with
  | true =>
    simp only [hk, if_true] at hy ⊢
    cases hy
    exact aggV_rel h
  | false =>
    simp only [hk, Bool.false_eq_true, if_false] at hy ⊢
    split at hy
    · cases hy
      simp only [RRelL] at h
      obtain ⟨v, vs', rfl, h1, rfl⟩ := h
      simpa [VRel] using h1
    · cases hy

theorem cutL {α : Type} {l : List α} {off k : Nat} (h : off + k ≤ l.length) : ((l.drop off).take k).length = k := by simp; omega

/-- A load out of a variable of the call's own. -/
theorem r_load {t tv : TypeId} {i : TI} {x : Operand} {id off : Nat} {cells : List R} {y : V} (hT : Tok P T) (ho : o.op = .load t x) (hd : o.dst = some d) (hdn : d < n) (hi : T[t]? = some (some i)) (hx : opv st x = some (.one (.vp id off)))
    (hh : st.h id = some (.var tv cells)) (hl : Nat.ble (off + i.size) cells.length = true) (hy : loadV i ((cells.drop off).take i.size) = some y) : Step P n o st ⟨opr x, [id]⟩ ⟨some (d, some y), []⟩ := by
  refine Step.value hd hdn fun st' ha G S μ a w hs => ?_
  have hh' : st'.h id = some (.var tv cells) := by rw [ha.2 id (by simp), hh]
  have hv := opv_rel hs hx ha.1
  simp only [VRel, RRel] at hv
  obtain ⟨t', cells', b, c, h1, h2, h3⟩ := hv
  obtain ⟨b', vs, g1, g2, g3, g4⟩ := hs.inv.obj id _ hh'
  rw [g1] at h2; cases h2
  have hlen := Nat.le_of_ble_eq_true hl
  have hvl := g3.length
  refine ⟨_, ?_, loadV_rel ((g3.drop off).take i.size) hy⟩
  simp only [execOp, ho, h3, Sem.run_bind, run_load (hT.get hi) w b off _ (range_of_vs g2 off i.size) (cutL (by omega)), Result.andThen_ok, Sem.run_pure]

/-- What is loaded of plain cells. -/
def loadC (i : TI) (l : List C) : Option V := if i.k.agg then some (.pa l) else match l with | [c] => some (.one (.c c)) | _ => none
theorem loadC_rel {i : TI} {S : Sto} {μ : Mu} {H : Heap} {l : List C} {vs : List Value} {y : V} (h : RepL S l vs) (hy : loadC i l = some y) : VRel S μ H y (if i.k.agg then .agg ⟨vs⟩ else vs.headD undef) := by
  unfold loadC at hy
  cases hk : i.k.agg with
  | true =>
    simp only [hk, if_true] at hy ⊢
    cases hy
    simp only [VRel]
    exact ⟨vs, rfl, h⟩
  | false =>
    simp only [hk, Bool.false_eq_true, if_false] at hy ⊢
    split at hy
    · cases hy
      simp only [RepL] at h
      obtain ⟨v, vs', rfl, h1, rfl⟩ := h
      simpa [VRel, RRel] using h1
    · cases hy

theorem range_of_cells {S : Sto} {w : World} (hh : Holds S w) {b off : Nat} {vs : List Value} (h : CellsAt S b off vs) : w.rangeAt b off vs := fun j v hj => hh.cell (h j v hj)

/-- A load through a pointer at cells that stay. -/
theorem r_load_pt {t : TypeId} {i : TI} {x : Operand} {l : List C} {y : V} (hT : Tok P T) (ho : o.op = .load t x) (hd : o.dst = some d) (hdn : d < n) (hi : T[t]? = some (some i)) (hx : opv st x = some (.one (.c (.pt l))))
    (hl : i.size ≤ l.length) (hy : loadC i (l.take i.size) = some y) : Step P n o st ⟨opr x, []⟩ ⟨some (d, some y), []⟩ := by
  refine Step.value hd hdn fun st' ha G S μ a w hs => ?_
  have hv := opv_rel hs hx ha.1
  simp only [VRel, RRel, Rep] at hv
  obtain ⟨b, off, h1, vs, h2, h3⟩ := hv
  have hvl := h2.length
  refine ⟨_, ?_, loadC_rel (h2.take i.size) hy⟩
  have hr := range_of_cells hs.inv.holds h3
  have hr' : w.rangeAt b off (vs.take i.size) := fun j v hj => by
    rw [List.getElem?_take] at hj
    split at hj
    · exact hr j v hj
    · cases hj
  simp only [execOp, ho, h1, Sem.run_bind, run_load (hT.get hi) w b off _ hr' (by simp; omega), Result.andThen_ok, Sem.run_pure]

theorem take_flat {α : Type} {es : Nat} : ∀ {l : List (List α)}, (∀ r ∈ l, r.length = es) → ∀ (k : Nat), ∀ r, l[k]? = some r → (l.flatten.drop (k * es)).take es = r
  | [], _, k, r, h => by simp at h
  | x :: xs, hl, 0, r, h => by
    simp at h; subst h
    have := hl x (by simp)
    simp [← this]
  | x :: xs, hl, k + 1, r, h => by
    simp at h
    have hx := hl x (by simp)
    have := take_flat (l := xs) (fun r hr => hl r (by simp [hr])) k r h
    rw [List.flatten_cons, List.drop_append, show (k + 1) * es - x.length = k * es by rw [hx, Nat.add_mul]; omega]
    rw [List.drop_of_length_le (by rw [hx, Nat.add_mul]; omega), List.nil_append]
    exact this
theorem length_flat {α : Type} {es : Nat} : ∀ {l : List (List α)}, (∀ r ∈ l, r.length = es) → l.flatten.length = l.length * es
  | [], _ => by simp
  | x :: xs, hl => by
    rw [List.flatten_cons, List.length_append, length_flat (fun r hr => hl r (by simp [hr])), hl x (by simp), List.length_cons, Nat.add_mul]
    omega

/-- Where an array's object lies. -/
theorem ORel.arr {S : Sto} {μ : Mu} {H : Heap} {w : World} {id : Nat} {te es : Nat} {elems : List (List C)} {fz : Nat} (h : ORel S μ H w id (.arr te es elems fz)) {b base cap : Nat} (hm : μ id = some (b, base, cap)) :
    (∀ r ∈ elems, r.length = es) ∧ ∃ vs, w.heap[b]? = some (.cells ⟨vs⟩ te (0, 0)) ∧
      base + cap * es ≤ vs.length ∧ elems.length ≤ cap ∧ cap ≤ maxLen ∧ RepL S elems.flatten ((vs.drop base).take (elems.length * es)) ∧
      (fz = 0 → ∀ o, base ≤ o → S.cell b o = none) ∧ (∀ o, base + elems.length * es ≤ o → S.cell b o = none) ∧ (fz = 2 → CellsAt S b base ((vs.drop base).take (elems.length * es))) := by
  obtain ⟨h0, ⟨h1, _⟩ | ⟨b', base', cap', vs, h1, h2⟩⟩ := h
  · rw [hm] at h1; cases h1
  · rw [hm] at h1; cases h1
    exact ⟨h0, vs, h2⟩

/-- One element's cells. -/
theorem row_vs {S : Sto} {es base : Nat} {elems : List (List C)} {vs : List Value} (h0 : ∀ r ∈ elems, r.length = es) (h : RepL S elems.flatten ((vs.drop base).take (elems.length * es))) {k : Nat} {r : List C} (hk : elems[k]? = some r) :
    RepL S r ((vs.drop (base + k * es)).take es) := by
  have h1 := (h.drop (k * es)).take es
  rw [take_flat h0 k r hk] at h1
  have hlt : k < elems.length := (List.getElem?_eq_some_iff.1 hk).1
  have hle : (k + 1) * es ≤ elems.length * es := Nat.mul_le_mul_right _ hlt
  rw [Nat.add_mul] at hle
  rw [List.drop_take, List.drop_drop, List.take_take] at h1
  rwa [Nat.min_eq_left (by omega)] at h1

/-- A load out of an element of the call's own. -/
theorem r_load_ep {t te es : Nat} {i : TI} {x : Operand} {id k fo sz : Nat} {elems : List (List C)} {fz : Nat} {r : List C} {y : V} (hT : Tok P T) (ho : o.op = .load t x) (hd : o.dst = some d) (hdn : d < n) (hi : T[t]? = some (some i)) (hx : opv st x = some (.one (.ep id k fo sz)))
    (hh : st.h id = some (.arr te es elems fz)) (hsz : sz = elems.length) (hr : elems[k]? = some r) (hl : fo + i.size ≤ es) (hy : loadC i ((r.drop fo).take i.size) = some y) : Step P n o st ⟨opr x, [id]⟩ ⟨some (d, some y), []⟩ := by
  refine Step.value hd hdn fun st' ha G S μ a w hs => ?_
  have hh' : st'.h id = some (.arr te es elems fz) := by rw [ha.2 id (by simp), hh]
  have hv := opv_rel hs hx ha.1
  simp only [VRel, RRel] at hv
  obtain ⟨_, hv | ⟨te', es', elems', fz', h1, h2, h3⟩⟩ := hv
  · rw [hh'] at hv; cases hv
  rw [hh'] at h1; cases h1
  obtain ⟨h4, b, base, cap, h5, h6⟩ := h3 hsz
  obtain ⟨g0, vs, g1, g2, g3, g4, g5, g6, g7⟩ := (hs.inv.obj id _ hh').arr h5
  have hrow := row_vs g0 g5 hr
  have hlr := hrow.length
  have hres : r.length = es := g0 r (List.mem_of_getElem? hr)
  have hld := ((hrow.drop fo).take i.size)
  have hlen := hld.length
  have hE : ((List.drop fo (List.take es (List.drop (base + k * es) vs))).take i.size) = (vs.drop (base + k * es + fo)).take i.size := by
    rw [List.drop_take, List.drop_drop, List.take_take, Nat.min_eq_left (by omega)]
  rw [hE] at hld hlen
  refine ⟨_, ?_, loadC_rel hld hy⟩
  simp only [execOp, ho, h6, Sem.run_bind, run_load (hT.get hi) w b (base + k * es + fo) _ (range_of_vs g1 _ i.size) (by rw [hlen]; simp; omega), Result.andThen_ok, Sem.run_pure]
end
end Go.AM
