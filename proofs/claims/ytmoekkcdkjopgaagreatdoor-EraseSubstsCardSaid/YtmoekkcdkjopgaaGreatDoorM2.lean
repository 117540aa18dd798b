/-
  Texts Am6, Am7, Am8, Am9, Am10 in one.
-/
import Derived.Test.YtmoekkcdkjopgaaGreatDoorM1
import Derived.Deep.MidRow
/- THE OPERATIONS, ONE BY ONE (3): memory. -/
namespace Go.AM
open Go
section
variable {P : Program} {n : Nat} {o : Oper} {st : St} {d : Nat} {T : TT}
theorem evolve_new {S : Sto} {μ : Mu} {H : Heap} {id : Nat} (h : H id = none) (p : Option (Nat × Nat × Nat)) (x : Option AObj) : Evolve S μ H S (upd μ id p) (upd H id x) :=
  ⟨S.le_refl, fun j o hj => by
    have hne : j ≠ id := fun e => by subst e; rw [h] at hj; cases hj
    exact ⟨o, by rw [upd_ne _ _ _ hne]; exact hj, o.succ_refl (upd_ne _ _ _ hne)⟩⟩
/-- A new object. -/
theorem Step.new {rd : Rd} {y : V} {id : Nat} {ao : AObj} (hd : o.dst = some d) (hdn : d < n) (hid : st.h id = none) (hrd : id ∈ rd.h)
    (h : ∀ st', Agree rd st st' → st'.h id = none → ∀ G S μ a w, Sim G n S μ st' a w → ∃ w' bo v c, (execOp a.eval o).run P w = .ok (.value v) w' ∧ WChg w w' w.heap.size bo ∧
      ORel S (upd μ id (some (w.heap.size, c))) (upd st'.h id (some ao)) w' id ao ∧ VRel S (upd μ id (some (w.heap.size, c))) (upd st'.h id (some ao)) y v) :
    Step P n o st rd ⟨some (d, some y), [(id, some ao)]⟩ := by
  intro st' ha G S μ a w K Q hs hk
  have hid' : st'.h id = none := by rw [ha.2 id hrd, hid]
  obtain ⟨w', bo, v, c, hr, hw, hO, hv⟩ := h st' ha hid' G S μ a w hs
  refine fun ro => wpIn_of_value hr ?_
  rw [hd]
  have hi := hs.inv.chg (id := id) (cap := c) (ao := ao) hw (.inl (Nat.le_refl _)) (evolve_new hid' _ _) hO
    (fun o v e => by obtain ⟨vs, t, fr, h1, _⟩ := hs.inv.holds.1 _ _ _ e; exact absurd (lt_of_some h1) (Nat.lt_irrefl _)) (fun m e => Nat.le_refl _)
  refine hk S (upd μ id (some (w.heap.size, c))) _ _ ?_
  have := hs.put hi (evolve_new hid' _ _) hdn (x := some y) (fun z hz => by cases hz; exact hv)
  unfold Eff.apply
  rw [updL_one]
  exact this
theorem no_cell {G : Ctx} {S : Sto} {μ : Mu} {H : Heap} {w : World} (h : Inv G S μ H w) (o : Nat) : S.cell w.heap.size o = none := by
  cases hc : S.cell w.heap.size o with
  | none => rfl
  | some v => obtain ⟨vs, t, fr, h1, _⟩ := h.holds.1 _ _ _ hc; exact absurd (lt_of_some h1) (Nat.lt_irrefl _)
theorem no_map {G : Ctx} {S : Sto} {μ : Mu} {H : Heap} {w : World} (h : Inv G S μ H w) : S.mapo w.heap.size = none := by
  cases hc : S.mapo w.heap.size with
  | none => rfl
  | some v => obtain ⟨es, clk⟩ := v; exact absurd (lt_of_some (h.holds.2 _ _ _ hc)) (Nat.lt_irrefl _)
theorem run_newRow (P : Program) (w : World) (t : TypeId) (cs : Array Value) : (newRow t cs).run P w = .ok ⟨w.heap.size, 0, none⟩ (w.alloc (.cells cs t)) := rfl
/-- 'var x T': a variable with cells of its own. -/
theorem r_alloc {t : TypeId} {i : TI} (id : Nat) (hT : Tok P T) (ho : o.op = .alloc t) (hd : o.dst = some d) (hdn : d < n) (hi : T[t]? = some (some i)) (hid : st.h id = none) :
    Step P n o st ⟨[], [id]⟩ ⟨some (d, some (.one (.vp id 0))), [(id, some (.var t (i.zero.map R.c)))]⟩ := by
  refine Step.new hd hdn hid (by simp) fun st' _ hid' G S μ a w hs => ?_
  obtain ⟨z, hz, hzr, _⟩ := (hT.get hi).zero_run
  refine ⟨_, _, .pointer (some ⟨w.heap.size, 0, none⟩), (0, 0), ?_, WChg.alloc w (.cells z.cells t), ?_, ?_⟩
  · simp [execOp, ho, Instr.alloc, hz, newVar, run_newRow]
  · exact ⟨w.heap.size, z.cells.toList, upd_same _ _ _, heap_alloc_new w _, (hzr S).toR, no_cell hs.inv⟩
  · simp only [VRel, RRel]
    exact ⟨t, _, _, _, upd_same _ _ _, upd_same _ _ _, rfl⟩
/-- A value put into a variable of its own. -/
theorem r_box {t : TypeId} {x : Operand} {y : V} {rs : List R} (id : Nat) (ho : o.op = .box t x) (hd : o.dst = some d) (hdn : d < n) (hx : opv st x = some y) (hc : cellsV y = some rs) (hid : st.h id = none) :
    Step P n o st ⟨opr x, [id]⟩ ⟨some (d, some (.one (.vp id 0))), [(id, some (.var t rs))]⟩ := by
  refine Step.new hd hdn hid (by simp) fun st' ha hid' G S μ a w hs => ?_
  have hv := opv_rel hs hx ha.1
  refine ⟨_, _, .pointer (some ⟨w.heap.size, 0, none⟩), (0, 0), ?_, WChg.alloc w (.cells (a.eval x).cells t), ?_, ?_⟩
  · simp [execOp, ho, Instr.box, newVar, run_newRow]
  · exact ⟨w.heap.size, (a.eval x).cells.toList, upd_same _ _ _, heap_alloc_new w _, RRelL.evolve (evolve_new hid' _ _) _ _ (cellsV_rel hv hc), no_cell hs.inv⟩
  · simp only [VRel, RRel]
    exact ⟨t, _, _, _, upd_same _ _ _, upd_same _ _ _, rfl⟩
/-- 'make(map[K]V)', 'map[K]V{}'. -/
theorem r_makeMap {t : TypeId} (id : Nat) (agg : Bool) (ho : o.op = .makeMap t none) (hd : o.dst = some d) (hdn : d < n) (hid : st.h id = none) :
    Step P n o st ⟨[], [id]⟩ ⟨some (d, some (.one (.mr id))), [(id, some (.map agg []))]⟩ := by
  refine Step.new hd hdn hid (by simp) fun st' _ hid' G S μ a w hs => ?_
  refine ⟨w.alloc (.map #[] 0), _, .map (some w.heap.size), (0, 0), ?_, WChg.alloc w (.map #[] 0), ?_, ?_⟩
  · simp only [execOp, ho, Instr.makeMap, Option.map_none]; rfl
  · exact ⟨w.heap.size, #[], 0, upd_same _ _ _, heap_alloc_new w _, .inr (by simp [RepEnts]), no_map hs.inv⟩
  · simp only [VRel, RRel]
    exact ⟨_, _, _, _, upd_same _ _ _, upd_same _ _ _, rfl⟩
/-! ### Loads -/
theorem range_of_vs {w : World} {b : Nat} {vs : List Value} {t : TypeId} (h : w.heap[b]? = some (.cells ⟨vs⟩ t (0, 0))) (off k : Nat) : w.rangeAt b off ((vs.drop off).take k) := by
  intro j v hj
  rw [cell_of_row w b (off + j) ⟨vs⟩ t (0, 0) h]
  rw [List.getElem?_take] at hj
  split at hj
  · rw [List.getElem?_drop] at hj
    simpa using hj
  · cases hj
/-- A load of cells that lie: what comes. -/
theorem run_load {t : TypeId} {i : TI} (hT : TIok P t i) (w : World) (b off : Nat) (cs : List Value) (hr : w.rangeAt b off cs) (hl : cs.length = i.size) :
    (Instr.loadAt t (.pointer (some ⟨b, off, none⟩))).run P w = .ok (if i.k.agg then .agg ⟨cs⟩ else cs.headD undef) w := by
  obtain ⟨inf, dd, z, g1, g2, g3, g4, g5, g6, g7, g8⟩ := hT.ex
  cases hk : i.k.agg with
  | true =>
    have hrow : dd.isRow = true := by
      cases hki : i.k <;> rw [hki] at g5 hk <;> cases dd <;> simp [TK.fits, TK.agg] at g5 hk <;> rfl
    rw [run_loadAt_mid w b off t cs dd hr g2 hrow (by rw [hT.info, hl])]
    simp
  | false =>
    have hs := hT.one hk
    rw [hs] at hl
    match cs, hl with
    | [c], _ =>
      have hc := hr 0 c rfl
      have hrun := hT.agg_run w
      rw [hk] at hrun
      simp only [Instr.loadAt, Instr.sureAddr, Sem.run_bind, Sem.run_pure, Result.andThen_ok, loadVar, hrun]
      simp only [Bool.false_eq_true, if_false, load]
      simp only [Sem.run]
      rw [show (⟨b, off, none⟩ : Addr) = ⟨b, off + 0, none⟩ from rfl, hc]
      simp
/-- What is loaded of cells. -/
def loadV (i : TI) (rs : List R) : Option V := if i.k.agg then some (aggV rs) else match rs with | [r] => some (.one r) | _ => none
theorem loadV_rel {i : TI} {S : Sto} {μ : Mu} {H : Heap} {rs : List R} {vs : List Value} {y : V} (h : RRelL S μ H rs vs) (hy : loadV i rs = some y) : VRel S μ H y (if i.k.agg then .agg ⟨vs⟩ else vs.headD undef) := by
  unfold loadV at hy
  cases hk : i.k.agg with
  | true =>
    simp only [hk, if_true] at hy ⊢
    cases hy
    exact aggV_rel h
  | false =>
    simp only [hk, Bool.false_eq_true, if_false] at hy ⊢
    split at hy
    · cases hy
      simp only [RRelL] at h
      obtain ⟨v, vs', rfl, h1, rfl⟩ := h
      simpa [VRel] using h1
    · cases hy
theorem cutL {α : Type} {l : List α} {off k : Nat} (h : off + k ≤ l.length) : ((l.drop off).take k).length = k := by simp; omega
/-- A load out of a variable of the call's own. -/
theorem r_load {t tv : TypeId} {i : TI} {x : Operand} {id off : Nat} {cells : List R} {y : V} (hT : Tok P T) (ho : o.op = .load t x) (hd : o.dst = some d) (hdn : d < n) (hi : T[t]? = some (some i)) (hx : opv st x = some (.one (.vp id off)))
    (hh : st.h id = some (.var tv cells)) (hl : Nat.ble (off + i.size) cells.length = true) (hy : loadV i ((cells.drop off).take i.size) = some y) : Step P n o st ⟨opr x, [id]⟩ ⟨some (d, some y), []⟩ := by
  refine Step.value hd hdn fun st' ha G S μ a w hs => ?_
  have hh' : st'.h id = some (.var tv cells) := by rw [ha.2 id (by simp), hh]
  have hv := opv_rel hs hx ha.1
  simp only [VRel, RRel] at hv
  obtain ⟨t', cells', b, c, h1, h2, h3⟩ := hv
  obtain ⟨b', vs, g1, g2, g3, g4⟩ := hs.inv.obj id _ hh'
  rw [g1] at h2; cases h2
  have hlen := Nat.le_of_ble_eq_true hl
  have hvl := g3.length
  refine ⟨_, ?_, loadV_rel ((g3.drop off).take i.size) hy⟩
  simp only [execOp, ho, h3, Sem.run_bind, run_load (hT.get hi) w b off _ (range_of_vs g2 off i.size) (cutL (by omega)), Result.andThen_ok, Sem.run_pure]
/-- What is loaded of plain cells. -/
def loadC (i : TI) (l : List C) : Option V := if i.k.agg then some (.pa l) else match l with | [c] => some (.one (.c c)) | _ => none
theorem loadC_rel {i : TI} {S : Sto} {μ : Mu} {H : Heap} {l : List C} {vs : List Value} {y : V} (h : RepL S l vs) (hy : loadC i l = some y) : VRel S μ H y (if i.k.agg then .agg ⟨vs⟩ else vs.headD undef) := by
  unfold loadC at hy
  cases hk : i.k.agg with
  | true =>
    simp only [hk, if_true] at hy ⊢
    cases hy
    simp only [VRel]
    exact ⟨vs, rfl, h⟩
  | false =>
    simp only [hk, Bool.false_eq_true, if_false] at hy ⊢
    split at hy
    · cases hy
      simp only [RepL] at h
      obtain ⟨v, vs', rfl, h1, rfl⟩ := h
      simpa [VRel, RRel] using h1
    · cases hy
theorem range_of_cells {S : Sto} {w : World} (hh : Holds S w) {b off : Nat} {vs : List Value} (h : CellsAt S b off vs) : w.rangeAt b off vs := fun j v hj => hh.cell (h j v hj)
/-- A load through a pointer at cells that stay. -/
theorem r_load_pt {t : TypeId} {i : TI} {x : Operand} {l : List C} {y : V} (hT : Tok P T) (ho : o.op = .load t x) (hd : o.dst = some d) (hdn : d < n) (hi : T[t]? = some (some i)) (hx : opv st x = some (.one (.c (.pt l))))
    (hl : i.size ≤ l.length) (hy : loadC i (l.take i.size) = some y) : Step P n o st ⟨opr x, []⟩ ⟨some (d, some y), []⟩ := by
  refine Step.value hd hdn fun st' ha G S μ a w hs => ?_
  have hv := opv_rel hs hx ha.1
  simp only [VRel, RRel, Rep] at hv
  obtain ⟨b, off, h1, vs, h2, h3⟩ := hv
  have hvl := h2.length
  refine ⟨_, ?_, loadC_rel (h2.take i.size) hy⟩
  have hr := range_of_cells hs.inv.holds h3
  have hr' : w.rangeAt b off (vs.take i.size) := fun j v hj => by
    rw [List.getElem?_take] at hj
    split at hj
    · exact hr j v hj
    · cases hj
  simp only [execOp, ho, h1, Sem.run_bind, run_load (hT.get hi) w b off _ hr' (by simp; omega), Result.andThen_ok, Sem.run_pure]
theorem take_flat {α : Type} {es : Nat} : ∀ {l : List (List α)}, (∀ r ∈ l, r.length = es) → ∀ (k : Nat), ∀ r, l[k]? = some r → (l.flatten.drop (k * es)).take es = r
  | [], _, k, r, h => by simp at h
  | x :: xs, hl, 0, r, h => by
    simp at h; subst h
    have := hl x (by simp)
    simp [← this]
  | x :: xs, hl, k + 1, r, h => by
    simp at h
    have hx := hl x (by simp)
    have := take_flat (l := xs) (fun r hr => hl r (by simp [hr])) k r h
    rw [List.flatten_cons, List.drop_append, show (k + 1) * es - x.length = k * es by rw [hx, Nat.add_mul]; omega]
    rw [List.drop_of_length_le (by rw [hx, Nat.add_mul]; omega), List.nil_append]
    exact this
theorem length_flat {α : Type} {es : Nat} : ∀ {l : List (List α)}, (∀ r ∈ l, r.length = es) → l.flatten.length = l.length * es
  | [], _ => by simp
  | x :: xs, hl => by
    rw [List.flatten_cons, List.length_append, length_flat (fun r hr => hl r (by simp [hr])), hl x (by simp), List.length_cons, Nat.add_mul]
    omega
/-- Where an array's object lies. -/
theorem ORel.arr {S : Sto} {μ : Mu} {H : Heap} {w : World} {id : Nat} {te es : Nat} {elems : List (List C)} {fz : Nat} (h : ORel S μ H w id (.arr te es elems fz)) {b base cap : Nat} (hm : μ id = some (b, base, cap)) :
    (∀ r ∈ elems, r.length = es) ∧ ∃ vs, w.heap[b]? = some (.cells ⟨vs⟩ te (0, 0)) ∧
      base + cap * es ≤ vs.length ∧ elems.length ≤ cap ∧ cap ≤ maxLen ∧ RepL S elems.flatten ((vs.drop base).take (elems.length * es)) ∧
      (fz = 0 → ∀ o, base ≤ o → S.cell b o = none) ∧ (∀ o, base + elems.length * es ≤ o → S.cell b o = none) ∧ (fz = 2 → CellsAt S b base ((vs.drop base).take (elems.length * es))) := by
  obtain ⟨h0, ⟨h1, _⟩ | ⟨b', base', cap', vs, h1, h2⟩⟩ := h
  · rw [hm] at h1; cases h1
  · rw [hm] at h1; cases h1
    exact ⟨h0, vs, h2⟩
/-- One element's cells. -/
theorem row_vs {S : Sto} {es base : Nat} {elems : List (List C)} {vs : List Value} (h0 : ∀ r ∈ elems, r.length = es) (h : RepL S elems.flatten ((vs.drop base).take (elems.length * es))) {k : Nat} {r : List C} (hk : elems[k]? = some r) :
    RepL S r ((vs.drop (base + k * es)).take es) := by
  have h1 := (h.drop (k * es)).take es
  rw [take_flat h0 k r hk] at h1
  have hlt : k < elems.length := (List.getElem?_eq_some_iff.1 hk).1
  have hle : (k + 1) * es ≤ elems.length * es := Nat.mul_le_mul_right _ hlt
  rw [Nat.add_mul] at hle
  rw [List.drop_take, List.drop_drop, List.take_take] at h1
  rwa [Nat.min_eq_left (by omega)] at h1
/-- A load out of an element of the call's own. -/
theorem r_load_ep {t te es : Nat} {i : TI} {x : Operand} {id k fo sz : Nat} {elems : List (List C)} {fz : Nat} {r : List C} {y : V} (hT : Tok P T) (ho : o.op = .load t x) (hd : o.dst = some d) (hdn : d < n) (hi : T[t]? = some (some i)) (hx : opv st x = some (.one (.ep id k fo sz)))
    (hh : st.h id = some (.arr te es elems fz)) (hsz : sz = elems.length) (hr : elems[k]? = some r) (hl : fo + i.size ≤ es) (hy : loadC i ((r.drop fo).take i.size) = some y) : Step P n o st ⟨opr x, [id]⟩ ⟨some (d, some y), []⟩ := by
  refine Step.value hd hdn fun st' ha G S μ a w hs => ?_
  have hh' : st'.h id = some (.arr te es elems fz) := by rw [ha.2 id (by simp), hh]
  have hv := opv_rel hs hx ha.1
  simp only [VRel, RRel] at hv
  obtain ⟨_, hv | ⟨te', es', elems', fz', h1, h2, h3⟩⟩ := hv
  · rw [hh'] at hv; cases hv
  rw [hh'] at h1; cases h1
  obtain ⟨h4, b, base, cap, h5, h6⟩ := h3 hsz
  obtain ⟨g0, vs, g1, g2, g3, g4, g5, g6, g7⟩ := (hs.inv.obj id _ hh').arr h5
  have hrow := row_vs g0 g5 hr
  have hlr := hrow.length
  have hres : r.length = es := g0 r (List.mem_of_getElem? hr)
  have hld := ((hrow.drop fo).take i.size)
  have hlen := hld.length
  have hE : ((List.drop fo (List.take es (List.drop (base + k * es) vs))).take i.size) = (vs.drop (base + k * es + fo)).take i.size := by
    rw [List.drop_take, List.drop_drop, List.take_take, Nat.min_eq_left (by omega)]
  rw [hE] at hld hlen
  refine ⟨_, ?_, loadC_rel hld hy⟩
  simp only [execOp, ho, h6, Sem.run_bind, run_load (hT.get hi) w b (base + k * es + fo) _ (range_of_vs g1 _ i.size) (by rw [hlen]; simp; omega), Result.andThen_ok, Sem.run_pure]
end
end Go.AM

/- THE OPERATIONS, ONE BY ONE (4): stores; addresses; lengths. -/
namespace Go.AM
open Go
section
variable {P : Program} {n : Nat} {o : Oper} {st : St} {d : Nat} {T : TT}
theorem run_store {t : TypeId} {i : TI} (hT : TIok P t i) (w : World) (b off : Nat) (vs news : List Value) (tb : TypeId) (v : Value) (hg : w.heap[b]? = some (.cells ⟨vs⟩ tb (0, 0))) (hv : v.cells.toList = news) (hl : news.length = i.size) (hfit : off + news.length ≤ vs.length) (h1 : ∀ u ∈ news, u.oneCell' = true) :
    (Instr.storeAt t (.pointer (some ⟨b, off, none⟩)) v).run P w = .ok () (w.setRow b ⟨vs.take off ++ news ++ vs.drop (off + news.length)⟩) := by
  have hsz : v.cells.size = i.size := by rw [← hl, ← hv]; simp
  have hst := run_storeCells_at (P := P) b off tb news 0 ⟨vs⟩ w hg (by simpa using hfit) h1
  simp only [Nat.add_zero] at hst
  simp only [Instr.storeAt, Instr.sureAddr, Sem.run_bind, Sem.run_pure, Result.andThen_ok, storeVar, hT.size_run w, hsz, hv]
  simp only [ne_eq, not_true_eq_false, if_false, hst]
theorem evolve_turn {S : Sto} {μ : Mu} {H : Heap} {id : Nat} {o o' : AObj} {p : Nat × Nat × Nat} (h : H id = some o) (hm : μ id = some p) (hs : o.succ True o') : Evolve S μ H S (upd μ id (some p)) (upd H id (some o')) := by
  refine ⟨S.le_refl, fun j x hj => ?_⟩
  by_cases hne : j = id
  · subst hne
    rw [h] at hj; cases hj
    refine ⟨o', upd_same _ _ _, ?_⟩
    have he : upd μ j (some p) j = μ j := by rw [upd_same, hm]
    rw [he]
    simpa using hs
  · exact ⟨x, by rw [upd_ne _ _ _ hne]; exact hj, x.succ_refl (upd_ne _ _ _ hne)⟩
/-- An object turns in its block. -/
theorem Step.turn {rd : Rd} {id : Nat} {ao ao' : AObj} (hd : o.dst = none) (hid : st.h id = some ao) (hrd : id ∈ rd.h) (hsucc : ao.succ True ao')
    (h : ∀ st', Agree rd st st' → st'.h id = some ao → ∀ G S μ a w, Sim G n S μ st' a w → ∃ w' bo b c, (execOp a.eval o).run P w = .ok .skip w' ∧ μ id = some (b, c) ∧ WChg w w' b bo ∧
      ORel S (upd μ id (some (b, c))) (upd st'.h id (some ao')) w' id ao' ∧ (∀ o v, S.cell b o = some v → ∃ vs t fr, bo = .cells vs t fr ∧ vs[o]? = some v) ∧ (∀ m, S.mapo b = some m → w.heap.size ≤ b)) :
    Step P n o st rd ⟨none, [(id, some ao')]⟩ := by
  intro st' ha G S μ a w K Q hs hk
  have hid' : st'.h id = some ao := by rw [ha.2 id hrd, hid]
  obtain ⟨w', bo, b, c, hr, hm, hw, hO, hS, hSm⟩ := h st' ha hid' G S μ a w hs
  refine fun ro => wpIn_of_skip hr ?_
  rw [hd]
  have hE := evolve_turn (S := S) (μ := μ) hid' hm hsucc
  have hi := hs.inv.chg (id := id) (cap := c) (ao := ao') hw (.inr ⟨ao, c, hid', hm⟩) hE hO hS hSm
  refine hk S (upd μ id (some (b, c))) _ _ ?_
  have := hs.put_none hi hE undef
  unfold Eff.apply
  rw [updL_one]
  exact this
def splice {α : Type} (l : List α) (off : Nat) (new : List α) : List α := l.take off ++ new ++ l.drop (off + new.length)
theorem map_none_of {S : Sto} {w : World} (h : Holds S w) {b : Nat} {x : Array Value} {t : TypeId} {f : Nat × Nat} (hb : w.heap[b]? = some (.cells x t f)) (m : Array MapEntry × Nat) (e : S.mapo b = some m) : w.heap.size ≤ b := by
  obtain ⟨es, clk⟩ := m
  have := h.2 b es clk e
  rw [hb] at this
  cases this
/-- A store into a variable of the call's own. -/
theorem r_store {t tv : TypeId} {i : TI} {x y : Operand} {id off : Nat} {cells rs : List R} {v : V} (hT : Tok P T) (ho : o.op = .store t x y) (hd : o.dst = none) (hi : T[t]? = some (some i)) (hx : opv st x = some (.one (.vp id off)))
    (hy : opv st y = some v) (hc : cellsV v = some rs) (hh : st.h id = some (.var tv cells)) (hrs : rs.length = i.size) (hl : Nat.ble (off + i.size) cells.length = true) :
    Step P n o st ⟨opr x ++ opr y, [id]⟩ ⟨none, [(id, some (.var tv (splice cells off rs)))]⟩ := by
  refine Step.turn hd hh (by simp) (by simp [AObj.succ]) fun st' ha hh' G S μ a w hs => ?_
  have hvx := opv_rel hs hx fun t ht => ha.1 t (by simp [ht])
  have hvy := opv_rel hs hy fun t ht => ha.1 t (by simp [ht])
  simp only [VRel, RRel] at hvx
  obtain ⟨t', cells', b, c, h1, h2, h3⟩ := hvx
  obtain ⟨b', vs, g1, g2, g3, g4⟩ := hs.inv.obj id _ hh'
  rw [g1] at h2; cases h2
  have hlen := Nat.le_of_ble_eq_true hl
  have hvl := g3.length
  have hrel := cellsV_rel hvy hc
  have hnl := hrel.length
  have hrun := run_store (hT.get hi) w b off vs (a.eval y).cells.toList tv (a.eval y) g2 rfl (by omega) (by omega) hrel.one
  have hE := evolve_turn (S := S) (μ := μ) (o' := .var tv (splice cells off rs)) hh' g1 (by simp [AObj.succ])
  have hW := WChg.setRow w b ⟨vs⟩ ⟨vs.take off ++ (a.eval y).cells.toList ++ vs.drop (off + (a.eval y).cells.toList.length)⟩ tv (0, 0) g2
  refine ⟨_, _, b, (0, 0), ?_, g1, hW, ⟨b, _, upd_same _ _ _, hW.new, ?_, g4⟩, (fun o v e => by rw [g4] at e; cases e), fun m e => map_none_of hs.inv.holds g2 m e⟩
  · simp only [execOp, ho, h3, Sem.run_bind, hrun, Result.andThen_ok, Sem.run_pure]
  · have h1 := RRelL.evolve hE _ _ (g3.take off)
    have h2 := RRelL.evolve hE _ _ hrel
    have h3 := RRelL.evolve hE _ _ (g3.drop (off + rs.length))
    rw [← hnl] at h3
    have := (h1.append h2).append h3
    rw [show splice cells off rs = cells.take off ++ rs ++ cells.drop (off + (a.eval y).cells.toList.length) by rw [hnl]; rfl] at this ⊢
    exact this
theorem flat_at {α : Type} {es : Nat} : ∀ {l : List (List α)}, (∀ r ∈ l, r.length = es) → ∀ (k : Nat) (r : List α), l[k]? = some r →
    (l.take k).flatten = l.flatten.take (k * es) ∧ (l.drop (k + 1)).flatten = l.flatten.drop (k * es + es)
  | [], _, k, r, h => by simp at h
  | x :: xs, hl, 0, r, _ => by
    have hx := hl x (by simp)
    simp only [List.take_zero, List.flatten_nil, Nat.zero_mul, Nat.zero_add, List.drop_succ_cons, List.drop_zero, List.flatten_cons, true_and]
    rw [List.drop_append, hx, Nat.sub_self, List.drop_zero, List.drop_of_length_le (by omega), List.nil_append]
  | x :: xs, hl, k + 1, r, h => by
    have hx := hl x (by simp)
    simp at h
    obtain ⟨h1, h2⟩ := flat_at (l := xs) (fun r hr => hl r (by simp [hr])) k r h
    simp only [List.take_succ_cons, List.flatten_cons, List.drop_succ_cons]
    rw [h1, h2, List.take_append, List.drop_append, hx]
    have e1 : (k + 1) * es - es = k * es := by rw [Nat.add_mul]; omega
    have e2 : (k + 1) * es + es - es = k * es + es := by rw [Nat.add_mul]; omega
    rw [e1, e2, List.take_of_length_le (l := x) (by rw [hx, Nat.add_mul]; omega), List.drop_of_length_le (l := x) (by rw [hx, Nat.add_mul]; omega), List.nil_append]
    exact ⟨rfl, rfl⟩
/-- A store into an element of the call's own. -/
theorem r_store_ep {t te es : Nat} {i : TI} {x y : Operand} {id k fo sz : Nat} {elems : List (List C)} {v : V} {rs : List R} {cs r : List C} (hT : Tok P T) (ho : o.op = .store t x y) (hd : o.dst = none) (hi : T[t]? = some (some i)) (hx : opv st x = some (.one (.ep id k fo sz)))
    (hy : opv st y = some v) (hc : cellsV v = some rs) (hp : pureL rs = some cs) (hh : st.h id = some (.arr te es elems 0)) (hsz : sz = elems.length) (hr : elems[k]? = some r) (hcs : cs.length = i.size) (hl : fo + i.size ≤ es) :
    Step P n o st ⟨opr x ++ opr y, [id]⟩ ⟨none, [(id, some (.arr te es (elems.set k (splice r fo cs)) 0))]⟩ := by
  refine Step.turn hd hh (by simp) (by simp [AObj.succ]) fun st' ha hh' G S μ a w hs => ?_
  have hvx := opv_rel hs hx fun t ht => ha.1 t (by simp [ht])
  have hvy := opv_rel hs hy fun t ht => ha.1 t (by simp [ht])
  simp only [VRel, RRel] at hvx
  obtain ⟨_, hv | ⟨te', es', elems', fz', h1, h2, h3⟩⟩ := hvx
  · rw [hh'] at hv; cases hv
  rw [hh'] at h1; cases h1
  obtain ⟨h4, b, base, cap, h5, h6⟩ := h3 hsz
  obtain ⟨g0, vs, g1, g2, g3, g4, g5, g6, g7⟩ := (hs.inv.obj id _ hh').arr h5
  have hrel := cellsV_rel hvy hc
  rw [pureL_eq hp] at hrel
  have hrep := hrel.pure
  have hone := hrel.one
  have hnl := hrep.length
  have hk : k < elems.length := (List.getElem?_eq_some_iff.1 hr).1
  have hres : r.length = es := g0 r (List.mem_of_getElem? hr)
  have hke : (k + 1) * es ≤ elems.length * es := Nat.mul_le_mul_right _ hk
  have hce : elems.length * es ≤ cap * es := Nat.mul_le_mul_right _ g3
  rw [Nat.add_mul] at hke
  generalize hnews : (a.eval y).cells.toList = news at *
  have hrun := run_store (hT.get hi) w b (base + k * es + fo) vs news te (a.eval y) g1 hnews (by omega) (by omega) hone
  have hE := evolve_turn (S := S) (μ := μ) (o' := .arr te es (elems.set k (splice r fo cs)) 0) hh' h5 (by simp [AObj.succ])
  have hrow := row_vs g0 g5 hr
  have hflat := flat_at g0 k r hr
  have hlen : (elems.set k (splice r fo cs)).length = elems.length := by simp
  have hW := WChg.setRow w b ⟨vs⟩ ⟨vs.take (base + k * es + fo) ++ news ++ vs.drop (base + k * es + fo + news.length)⟩ te (0, 0) g1
  refine ⟨_, _, b, (base, cap), ?_, h5, hW, ⟨?_, .inr ⟨b, base, cap, _, upd_same _ _ _, hW.new, ?_, by rw [hlen]; exact g3, g4, ?_, g6, by rw [hlen]; exact g7.1, fun e => by cases e⟩⟩, fun o v e => ?_, fun m e => map_none_of hs.inv.holds g1 m e⟩
  · simp only [execOp, ho, h6, Sem.run_bind, hrun, Result.andThen_ok, Sem.run_pure]
  · intro q hq
    rcases List.mem_or_eq_of_mem_set hq with hq | rfl
    · exact g0 q hq
    · unfold splice
      simp
      omega
  · simp only [List.length_append, List.length_take, List.length_drop]
    omega
  · rw [hlen]
    have e1 : (elems.set k (splice r fo cs)).flatten = elems.flatten.take (k * es) ++ (r.take fo ++ cs ++ r.drop (fo + cs.length)) ++ elems.flatten.drop (k * es + es) := by
      rw [List.set_eq_take_append_cons_drop, if_pos hk, List.flatten_append, List.flatten_cons, hflat.1, hflat.2, ← List.append_assoc]
      rfl
    have e2 : ((vs.take (base + k * es + fo) ++ news ++ vs.drop (base + k * es + fo + news.length)).drop base).take (elems.length * es) =
        ((vs.drop base).take (elems.length * es)).take (k * es) ++ ((((vs.drop (base + k * es)).take es).take fo) ++ news ++ (((vs.drop (base + k * es)).take es).drop (fo + cs.length))) ++ ((vs.drop base).take (elems.length * es)).drop (k * es + es) := by
      apply List.ext_getElem?
      intro j
      simp only [List.getElem?_take, List.getElem?_drop, List.getElem?_append, List.length_append, List.length_take, List.length_drop]
      have hm1 : min (k * es) (min (elems.length * es) (vs.length - base)) = k * es := by omega
      have hm2 : min (base + k * es + fo) vs.length = base + k * es + fo := by omega
      have hm3 : min fo es = fo := by omega
      have hm4 : min es (vs.length - (base + k * es)) = es := by omega
      simp only [hm1, hm2, hm3, hm4, hnl]
      by_cases c1 : j < k * es
      · have a1 : j < elems.length * es := by omega
        have a2 : base + j < base + k * es + fo := by omega
        have a3 : base + j < base + k * es + fo + cs.length := by omega
        have a4 : j < k * es + (fo + cs.length + (es - (fo + cs.length))) := by omega
        simp [c1, a1, a2, a3, a4]
      · by_cases c2 : j < k * es + fo
        · have a1 : j < elems.length * es := by omega
          have a2 : base + j < base + k * es + fo := by omega
          have a3 : base + j < base + k * es + fo + cs.length := by omega
          have a4 : j < k * es + (fo + cs.length + (es - (fo + cs.length))) := by omega
          have a5 : j - k * es < fo + cs.length := by omega
          have a6 : j - k * es < fo := by omega
          have a7 : j - k * es < es := by omega
          simp [c1, a1, a2, a3, a4, a5, a6, a7, show base + k * es + (j - k * es) = base + j by omega]
        · by_cases c3 : j < k * es + fo + cs.length
          · have a1 : j < elems.length * es := by omega
            have a2 : ¬ base + j < base + k * es + fo := by omega
            have a3 : base + j < base + k * es + fo + cs.length := by omega
            have a4 : j < k * es + (fo + cs.length + (es - (fo + cs.length))) := by omega
            have a5 : j - k * es < fo + cs.length := by omega
            have a6 : ¬ j - k * es < fo := by omega
            simp [c1, a1, a2, a3, a4, a5, a6, show base + j - (base + k * es + fo) = j - k * es - fo by omega]
          · by_cases c4 : j < k * es + es
            · have a1 : j < elems.length * es := by omega
              have a3 : ¬ base + j < base + k * es + fo + cs.length := by omega
              have a4 : j < k * es + (fo + cs.length + (es - (fo + cs.length))) := by omega
              have a5 : ¬ j - k * es < fo + cs.length := by omega
              have a6 : fo + cs.length + (j - k * es - (fo + cs.length)) < es := by omega
              simp [c1, a1, a3, a4, a5, a6, show base + k * es + fo + cs.length + (base + j - (base + k * es + fo + cs.length)) = base + j by omega, show base + k * es + (fo + cs.length + (j - k * es - (fo + cs.length))) = base + j by omega]
            · have a3 : ¬ base + j < base + k * es + fo + cs.length := by omega
              have a4 : ¬ j < k * es + (fo + cs.length + (es - (fo + cs.length))) := by omega
              by_cases c5 : j < elems.length * es
              · have a5 : k * es + es + (j - (k * es + (fo + cs.length + (es - (fo + cs.length))))) < elems.length * es := by omega
                simp [a3, a4, c5, a5, show base + k * es + fo + cs.length + (base + j - (base + k * es + fo + cs.length)) = base + j by omega, show base + (k * es + es + (j - (k * es + (fo + cs.length + (es - (fo + cs.length)))))) = base + j by omega]
              · have a5 : ¬ k * es + es + (j - (k * es + (fo + cs.length + (es - (fo + cs.length))))) < elems.length * es := by omega
                simp [a4, c5, a5]
    rw [e1]
    show RepL S _ (((vs.take (base + k * es + fo) ++ news ++ vs.drop (base + k * es + fo + news.length)).drop base).take (elems.length * es))
    rw [e2]
    exact ((g5.take (k * es)).append (((hrow.take fo).append hrep).append (hrow.drop (fo + cs.length)))).append (g5.drop (k * es + es))
  · -- what stays is not touched
    by_cases hb : base ≤ o
    · rw [g6 rfl o hb] at e; cases e
    · obtain ⟨vs0, t0, fr0, q1, q2⟩ := hs.inv.holds.1 b o v e
      rw [g1] at q1; cases q1
      refine ⟨_, _, _, rfl, ?_⟩
      simp only [List.getElem?_toArray] at q2 ⊢
      have hlt : o < vs.length := (List.getElem?_eq_some_iff.1 q2).1
      rw [List.append_assoc, List.getElem?_append_left (by simp; omega), List.getElem?_take, if_pos (by omega)]
      exact q2
/-! ### Addresses -/
theorem addr_mid (b off k : Nat) : (⟨b, off, none⟩ : Addr).add k = ⟨b, off + k, none⟩ := Addr.add_mid b off k
theorem run_fieldAt {t ft : TypeId} {i fi : TI} {fs : List (Nat × TypeId)} {f foff : Nat} (hT : Tok P T) (hi : T[t]? = some (some i)) (hk : i.k = .st fs) (hf : fs[f]? = some (foff, ft)) (hfi : T[ft]? = some (some fi)) (hz : fi.size ≠ 0) (w : World) (b off : Nat) :
    (Instr.fieldAt t (.pointer (some ⟨b, off, none⟩)) f).run P w = .ok (.pointer (some ⟨b, off + foff, none⟩)) w := by
  obtain ⟨fields, h1, h2⟩ := (hT.get hi).struct hk
  rw [h2] at hf
  simp only [List.getElem?_map, Option.map_eq_some_iff, Array.getElem?_toList] at hf
  obtain ⟨fl, h3, h4⟩ := hf
  cases h4
  simp only [Instr.fieldAt, Sem.run_bind, run_underlying h1 w, Result.andThen_ok, h3, Instr.sureAddr, Sem.run_pure, fieldPlace, (hT.get hfi).size_run w]
  simp [hz, addr_mid]
theorem r_field_vp {t ft : TypeId} {i fi : TI} {fs : List (Nat × TypeId)} {f foff : Nat} {x : Operand} {id off : Nat} (hT : Tok P T) (ho : o.op = .fieldAddr t x f) (hd : o.dst = some d) (hdn : d < n) (hi : T[t]? = some (some i)) (hk : i.k = .st fs) (hf : fs[f]? = some (foff, ft)) (hfi : T[ft]? = some (some fi)) (hz : fi.size ≠ 0)
    (hx : opv st x = some (.one (.vp id off))) : Step P n o st ⟨opr x, []⟩ ⟨some (d, some (.one (.vp id (off + foff)))), []⟩ := by
  refine Step.value hd hdn fun st' ha G S μ a w hs => ?_
  have hv := opv_rel hs hx ha.1
  simp only [VRel, RRel] at hv
  obtain ⟨t', cells', b, c, h1, h2, h3⟩ := hv
  refine ⟨.pointer (some ⟨b, off + foff, none⟩), ?_, ?_⟩
  · simp only [execOp, ho, h3, Sem.run_bind, run_fieldAt hT hi hk hf hfi hz, Result.andThen_ok, Sem.run_pure]
  · simp only [VRel, RRel]
    exact ⟨t', cells', b, c, h1, h2, rfl⟩
theorem r_field_pt {t ft : TypeId} {i fi : TI} {fs : List (Nat × TypeId)} {f foff : Nat} {x : Operand} {l : List C} (hT : Tok P T) (ho : o.op = .fieldAddr t x f) (hd : o.dst = some d) (hdn : d < n) (hi : T[t]? = some (some i)) (hk : i.k = .st fs) (hf : fs[f]? = some (foff, ft)) (hfi : T[ft]? = some (some fi)) (hz : fi.size ≠ 0)
    (hx : opv st x = some (.one (.c (.pt l)))) : Step P n o st ⟨opr x, []⟩ ⟨some (d, some (.one (.c (.pt (l.drop foff))))), []⟩ := by
  refine Step.value hd hdn fun st' ha G S μ a w hs => ?_
  have hv := opv_rel hs hx ha.1
  simp only [VRel, RRel, Rep] at hv
  obtain ⟨b, off, h1, vs, h2, h3⟩ := hv
  refine ⟨.pointer (some ⟨b, off + foff, none⟩), ?_, ?_⟩
  · simp only [execOp, ho, h1, Sem.run_bind, run_fieldAt hT hi hk hf hfi hz, Result.andThen_ok, Sem.run_pure]
  · simp only [VRel, RRel, Rep]
    refine ⟨b, off + foff, rfl, vs.drop foff, h2.drop foff, fun j v hj => ?_⟩
    rw [List.getElem?_drop] at hj
    have := h3 (foff + j) v hj
    rwa [← Nat.add_assoc] at this
theorem r_field_ep {t ft : TypeId} {i fi : TI} {fs : List (Nat × TypeId)} {f foff : Nat} {x : Operand} {id k fo sz : Nat} (hT : Tok P T) (ho : o.op = .fieldAddr t x f) (hd : o.dst = some d) (hdn : d < n) (hi : T[t]? = some (some i)) (hk : i.k = .st fs) (hf : fs[f]? = some (foff, ft)) (hfi : T[ft]? = some (some fi)) (hz : fi.size ≠ 0)
    {te es : Nat} {elems : List (List C)} {fz : Nat} (hx : opv st x = some (.one (.ep id k fo sz))) (hh : st.h id = some (.arr te es elems fz)) (hsz : sz = elems.length) : Step P n o st ⟨opr x, [id]⟩ ⟨some (d, some (.one (.ep id k (fo + foff) sz))), []⟩ := by
  refine Step.value hd hdn fun st' ha G S μ a w hs => ?_
  have hv := opv_rel hs hx ha.1
  have hh' : st'.h id = some (.arr te es elems fz) := by rw [ha.2 id (by simp), hh]
  simp only [VRel, RRel] at hv
  obtain ⟨_, hv | ⟨te', es', elems', fz', h1, h2, h3⟩⟩ := hv
  · rw [hh'] at hv; cases hv
  rw [hh'] at h1; cases h1
  obtain ⟨h4, b, base, cap, h5, h6⟩ := h3 hsz
  refine ⟨.pointer (some ⟨b, base + k * es + fo + foff, none⟩), ?_, ?_⟩
  · simp only [execOp, ho, h6, Sem.run_bind, run_fieldAt hT hi hk hf hfi hz, Result.andThen_ok, Sem.run_pure]
  · simp only [VRel, RRel]
    exact ⟨⟨_, rfl⟩, .inr ⟨te, es, elems, fz, hh', h2, fun _ => ⟨h4, b, base, cap, h5, by rw [Nat.add_assoc]⟩⟩⟩
theorem run_indexAt {t e : TypeId} {i ei : TI} (hT : Tok P T) (hi : T[t]? = some (some i)) (hk : i.k = .sl e) (hei : T[e]? = some (some ei)) (w : World) (b off len cap k : Nat) (kk : IntKind) (hlt : k < len) :
    (Instr.indexAt t (.slice (some ⟨b, off, none⟩) len cap) (.int kk (k : Int))).run P w = .ok (.pointer (some ⟨b, off + k * ei.size, none⟩)) w := by
  have h1 := (hT.get hi).slice hk
  simp only [Instr.indexAt, asIntOf, Sem.run_bind, Sem.run_pure, Result.andThen_ok, run_underlying h1 w]
  rw [if_pos ⟨by omega, by omega⟩]
  simp only [Sem.run_bind, (hT.get hei).size_run w, Result.andThen_ok, Sem.run_pure, Int.toNat_natCast, addr_mid]
theorem r_index {t e : TypeId} {i ei : TI} {x y : Operand} {es k : Nat} {kk : IntKind} {m : Int} {l : List (List C)} {r : List C} (hT : Tok P T) (ho : o.op = .indexAddr t x y) (hd : o.dst = some d) (hdn : d < n) (hi : T[t]? = some (some i)) (hk : i.k = .sl e) (hei : T[e]? = some (some ei)) (hes : ei.size = es)
    (hx : opv st x = some (.one (.c (.sl es l)))) (hy : opv st y = some (I kk m)) (hm : m = (k : Int)) (hr : l[k]? = some r) : Step P n o st ⟨opr x ++ opr y, []⟩ ⟨some (d, some (.one (.c (.pt r)))), []⟩ := by
  refine Step.value hd hdn fun st' ha G S μ a w hs => ?_
  have hv := opv_rel hs hx (agree2 ha).1
  have hv2 := one_int (opv_rel hs hy (agree2 ha).2)
  have hlt : k < l.length := (List.getElem?_eq_some_iff.1 hr).1
  simp only [VRel, RRel, Rep] at hv
  obtain ⟨ad, len, cap, h1, h2, h3, h4, h5, h6, b, off, h7, h8⟩ := hv
  cases ad with
  | none => have := (h5 rfl).1; omega
  | some ad =>
    obtain ⟨h9, h10⟩ := h7 ad rfl
    have h11 := h6 ad rfl (by omega)
    have had : ad = ⟨b, off, none⟩ := by cases ad; simp_all
    subst had
    subst hm
    obtain ⟨q1, vs, q2, q3⟩ := h8.get k r hr
    refine ⟨.pointer (some ⟨b, off + k * es, none⟩), ?_, ?_⟩
    · simp only [execOp, ho, h1, hv2, Sem.run_bind, run_indexAt hT hi hk hei w b off len cap k kk (by omega), Result.andThen_ok, Sem.run_pure, hes]
    · simp only [VRel, RRel, Rep]
      exact ⟨b, off + k * es, rfl, vs, q2, q3⟩
theorem r_index_hs {t e : TypeId} {i ei : TI} {x y : Operand} {te es k id off len sz : Nat} {kk : IntKind} {m : Int} {elems : List (List C)} {fz : Nat} (hT : Tok P T) (ho : o.op = .indexAddr t x y) (hd : o.dst = some d) (hdn : d < n) (hi : T[t]? = some (some i)) (hk : i.k = .sl e) (hei : T[e]? = some (some ei)) (hes : ei.size = es)
    (hx : opv st x = some (.one (.hs id off len sz))) (hh : st.h id = some (.arr te es elems fz)) (hsz : sz = elems.length) (hy : opv st y = some (I kk m)) (hm : m = (k : Int)) (hlt : k < len) : Step P n o st ⟨opr x ++ opr y, [id]⟩ ⟨some (d, some (.one (.ep id (off + k) 0 sz))), []⟩ := by
  refine Step.value hd hdn fun st' ha G S μ a w hs => ?_
  have hv := opv_rel hs hx fun t ht => ha.1 t (by simp [ht])
  have hv2 := one_int (opv_rel hs hy fun t ht => ha.1 t (by simp [ht]))
  have hh' : st'.h id = some (.arr te es elems fz) := by rw [ha.2 id (by simp), hh]
  simp only [VRel, RRel] at hv
  obtain ⟨_, hv | ⟨te', es', elems', fz', h1, h2, h3⟩⟩ := hv
  · rw [hh'] at hv; cases hv
  rw [hh'] at h1; cases h1
  obtain ⟨h4, ⟨h5, h6, h7⟩ | ⟨b, base, cap, h5, h6⟩⟩ := h3 hsz
  · subst h6; simp at hsz; omega
  subst hm
  refine ⟨.pointer (some ⟨b, base + (off + k) * es + 0, none⟩), ?_, ?_⟩
  · simp only [execOp, ho, h6, hv2, Sem.run_bind, run_indexAt hT hi hk hei w b (base + off * es) len _ k kk hlt, Result.andThen_ok, Sem.run_pure, hes, Nat.add_zero]
    rw [show base + off * es + k * es = base + (off + k) * es by rw [Nat.add_mul]; omega]
  · simp only [VRel, RRel]
    exact ⟨⟨_, rfl⟩, .inr ⟨te, es, elems, fz, hh', h2, fun _ => ⟨by omega, b, base, cap, h5, rfl⟩⟩⟩
theorem run_indexAtA {t e : TypeId} {m : Nat} {i ei : TI} (hT : Tok P T) (hi : T[t]? = some (some i)) (hk : i.k = .ar m e) (hei : T[e]? = some (some ei)) (w : World) (b off k : Nat) (kk : IntKind) (hlt : k < m) :
    (Instr.indexAt t (.pointer (some ⟨b, off, none⟩)) (.int kk (k : Int))).run P w = .ok (.pointer (some ⟨b, off + k * ei.size, none⟩)) w := by
  have h1 := (hT.get hi).array hk
  have h2 : (Instr.sureAddr (.pointer (some ⟨b, off, none⟩))).run P w = .ok ⟨b, off, none⟩ w := by simp [Instr.sureAddr]
  simp only [Instr.indexAt, asIntOf, Sem.run_bind, Sem.run_pure, Result.andThen_ok, run_underlying h1 w, h2]
  rw [if_pos ⟨by omega, by omega⟩]
  simp only [Sem.run_bind, (hT.get hei).size_run w, Result.andThen_ok, Sem.run_pure, Int.toNat_natCast, addr_mid]
/-- An element of an array that is a variable. -/
theorem r_index_arr {t e : TypeId} {i ei : TI} {x y : Operand} {id off k m : Nat} {kk : IntKind} {q : Int} (hT : Tok P T) (ho : o.op = .indexAddr t x y) (hd : o.dst = some d) (hdn : d < n) (hi : T[t]? = some (some i)) (hk : i.k = .ar m e) (hei : T[e]? = some (some ei))
    (hx : opv st x = some (.one (.vp id off))) (hy : opv st y = some (I kk q)) (hm : q = (k : Int)) (hlt : k < m) : Step P n o st ⟨opr x ++ opr y, []⟩ ⟨some (d, some (.one (.vp id (off + k * ei.size)))), []⟩ := by
  refine Step.value hd hdn fun st' ha G S μ a w hs => ?_
  have hv := opv_rel hs hx (agree2 ha).1
  have hv2 := one_int (opv_rel hs hy (agree2 ha).2)
  simp only [VRel, RRel] at hv
  obtain ⟨t', cells', b, c, h1, h2, h3⟩ := hv
  subst hm
  refine ⟨.pointer (some ⟨b, off + k * ei.size, none⟩), ?_, ?_⟩
  · simp only [execOp, ho, h3, hv2, Sem.run_bind, run_indexAtA hT hi hk hei w b off k kk hlt, Result.andThen_ok, Sem.run_pure]
  · simp only [VRel, RRel]
    exact ⟨t', cells', b, c, h1, h2, rfl⟩
/-- A pointer that is not nil. -/
def notNil : V → Bool
  | .one (.vp _ _) => true
  | .one (.c (.pt _)) => true
  | .one (.pas _) => true
  | _ => false
theorem r_nilCheck {x : Operand} {y : V} (ho : o.op = .nilCheck x) (hd : o.dst = some d) (hdn : d < n) (hx : opv st x = some y) (hnn : notNil y = true) : Step P n o st ⟨opr x, []⟩ ⟨some (d, some y), []⟩ := by
  refine Step.value hd hdn fun st' ha G S μ a w hs => ⟨a.eval x, ?_, opv_rel hs hx ha.1⟩
  have hv := opv_rel hs hx ha.1
  unfold notNil at hnn
  split at hnn
  · simp only [VRel, RRel] at hv
    obtain ⟨t', cells', b, c, h1, h2, h3⟩ := hv
    simp [execOp, ho, h3]
  · simp only [VRel, RRel, Rep] at hv
    obtain ⟨b, off, h1, _⟩ := hv
    simp [execOp, ho, h1]
  · simp only [VRel, RRel] at hv
    obtain ⟨b, off, h1, _⟩ := hv
    simp [execOp, ho, h1]
  · cases hnn
/-! ### len -/
theorem run_len {t : TypeId} {x : Operand} {a : Act} {w : World} {u : Value} {m : Int} (ho : o.op = .call { callee := .builtin .len, args := #[x], argTypes := #[t] }) (hx : a.eval x = u) (hr : (Builtin.len_ #[t] o.type #[u]).run P w = .ok (goInt m) w) :
    (execOp a.eval o).run P w = .ok (.value (goInt m)) w := by
  simp only [execOp, ho, resolve, List.map_toArray, List.map_cons, List.map_nil, hx, Sem.run_bind, Sem.run_pure, Result.andThen_ok, invoke, builtin, hr]
theorem r_len_sl {t e : TypeId} {i : TI} {x : Operand} {es : Nat} {l : List (List C)} (hT : Tok P T) (ho : o.op = .call { callee := .builtin .len, args := #[x], argTypes := #[t] }) (hd : o.dst = some d) (hdn : d < n) (hi : T[t]? = some (some i)) (hk : i.k = .sl e)
    (hx : opv st x = some (.one (.c (.sl es l)))) : Step P n o st ⟨opr x, []⟩ ⟨some (d, some (I .i64 (l.length : Int))), []⟩ := by
  refine Step.value hd hdn fun st' ha G S μ a w hs => ?_
  have hv := opv_rel hs hx ha.1
  simp only [VRel, RRel, Rep] at hv
  obtain ⟨ad, len, cap, h1, h2, _⟩ := hv
  refine ⟨goInt l.length, run_len ho h1 ?_, by simp [VRel, RRel, Rep, goInt]⟩
  simp [Builtin.len_, run_underlying ((hT.get hi).slice hk) w, h2]
theorem r_len_nl {t e : TypeId} {i : TI} {x : Operand} (hT : Tok P T) (ho : o.op = .call { callee := .builtin .len, args := #[x], argTypes := #[t] }) (hd : o.dst = some d) (hdn : d < n) (hi : T[t]? = some (some i)) (hk : i.k = .sl e)
    (hx : opv st x = some (.one (.c .nl))) : Step P n o st ⟨opr x, []⟩ ⟨some (d, some (I .i64 0)), []⟩ := by
  refine Step.value hd hdn fun st' ha G S μ a w hs => ?_
  have hv := opv_rel hs hx ha.1
  simp only [VRel, RRel, Rep] at hv
  refine ⟨goInt 0, run_len ho hv ?_, by simp [VRel, RRel, Rep, goInt]⟩
  simp [Builtin.len_, run_underlying ((hT.get hi).slice hk) w]
theorem r_len_hs {t e : TypeId} {i : TI} {x : Operand} {te es id off len sz : Nat} {elems : List (List C)} {fz : Nat} (hT : Tok P T) (ho : o.op = .call { callee := .builtin .len, args := #[x], argTypes := #[t] }) (hd : o.dst = some d) (hdn : d < n) (hi : T[t]? = some (some i)) (hk : i.k = .sl e)
    (hx : opv st x = some (.one (.hs id off len sz))) (hh : st.h id = some (.arr te es elems fz)) (hsz : sz = elems.length) : Step P n o st ⟨opr x, [id]⟩ ⟨some (d, some (I .i64 (len : Int))), []⟩ := by
  refine Step.value hd hdn fun st' ha G S μ a w hs => ?_
  have hv := opv_rel hs hx ha.1
  have hh' : st'.h id = some (.arr te es elems fz) := by rw [ha.2 id (by simp), hh]
  simp only [VRel, RRel] at hv
  obtain ⟨_, hv | ⟨te', es', elems', fz', h1, h2, h3⟩⟩ := hv
  · rw [hh'] at hv; cases hv
  rw [hh'] at h1; cases h1
  obtain ⟨h4, ⟨h5, h6, h7⟩ | ⟨b, base, cap, h5, h6⟩⟩ := h3 hsz
  · subst h6
    simp at hsz
    have hl0 : len = 0 := by omega
    refine ⟨goInt len, run_len ho h7 ?_, by simp [VRel, RRel, Rep, goInt]⟩
    simp [Builtin.len_, run_underlying ((hT.get hi).slice hk) w, hl0]
  · refine ⟨goInt len, run_len ho h6 ?_, by simp [VRel, RRel, Rep, goInt]⟩
    simp [Builtin.len_, run_underlying ((hT.get hi).slice hk) w]
theorem r_len_str {t : TypeId} {i : TI} {x : Operand} {s : List UInt8} (hT : Tok P T) (ho : o.op = .call { callee := .builtin .len, args := #[x], argTypes := #[t] }) (hd : o.dst = some d) (hdn : d < n) (hi : T[t]? = some (some i)) (hk : i.k = .str)
    (hx : opv st x = some (Go.AM.T s)) : Step P n o st ⟨opr x, []⟩ ⟨some (d, some (I .i64 (s.length : Int))), []⟩ := by
  refine Step.value hd hdn fun st' ha G S μ a w hs => ?_
  have hv := one_str (opv_rel hs hx ha.1)
  refine ⟨goInt s.length, run_len ho hv ?_, by simp [VRel, RRel, Rep, goInt]⟩
  simp [Builtin.len_, run_underlying ((hT.get hi).str hk) w]
  rfl
end
end Go.AM

/- THE OPERATIONS, ONE BY ONE (5): literals; append; pieces. -/
namespace Go.AM
open Go
section
variable {P : Program} {n : Nat} {o : Oper} {st : St} {d : Nat} {T : TT}
theorem foldl_set (off : Nat) : ∀ (vs : List Value) (j : Nat) (cells : Array Value), off + j + vs.length ≤ cells.size →
    (vs.zipIdx j).foldl (fun cs (x : Value × Nat) => cs.setIfInBounds (off + x.2) x.1) cells = ⟨splice cells.toList (off + j) vs⟩
  | [], j, cells, _ => by simp [splice]
  | v :: vs, j, cells, h => by
    simp only [List.length_cons] at h
    have ih := foldl_set off vs (j + 1) (cells.setIfInBounds (off + j) v) (by simp; omega)
    simp only [List.zipIdx_cons, List.foldl_cons, ih]
    congr 1
    unfold splice
    simp only [Array.toList_setIfInBounds]
    apply List.ext_getElem?
    intro k
    simp only [List.getElem?_append, List.length_append, List.length_take, List.length_set, Array.length_toList, List.length_cons, List.getElem?_take, List.getElem?_drop, List.getElem?_set]
    have hm1 : min (off + (j + 1)) cells.size = off + j + 1 := by omega
    have hm2 : min (off + j) cells.size = off + j := by omega
    simp only [hm1, hm2]
    by_cases c1 : k < off + j
    · have a1 : k < off + j + 1 + vs.length := by omega
      have a2 : k < off + j + 1 := by omega
      have a3 : k < off + (j + 1) := by omega
      have a4 : k < off + j + (vs.length + 1) := by omega
      have a5 : ¬ off + j = k := by omega
      simp [c1, a1, a2, a3, a4, a5]
    · by_cases c2 : k = off + j
      · subst c2
        have a1 : off + j < off + j + 1 + vs.length := by omega
        have a5 : off + j < cells.size := by omega
        have a6 : off + j < off + (j + 1) := by omega
        simp [a1, a5, a6]
      · by_cases c3 : k < off + j + 1 + vs.length
        · have a2 : ¬ k < off + j + 1 := by omega
          have a4 : k < off + j + (vs.length + 1) := by omega
          have a6 : k - (off + j) = (k - (off + j + 1)) + 1 := by omega
          simp [c1, c3, a2, a4, a6]
        · have a4 : ¬ k < off + j + (vs.length + 1) := by omega
          have a5 : ¬ off + j = k := by omega
          simp [c3, a4, a5, show off + (j + 1) + vs.length + (k - (off + j + 1 + vs.length)) = k by omega, show off + j + (vs.length + 1) + (k - (off + j + (vs.length + 1))) = k by omega]
/-- The parts of a literal. -/
def partsV (st : St) : List (Nat × Operand) → Option (List (Nat × List R))
  | [] => some []
  | (i, x) :: ps => match opv st x with
    | some v => match cellsV v with
      | some rs => match partsV st ps with | some l => some ((i, rs) :: l) | none => none
      | none => none
    | none => none
def partsR : List (Nat × Operand) → List Nat
  | [] => []
  | (_, x) :: ps => opr x ++ partsR ps
/-- Cells, filled with parts. -/
def fillR (places : List (Nat × Nat)) : List R → List (Nat × List R) → Option (List R)
  | cells, [] => some cells
  | cells, (i, rs) :: ps => match places[i]? with
    | some (off, size) => if Nat.beq rs.length size && Nat.ble (off + rs.length) cells.length then fillR places (splice cells off rs) ps else none
    | none => none
def placesT (T : TT) : List (Nat × TypeId) → Option (List (Nat × Nat))
  | [] => some []
  | (off, t) :: fs => match T[t]? with
    | some (some i) => match placesT T fs with | some l => some ((off, i.size) :: l) | none => none
    | _ => none
theorem partsV_rel {G : Ctx} {S : Sto} {μ : Mu} {st' : St} {a : Act} {w : World} (hs : Sim G n S μ st' a w) : ∀ (ps : List (Nat × Operand)) (l : List (Nat × List R)), partsV st ps = some l → (∀ t ∈ partsR ps, st'.e t = st.e t) →
    ∃ vs : List (Nat × Value), ps.map (fun (i, x) => (i, a.eval x)) = vs ∧ vs.length = l.length ∧ ∀ (k : Nat) (p : Nat × List R), l[k]? = some p → ∃ v : Value, vs[k]? = some (p.1, v) ∧ RRelL S μ st'.h p.2 v.cells.toList := by
  intro ps
  induction ps with
  | nil => intro l h _; simp [partsV] at h; subst h; exact ⟨[], rfl, rfl, fun k p h => by simp at h⟩
  | cons p ps ih =>
    obtain ⟨i, x⟩ := p
    intro l h ha
    simp only [partsV] at h
    split at h
    · rename_i v hv
      split at h
      · rename_i rs hc
        split at h
        · rename_i l' hl'
          cases h
          obtain ⟨vs, h1, h2, h3⟩ := ih l' hl' fun t ht => ha t (by simp [partsR, ht])
          refine ⟨(i, a.eval x) :: vs, by simp [h1], by simp [h2], fun k q hq => ?_⟩
          cases k with
          | zero =>
            simp at hq; subst hq
            exact ⟨a.eval x, rfl, cellsV_rel (opv_rel hs hv fun t ht => ha t (by simp [partsR, ht])) hc⟩
          | succ k => simp at hq; simpa using h3 k q hq
        · cases h
      · cases h
    · cases h
theorem splice_rel {S : Sto} {μ : Mu} {H : Heap} {cells rs : List R} {vs us : List Value} {off : Nat} (h : RRelL S μ H cells vs) (k : RRelL S μ H rs us) : RRelL S μ H (splice cells off rs) (splice vs off us) := by
  have hl := k.length
  unfold splice
  rw [hl]
  exact ((h.take off).append k).append (h.drop _)
theorem fillR_rel {S : Sto} {μ : Mu} {H : Heap} {places : List (Nat × Nat)} : ∀ (ps : List (Nat × List R)) (vs : List (Nat × Value)) (cells : List R) (cs : Array Value) (out : List R), fillR places cells ps = some out → RRelL S μ H cells cs.toList →
    vs.length = ps.length → (∀ (k : Nat) (p : Nat × List R), ps[k]? = some p → ∃ v : Value, vs[k]? = some (p.1, v) ∧ RRelL S μ H p.2 v.cells.toList) →
    ∃ out', Instr.fill (places[·]?) cs vs = some out' ∧ RRelL S μ H out out'.toList := by
  intro ps
  induction ps with
  | nil =>
    intro vs cells cs out h hr hl _
    simp at hl; subst hl
    simp [fillR] at h; subst h
    exact ⟨cs, rfl, hr⟩
  | cons p ps ih =>
    intro vs cells cs out h hr hl hp
    obtain ⟨i, rs⟩ := p
    match vs, hl with
    | q :: vs, hl =>
      obtain ⟨v, hv, hrel⟩ := hp 0 (i, rs) rfl
      simp at hv; subst hv
      simp only [fillR] at h
      split at h
      · rename_i off size hpl
        split at h
        · rename_i hc
          simp only [Bool.and_eq_true] at hc
          have hc1 := Nat.eq_of_beq_eq_true hc.1
          have hc2 := Nat.le_of_ble_eq_true hc.2
          have hvl := hrel.length
          have hcl := hr.length
          simp only [Array.length_toList] at hvl hcl
          have hset := foldl_set off v.cells.toList 0 cs (by simp; omega)
          obtain ⟨out', h1, h2⟩ := ih vs (splice cells off rs) ⟨splice cs.toList off v.cells.toList⟩ out h (splice_rel hr hrel) (by simpa using hl) fun k p hk => by simpa using hp (k + 1) p (by simpa using hk)
          refine ⟨out', ?_, h2⟩
          simp only [Instr.fill]
          rw [hpl]
          simp only []
          have hcond : (v.cells.size ≠ size || decide (off + v.cells.size > cs.size)) = false := by
            simp only [Bool.or_eq_false_iff, decide_eq_false_iff_not]
            exact ⟨by simp; omega, by omega⟩
          simp only [hcond, Bool.false_eq_true, if_false]
          have hset' : (v.cells.zipIdx.foldl (fun cs (x : Value × Nat) => cs.setIfInBounds (off + x.2) x.1) cs) = ⟨splice cs.toList off v.cells.toList⟩ := by
            rw [← Array.foldl_toList, Array.toList_zipIdx]
            simpa using hset
          rw [← h1]
          congr 1
        · cases h
      · cases h
theorem placesT_ok (hT : Tok P T) : ∀ (fs : List (Nat × TypeId)) (fields : List Field) (places : List (Nat × Nat)), fs = fields.map (fun f => (f.offset, f.type)) → placesT T fs = some places →
    fields.mapM (fun f => (P.info? f.type).map fun i => (f.offset, i.size)) = some places
  | _, [], places, h, hp => by simp at h; subst h; simp [placesT] at hp; subst hp; rfl
  | _, f :: fields, places, h, hp => by
    simp only [List.map_cons] at h
    subst h
    simp only [placesT] at hp
    split at hp
    · rename_i i hi
      split at hp
      · rename_i l hl
        cases hp
        have ih := placesT_ok hT _ fields l rfl hl
        have hsz := (hT.get hi).info
        simp only [List.mapM_cons, ih]
        cases hq : P.info? f.type with
        | none => simp [hq] at hsz
        | some inf =>
          simp [hq] at hsz
          simp [hsz]
      · cases hp
    · cases hp
/-- A struct's literal. -/
theorem r_build {t : TypeId} {i : TI} {fs : List (Nat × TypeId)} {places : List (Nat × Nat)} {parts : Array (Nat × Operand)} {ps : List (Nat × List R)} {out : List R} (hT : Tok P T) (ho : o.op = .build t parts) (hd : o.dst = some d) (hdn : d < n) (hi : T[t]? = some (some i)) (hk : i.k = .st fs)
    (hpl : placesT T fs = some places) (hps : partsV st parts.toList = some ps) (hf : fillR places (i.zero.map R.c) ps = some out) : Step P n o st ⟨partsR parts.toList, []⟩ ⟨some (d, some (aggV out)), []⟩ := by
  refine Step.value hd hdn fun st' ha G S μ a w hs => ?_
  obtain ⟨vs, h1, h2, h3⟩ := partsV_rel hs _ _ hps ha.1
  obtain ⟨fields, hu, hfs⟩ := (hT.get hi).struct hk
  obtain ⟨inf, dd, z, g1, g2, g3, g4, g5, g6, g7, g8⟩ := (hT.get hi).ex
  obtain ⟨out', h4, h5⟩ := fillR_rel (S := S) (μ := μ) (H := st'.h) ps vs (i.zero.map R.c) z.cells out hf (checkL_rep g7).toR h2 h3
  refine ⟨.agg out', ?_, ?_⟩
  · have hb : P.built t (parts.map fun (i, x) => (i, a.eval x)).toList = some out' := by
      unfold Program.built
      simp only [g1, hu, g6, placesT_ok hT fs fields.toList places hfs hpl]
      rw [← h4, ← h1]
      simp
    simp only [execOp, ho, Sem.run_bind, run_build w t _ out' hb, Result.andThen_ok, Sem.run_pure]
  · have := aggV_rel h5
    simpa using this
/-- A field of a value. -/
theorem r_field {t ft : TypeId} {i fi : TI} {fs : List (Nat × TypeId)} {f foff : Nat} {x : Operand} {v y : V} {rs : List R} (hT : Tok P T) (ho : o.op = .field t x f) (hd : o.dst = some d) (hdn : d < n) (hi : T[t]? = some (some i)) (hk : i.k = .st fs) (hf : fs[f]? = some (foff, ft)) (hfi : T[ft]? = some (some fi))
    (hx : opv st x = some v) (hag : (match v with | .pa _ => true | .ma _ => true | _ => false) = true) (hc : cellsV v = some rs) (hl : Nat.ble (foff + fi.size) rs.length = true) (hy : loadV fi ((rs.drop foff).take fi.size) = some y) : Step P n o st ⟨opr x, []⟩ ⟨some (d, some y), []⟩ := by
  refine Step.value hd hdn fun st' ha G S μ a w hs => ?_
  have hv := opv_rel hs hx ha.1
  have hrel := cellsV_rel hv hc
  have hagg : ∃ cs, a.eval x = .agg cs := by
    cases v <;> simp only [VRel] at hv <;> simp at hag
    · obtain ⟨vs, h, _⟩ := hv; exact ⟨_, h⟩
    · obtain ⟨vs, h, _⟩ := hv; exact ⟨_, h⟩
  obtain ⟨cs, hcs⟩ := hagg
  rw [hcs] at hrel
  simp only [Value.cells] at hrel
  have hll := hrel.length
  have hl' := Nat.le_of_ble_eq_true hl
  simp only [Array.length_toList] at hll
  obtain ⟨fields, h1, h2⟩ := (hT.get hi).struct hk
  rw [h2] at hf
  simp only [List.getElem?_map, Option.map_eq_some_iff, Array.getElem?_toList] at hf
  obtain ⟨fl, h3, h4⟩ := hf
  cases h4
  have hres := loadV_rel ((hrel.drop fl.offset).take fi.size) hy
  refine ⟨_, ?_, hres⟩
  simp only [execOp, ho, hcs, Sem.run_bind, Instr.field, run_underlying h1 w, Result.andThen_ok, h3, asAgg, Sem.run_pure, part, (hT.get hfi).agg_run w]
  cases hka : fi.k.agg with
  | true =>
    simp only [if_true, Sem.run_bind, (hT.get hfi).size_run w, Result.andThen_ok, Sem.run_pure]
    congr 3
    have : (cs.extract fl.offset (fl.offset + fi.size)).toList = (cs.toList.drop fl.offset).take fi.size := by simp
    rw [← this]
  | false =>
    have h1s := (hT.get hfi).one hka
    simp only [Bool.false_eq_true, if_false]
    have hlt : fl.offset < cs.size := by omega
    have he : cs[fl.offset]? = some cs[fl.offset] := by simp [hlt]
    rw [he]
    simp only [Sem.run_pure, Result.andThen_ok]
    congr 2
    rw [h1s, List.take_one, List.head?_drop]
    simp [hlt]
end
end Go.AM

/- THE OPERATIONS, ONE BY ONE (6): slices' literals; append. -/
namespace Go.AM
open Go
/-- A nil slice is an empty one. -/
inductive Cle : C → C → Prop
  | refl {x} : Cle x x
  | nl {es} : Cle .nl (.sl es [])
  | sn {es l} : Cle (.sn es l) (.sl es l)
theorem Cle.rep {S : Sto} {x y : C} {v : Value} (h : Cle x y) (k : Rep S x v) : Rep S y v := by
  cases h with
  | refl => exact k
  | nl =>
    simp only [Rep] at k ⊢
    exact ⟨none, 0, 0, k, by simp, Nat.le_refl _, Nat.zero_le _, fun _ => ⟨rfl, rfl⟩, by simp, 0, 0, by simp, by simp [RepRows]⟩
  | sn =>
    simp only [Rep] at k ⊢
    obtain ⟨b, o, sp, len, cap, h1, h2, h3, h4, hsp, h5⟩ := k
    exact ⟨some ⟨b, o, sp⟩, len, cap, h1, h2, h3, h4, by simp, by rintro ad ⟨⟩; exact hsp, b, o, by rintro ad ⟨⟩; exact ⟨rfl, rfl⟩, h5⟩
/-- Cells as plain data: what refers to an array that is wholly frozen reads as a slice. -/
inductive PureL (h : Heap) : List Nat → List R → List C → Prop
  | nil : PureL h [] [] []
  | c {ids rs cs x y} : Cle x y → PureL h ids rs cs → PureL h ids (.c x :: rs) (y :: cs)
  | hs {ids rs cs id off len sz te es elems e} : h id = some (.arr te es elems 2) → sz = elems.length → e = (elems.drop off).take len → PureL h ids rs cs → PureL h (id :: ids) (.hs id off len sz :: rs) (.sl es e :: cs)
  | any {ids rs cs r} : PureL h ids rs cs → PureL h ids (r :: rs) (.any :: cs)
  | ras {ids ids' ids0 rs cs n es l fl rows} : ids0 = ids' ++ ids → PureL h ids' l fl → fl = rows.flatten → (∀ r ∈ rows, r.length = es) → rows.length = n → PureL h ids rs cs → PureL h ids0 (.ras n es l :: rs) (.sl es rows :: cs)
theorem PureL.of_pure {h : Heap} : ∀ {cs : List C}, PureL h [] (cs.map R.c) cs
  | [] => .nil
  | _ :: _ => .c .refl PureL.of_pure
theorem PureL.of {h : Heap} {rs : List R} {cs : List C} (e : pureL rs = some cs) : PureL h [] rs cs := by
  rw [pureL_eq e]; exact .of_pure
/-- What is no plain data: of a value that nobody reads. -/
def purA : List R → List C
  | [] => []
  | .c x :: l => x :: purA l
  | _ :: l => .any :: purA l
theorem PureL.ofA {h : Heap} : ∀ {rs : List R}, PureL h [] rs (purA rs)
  | [] => .nil
  | .c _ :: _ => .c .refl .ofA
  | .hs .. :: _ => .any .ofA
  | .tl .. :: _ => .any .ofA
  | .vp .. :: _ => .any .ofA
  | .ep .. :: _ => .any .ofA
  | .mr .. :: _ => .any .ofA
  | .clo .. :: _ => .any .ofA
  | .mth .. :: _ => .any .ofA
  | .yl .. :: _ => .any .ofA
  | .ra .. :: _ => .any .ofA
  | .rp .. :: _ => .any .ofA
  | .ras .. :: _ => .any .ofA
  | .pas .. :: _ => .any .ofA
/-- A frozen array reads as a slice. -/
theorem hs_rep {S : Sto} {μ : Mu} {H : Heap} {w : World} {id off len sz te es : Nat} {elems : List (List C)} {v : Value} (hO : ORel S μ H w id (.arr te es elems 2)) (hh : H id = some (.arr te es elems 2)) (hsz : sz = elems.length)
    (hv : RRel S μ H (.hs id off len sz) v) : Rep S (.sl es ((elems.drop off).take len)) v := by
  simp only [RRel] at hv
  obtain ⟨_, hv | ⟨te', es', elems', fz', h1, h2, h3⟩⟩ := hv
  · rw [hh] at hv; cases hv
  rw [hh] at h1; cases h1
  obtain ⟨h4, ⟨h5, h6, h7⟩ | ⟨b, base, cap, h5, h6⟩⟩ := h3 hsz
  · subst h6
    simp only [Rep]
    exact ⟨none, 0, 0, h7, by simp, Nat.le_refl _, Nat.zero_le _, fun _ => ⟨rfl, rfl⟩, by simp, 0, 0, by simp, by simp [RepRows]⟩
  · obtain ⟨g0, vs, g1, g2, g3, g4, g5, g6, g7, g8⟩ := hO.arr h5
    simp only [Rep]
    have hlen : ((elems.drop off).take len).length = len := by simp; omega
    refine ⟨_, len, cap - off, h6, hlen.symm, by omega, Nat.le_trans (Nat.sub_le _ _) g4, by simp, by rintro ad ⟨⟩; exact fun _ => rfl, b, base + off * es, by rintro ad ⟨⟩; exact ⟨rfl, rfl⟩, ?_⟩
    have := RepRows.of_flat g0 g5 (g8 rfl)
    exact (this.drop off).take len
theorem PureL.rel {S : Sto} {μ : Mu} {H H0 : Heap} {w : World} : ∀ {ids : List Nat} {rs : List R} {cs : List C} {vs : List Value}, PureL H0 ids rs cs → (∀ i ∈ ids, H i = H0 i) → (∀ id o, H id = some o → ORel S μ H w id o) → RRelL S μ H rs vs → RepL S cs vs := by
  intro ids rs cs vs hp
  induction hp generalizing vs with
  | nil => intro _ _ h; simp only [RRelL] at h; subst h; simp [RepL]
  | c hc _ ih =>
    intro hi hO h
    simp only [RRelL] at h
    obtain ⟨v, vs', rfl, h1, h2⟩ := h
    simp only [RRel] at h1
    simp only [RepL]
    exact ⟨v, vs', rfl, hc.rep h1, ih hi hO h2⟩
  | @ras ids ids' ids0 rs cs n es l fl rows hids _ hfl hrl hn _ ih' ih =>
    subst hids
    intro hi hO h
    simp only [RRelL] at h
    obtain ⟨v, vs', rfl, h1, h2⟩ := h
    simp only [RRel] at h1
    simp only [RepL]
    refine ⟨v, vs', rfl, ?_, ih (fun i hh => hi i (by simp [hh])) hO h2⟩
    obtain ⟨a, cap, g1, g2, g3, g4, g5, g6, b, o, g7, us, g8, g9⟩ := h1
    have g10 := ih' (fun i hh => hi i (by simp [hh])) hO g8
    subst hfl
    simp only [Rep]
    exact ⟨a, n, cap, g1, hn.symm, g3, g4, g5, fun ad e _ => g6 ad e, b, o, g7, RepRows.of_flat hrl g10 g9⟩
  | any _ ih =>
    intro hi hO h
    simp only [RRelL] at h
    obtain ⟨v, vs', rfl, h1, h2⟩ := h
    simp only [RepL]
    exact ⟨v, vs', rfl, by simp only [Rep]; exact h1.one, ih hi hO h2⟩
  | @hs ids rs cs id off len sz te es elems e he hsz hee _ ih =>
    intro hi hO h
    simp only [RRelL] at h
    obtain ⟨v, vs', rfl, h1, h2⟩ := h
    simp only [RepL]
    have hh : H id = some (.arr te es elems 2) := by rw [hi id (by simp), he]
    exact ⟨v, vs', rfl, by rw [hee]; exact hs_rep (hO id _ hh) hh hsz h1, ih (fun i h => hi i (by simp [h])) hO h2⟩
/-- The rows of a slice's literal, in order. -/
inductive RowsV (st : St) (es : Nat) : Nat → List Nat → List (Nat × Operand) → List (List C) → Prop
  | nil {k} : RowsV st es k [] [] []
  | cons {k ids ids' x ps v rs cs rows} : opv st x = some v → cellsV v = some rs → PureL st.h ids rs cs → Nat.beq rs.length es = true → RowsV st es (k + 1) ids' ps rows → RowsV st es k (ids ++ ids') ((k, x) :: ps) (cs :: rows)
section
variable {P : Program} {n : Nat} {o : Oper} {st : St} {d : Nat} {T : TT}
theorem rowsV_fill {G : Ctx} {S : Sto} {μ : Mu} {st' : St} {a : Act} {w : World} (hs : Sim G n S μ st' a w) {es : Nat} : ∀ {k : Nat} {ids : List Nat} {ps : List (Nat × Operand)} {rows : List (List C)}, RowsV st es k ids ps rows → (∀ t ∈ partsR ps, st'.e t = st.e t) → (∀ i ∈ ids, st'.h i = st.h i) →
    ∀ (cells : Array Value), cells.size = (k + ps.length) * es → ∃ out : Array Value, Instr.fill (fun i => some (i * es, es)) cells (ps.map fun (i, x) => (i, a.eval x)) = some out ∧ out.size = cells.size ∧
      ∃ us, RepL S rows.flatten us ∧ out.toList = cells.toList.take (k * es) ++ us ∧ (∀ r ∈ rows, r.length = es) := by
  intro k ids ps rows h
  induction h with
  | nil =>
    intro _ _ cells hc
    refine ⟨cells, rfl, rfl, [], by simp [RepL], ?_, by simp⟩
    rw [List.append_nil, List.take_of_length_le]
    simp at hc
    simp [hc]
  | @cons k ids ids' x ps v rs cs rows hv hc hp hl _ ih =>
    intro ha hi cells hsz
    have hl' := Nat.eq_of_beq_eq_true hl
    have hrel := cellsV_rel (opv_rel hs hv fun t ht => ha t (by simp [partsR, ht])) hc
    have hrep := hp.rel (fun i h => hi i (by simp [h])) hs.inv.obj hrel
    have hvl := hrel.length
    simp only [Array.length_toList] at hvl
    simp only [List.length_cons] at hsz
    have hke : (k + (ps.length + 1)) * es = k * es + es + ps.length * es := by
      rw [Nat.add_mul, Nat.add_mul]; omega
    have hset := foldl_set (k * es) (a.eval x).cells.toList 0 cells (by simp only [Array.length_toList]; omega)
    have hsl : (splice cells.toList (k * es) (a.eval x).cells.toList).length = cells.size := by
      unfold splice
      simp
      omega
    obtain ⟨out, h1, h2, us, h3, h4, h5⟩ := ih (fun t ht => ha t (by simp [partsR, ht])) (fun i h => hi i (by simp [h])) ⟨splice cells.toList (k * es) (a.eval x).cells.toList⟩ (by
      simp only [List.size_toArray, hsl, hsz]
      congr 1
      omega)
    refine ⟨out, ?_, by rw [h2]; simpa using hsl, (a.eval x).cells.toList ++ us, ?_, ?_, ?_⟩
    · simp only [List.map_cons, Instr.fill]
      have hcond : ((a.eval x).cells.size ≠ es || decide (k * es + (a.eval x).cells.size > cells.size)) = false := by
        simp only [Bool.or_eq_false_iff, decide_eq_false_iff_not]
        exact ⟨by simp; omega, by omega⟩
      simp only [hcond, Bool.false_eq_true, if_false]
      have hset' : ((a.eval x).cells.zipIdx.foldl (fun cs (x : Value × Nat) => cs.setIfInBounds (k * es + x.2) x.1) cells) = ⟨splice cells.toList (k * es) (a.eval x).cells.toList⟩ := by
        rw [← Array.foldl_toList, Array.toList_zipIdx]
        simpa using hset
      rw [← h1]
      congr 1
    · rw [List.flatten_cons]; exact hrep.append h3
    · rw [h4]
      have : (splice cells.toList (k * es) (a.eval x).cells.toList).take ((k + 1) * es) = cells.toList.take (k * es) ++ (a.eval x).cells.toList := by
        unfold splice
        apply List.take_left'
        simp
        rw [Nat.add_mul]
        omega
      show (splice cells.toList (k * es) (a.eval x).cells.toList).take ((k + 1) * es) ++ us = _
      rw [this, List.append_assoc]
    · intro r hr
      rcases List.mem_cons.1 hr with rfl | hr
      · have := hrep.length
        simp only [Array.length_toList] at this
        omega
      · exact h5 r hr
theorem RowsV.lengths {es k : Nat} {ids : List Nat} {ps : List (Nat × Operand)} {rows : List (List C)} (h : RowsV st es k ids ps rows) : rows.length = ps.length := by
  induction h with
  | nil => rfl
  | cons _ _ _ _ _ ih => simp [ih]
/-- '[]T{..}'. -/
theorem r_slice {t e : TypeId} {i ei : TI} {len : Nat} {parts : Array (Nat × Operand)} {ids : List Nat} {rows : List (List C)} (id : Nat) (hT : Tok P T) (ho : o.op = .buildSlice t len parts) (hd : o.dst = some d) (hdn : d < n) (hi : T[t]? = some (some i)) (hk : i.k = .sl e) (hei : T[e]? = some (some ei))
    (hrows : RowsV st ei.size 0 ids parts.toList rows) (hlen : Nat.beq len parts.size = true) (hsmall : Nat.ble (len * ei.size) 16777216 = true) (hsm1 : Nat.ble len 16777216 = true) (hid : st.h id = none) :
    Step P n o st ⟨partsR parts.toList, id :: ids⟩ ⟨some (d, some (.one (.hs id 0 len len))), [(id, some (.arr e ei.size rows 0))]⟩ := by
  refine Step.new hd hdn hid (by simp) fun st' ha hid' G S μ a w hs => ?_
  have hlen' := Nat.eq_of_beq_eq_true hlen
  have hsm := Nat.le_of_ble_eq_true hsmall
  obtain ⟨z, hz, hzr, _⟩ := (hT.get hei).zero_run
  have hzl := (hzr S).length
  rw [(hT.get hei).len] at hzl
  simp only [Array.length_toList] at hzl
  have hrl := hrows.lengths
  simp only [Array.length_toList] at hrl
  have key : ∀ (cells : Array Value), cells.size = len * ei.size → ∃ out : Array Value, Instr.fill (fun i => some (i * ei.size, ei.size)) cells (parts.map fun (i, x) => (i, a.eval x)).toList = some out ∧ out.size = len * ei.size ∧ RepL S rows.flatten out.toList ∧ (∀ r ∈ rows, r.length = ei.size) := by
    intro cells hc
    obtain ⟨out, h1, h2, us, h3, h4, h5⟩ := rowsV_fill hs hrows ha.1 (fun i h => ha.2 i (by simp [h])) cells (by rw [hc, hlen']; simp)
    refine ⟨out, by rw [← h1]; simp, by rw [h2, hc], ?_, h5⟩
    simp at h4
    rw [h4]; exact h3
  have hrun : ∃ out : Array Value, (Instr.buildSlice t len (parts.map fun (i, x) => (i, a.eval x))).run P w = .ok (.slice (some ⟨w.heap.size, 0, none⟩) len len) (w.alloc (.cells out e)) ∧ out.size = len * ei.size ∧ RepL S rows.flatten out.toList ∧ (∀ r ∈ rows, r.length = ei.size) := by
    by_cases h0 : len * ei.size = 0
    · obtain ⟨out, h1, h2, h3, h4⟩ := key ((Array.range (len * ei.size)).map ((#[] : Array Value)[· % (#[] : Array Value).size]!)) (by simp)
      refine ⟨out, ?_, h2, h3, h4⟩
      have hgt : ¬ len * ei.size > 2 ^ 24 := by omega
      simp only [Instr.buildSlice, Sem.run_bind, run_underlying ((hT.get hi).slice hk) w, Result.andThen_ok, (hT.get hei).size_run w]
      rw [if_neg hgt, if_pos h0]
      simp only [Sem.run_bind, Result.andThen_ok, Sem.run_pure, h1, run_newRow]
    · obtain ⟨out, h1, h2, h3, h4⟩ := key ((Array.range (len * ei.size)).map (z.cells[· % z.cells.size]!)) (by simp)
      refine ⟨out, ?_, h2, h3, h4⟩
      have hgt : ¬ len * ei.size > 2 ^ 24 := by omega
      simp only [Instr.buildSlice, Sem.run_bind, run_underlying ((hT.get hi).slice hk) w, Result.andThen_ok, (hT.get hei).size_run w]
      rw [if_neg hgt, if_neg h0]
      simp only [Sem.run_bind, hz w, Result.andThen_ok, Sem.run_pure, h1, run_newRow]
  obtain ⟨out, h1, h2, h3, h4⟩ := hrun
  have hlm : len ≤ maxLen := by
    have := Nat.le_of_ble_eq_true hsm1
    unfold maxLen
    omega
  refine ⟨_, _, .slice (some ⟨w.heap.size, 0, none⟩) len len, (0, len), ?_, WChg.alloc w (.cells out e), ?_, ?_⟩
  · simp only [execOp, ho, Sem.run_bind, h1, Result.andThen_ok, Sem.run_pure]
  · have hrl' : rows.length = len := by omega
    refine ⟨h4, .inr ⟨w.heap.size, 0, len, out.toList, upd_same _ _ _, heap_alloc_new w _, by simp [h2], by omega, ?_, ?_, fun _ o _ => no_cell hs.inv o, fun o _ => no_cell hs.inv o, fun e => by cases e⟩⟩
    · exact hlm
    · simp only [List.drop_zero]
      rw [List.take_of_length_le (by simp [h2, hrl'])]
      exact h3
  · simp only [VRel, RRel]
    have hrl' : rows.length = len := by omega
    exact ⟨⟨_, _, _, rfl⟩, .inr ⟨e, ei.size, rows, 0, upd_same _ _ _, by omega, fun _ => ⟨by omega, .inr ⟨w.heap.size, 0, len, upd_same _ _ _, by simp⟩⟩⟩⟩
end
end Go.AM

/- THE OPERATIONS, ONE BY ONE (7): append. -/
namespace Go.AM
open Go
/-- The elements of a slice that is read. -/
inductive Src (st : St) (es : Nat) : List Nat → V → List (List C) → Prop
  | hs {id off len sz te elems fz rows} : st.h id = some (.arr te es elems fz) → sz = elems.length → rows = (elems.drop off).take len → Src st es [id] (.one (.hs id off len sz)) rows
  | all {id sz te elems fz} : st.h id = some (.arr te es elems fz) → sz = elems.length → Src st es [id] (.one (.hs id 0 sz sz)) elems
  | sl {l} : Src st es [] (.one (.c (.sl es l))) l
  | nl : Src st es [] (.one (.c .nl)) []
  | sn {l} : Src st es [] (.one (.c (.sn es l))) l
theorem flat_take {α : Type} {es : Nat} : ∀ {l : List (List α)}, (∀ r ∈ l, r.length = es) → ∀ k : Nat, (l.take k).flatten = l.flatten.take (k * es)
  | [], _, k => by simp
  | x :: xs, hl, 0 => by simp
  | x :: xs, hl, k + 1 => by
    have hx := hl x (by simp)
    have ih := flat_take (l := xs) (fun r hr => hl r (by simp [hr])) k
    rw [List.take_succ_cons, List.flatten_cons, List.flatten_cons, ih, List.take_append, List.take_of_length_le (l := x) (by rw [hx, Nat.add_mul]; omega)]
    rw [show (k + 1) * es - x.length = k * es by rw [hx, Nat.add_mul]; omega]
theorem flat_drop {α : Type} {es : Nat} : ∀ {l : List (List α)}, (∀ r ∈ l, r.length = es) → ∀ k : Nat, (l.drop k).flatten = l.flatten.drop (k * es)
  | [], _, k => by simp
  | x :: xs, hl, 0 => by simp
  | x :: xs, hl, k + 1 => by
    have hx := hl x (by simp)
    have ih := flat_drop (l := xs) (fun r hr => hl r (by simp [hr])) k
    rw [List.drop_succ_cons, List.flatten_cons, ih, List.drop_append, List.drop_of_length_le (l := x) (by rw [hx, Nat.add_mul]; omega), List.nil_append]
    rw [show (k + 1) * es - x.length = k * es by rw [hx, Nat.add_mul]; omega]
theorem RepRows.flat {S : Sto} {es b : Nat} : ∀ {l : List (List C)} {o : Nat}, RepRows S es b l o → ∃ vs, RepL S l.flatten vs ∧ CellsAt S b o vs ∧ ∀ r ∈ l, r.length = es
  | [], _, _ => ⟨[], by simp [RepL], fun i v h => by simp at h, by simp⟩
  | r :: rs, o, h => by
    simp only [RepRows] at h
    obtain ⟨h1, ⟨vs, h2, h3⟩, h4⟩ := h
    obtain ⟨us, h5, h6, h7⟩ := RepRows.flat h4
    have hl := h2.length
    refine ⟨vs ++ us, by rw [List.flatten_cons]; exact h2.append h5, fun i v hi => ?_, ?_⟩
    · rw [List.getElem?_append] at hi
      split at hi
      · exact h3 i v hi
      · have := h6 _ v hi
        rwa [show o + es + (i - vs.length) = o + i by omega] at this
    · intro q hq
      rcases List.mem_cons.1 hq with rfl | hq
      · exact h1
      · exact h7 q hq
/-- What is read of it. -/
theorem Src.rel {G : Ctx} {n : Nat} {S : Sto} {μ : Mu} {st st' : St} {a : Act} {w : World} {es : Nat} {ids : List Nat} {y : V} {rows : List (List C)} {v : Value} (hs : Sim G n S μ st' a w) (h : Src st es ids y rows) (hi : ∀ i ∈ ids, st'.h i = st.h i) (hv : VRel S μ st'.h y v) :
    ∃ ad c news, v = .slice ad rows.length c ∧ RepL S rows.flatten news ∧ (∀ r ∈ rows, r.length = es) ∧ (ad = none → rows = []) ∧ ∀ x, ad = some x → ∀ j u, news[j]? = some u → w.cell? (x.add j) = some u := by
  have hall : ∀ {id off len sz te elems fz rows}, st.h id = some (.arr te es elems fz) → sz = elems.length → rows = (elems.drop off).take len → (∀ i ∈ [id], st'.h i = st.h i) → VRel S μ st'.h (.one (.hs id off len sz)) v →
      ∃ ad c news, v = .slice ad rows.length c ∧ RepL S rows.flatten news ∧ (∀ r ∈ rows, r.length = es) ∧ (ad = none → rows = []) ∧ ∀ x, ad = some x → ∀ j u, news[j]? = some u → w.cell? (x.add j) = some u := by
    intro id off len sz te elems fz rows he hsz hr hi hv
    have hh : st'.h id = some (.arr te es elems fz) := by rw [hi id (by simp), he]
    simp only [VRel, RRel] at hv
    obtain ⟨_, hv | ⟨te', es', elems', fz', h1, h2, h3⟩⟩ := hv
    · rw [hh] at hv; cases hv
    rw [hh] at h1; cases h1
    obtain ⟨h4, ⟨h5, h6, h7⟩ | ⟨b, base, cap, h5, h6⟩⟩ := h3 hsz
    · subst h6
      simp at hr
      subst hr
      exact ⟨none, 0, [], h7, by simp [RepL], by simp, fun _ => rfl, by simp⟩
    · obtain ⟨g0, vs, g1, g2, g3, g4, g5, g6, g7, g8⟩ := (hs.inv.obj id _ hh).arr h5
      have hrl : rows.length = len := by rw [hr]; simp; omega
      have hfl : rows.flatten = (elems.flatten.drop (off * es)).take (len * es) := by
        rw [hr, flat_take (fun r hr => g0 r (List.mem_of_mem_drop hr)), flat_drop g0]
      refine ⟨_, cap - off, _, by rw [hrl]; exact h6, by rw [hfl]; exact (g5.drop (off * es)).take (len * es), fun r hr' => g0 r (List.mem_of_mem_drop (List.mem_of_mem_take (hr ▸ hr'))), by simp, ?_⟩
      rintro x ⟨⟩ j u hj
      rw [Addr.add_mid, cell_of_row w b _ ⟨vs⟩ te (0, 0) g1]
      rw [List.getElem?_take] at hj
      split at hj
      · rw [List.getElem?_drop, List.getElem?_take] at hj
        split at hj
        · rw [List.getElem?_drop] at hj
          simpa [Nat.add_assoc] using hj
        · cases hj
      · cases hj
  cases h with
  | hs he hsz hr => exact hall he hsz hr hi hv
  | all he hsz =>
    subst hsz
    exact hall he rfl (by simp) hi hv
  | sl =>
    simp only [VRel, RRel, Rep] at hv
    obtain ⟨ad, len, cap, h1, h2, h3, h4, h5, h6, b, off, h7, h8⟩ := hv
    obtain ⟨vs, q1, q2, q3⟩ := RepRows.flat h8
    refine ⟨ad, cap, vs, by rw [h1, h2], q1, q3, fun e => List.eq_nil_of_length_eq_zero (by rw [← h2]; exact (h5 e).1), ?_⟩
    rintro x rfl j u hj
    obtain ⟨h9, h10⟩ := h7 x rfl
    have h11 := h6 x rfl (by
      rintro rfl
      have hl0 := List.eq_nil_of_length_eq_zero (show _ = 0 from Nat.le_zero.1 (h2 ▸ h3))
      rw [hl0] at q1
      simp [RepL] at q1
      subst q1
      simp at hj)
    have hx : x = ⟨b, off, none⟩ := by cases x; simp_all
    subst hx
    rw [Addr.add_mid]
    exact hs.inv.holds.cell (q2 j u hj)
  | nl =>
    simp only [VRel, RRel, Rep] at hv
    exact ⟨none, 0, [], hv, by simp [RepL], by simp, fun _ => rfl, by simp⟩
  | sn =>
    simp only [VRel, RRel, Rep] at hv
    obtain ⟨b, off, sp, len, cap, h1, h2, h3, h4, hsp, h8⟩ := hv
    obtain ⟨vs, q1, q2, q3⟩ := RepRows.flat h8
    refine ⟨some ⟨b, off, sp⟩, cap, vs, by rw [h1, h2], q1, q3, by simp, ?_⟩
    rintro x ⟨⟩ j u hj
    have h11 := hsp (by
      rintro rfl
      have hl0 := List.eq_nil_of_length_eq_zero (show _ = 0 from Nat.le_zero.1 (h2 ▸ h3))
      rw [hl0] at q1
      simp [RepL] at q1
      subst q1
      simp at hj)
    subst h11
    rw [Addr.add_mid]
    exact hs.inv.holds.cell (q2 j u hj)
section
variable {P : Program} {n : Nat} {o : Oper} {st : St} {d : Nat} {T : TT}
theorem run_append_room' (w : World) (t ty e : TypeId) (i : TypeInfo) (ht : P.underlying t = some (.slice e)) (hi : P.info? e = some i)
    (g base sLen sCap : Nat) (cur : Array Value) (hg : w.heap[g]? = some (.cells cur e (0, 0)))
    (a : Addr) (m c : Nat) (news : List Value) (hl : news.length = m * i.size) (hnews : ∀ j u, news[j]? = some u → w.cell? (a.add j) = some u) (h1 : ∀ u ∈ news, u.oneCell' = true)
    (hroom : sLen + m ≤ sCap) (hfit : base + sLen * i.size + news.length ≤ cur.size) :
    (Builtin.append_ #[t, t] ty #[.slice (some ⟨g, base, none⟩) sLen sCap, .slice (some a) m c]).run P w =
      .ok (.slice (some ⟨g, base, none⟩) (sLen + m) sCap) (w.setRow g (cur.toList.take (base + sLen * i.size) ++ news ++ cur.toList.drop (base + sLen * i.size + news.length)).toArray) := by
  have hf := run_firstCells_some (P := P) w i.size m a m c news hl hnews
  have hst := run_storeCells_at P g (base + sLen * i.size) e news 0 cur w hg (by simpa using hfit) h1
  simp only [Nat.add_zero] at hst
  simp [Builtin.append_, run_underlying ht, sizeOf, typeInfo, hi, Builtin.lenOf, hroom, hf, Addr.add_mid, hst]
theorem run_append_zero (w : World) (t ty e : TypeId) (i : TypeInfo) (ht : P.underlying t = some (.slice e)) (hi : P.info? e = some i) (s : Option Addr) (ad : Option Addr) (sLen sCap c : Nat) (hroom : sLen ≤ sCap) :
    (Builtin.append_ #[t, t] ty #[.slice s sLen sCap, .slice ad 0 c]).run P w = .ok (.slice s sLen sCap) w := by
  cases s <;> cases ad <;> simp [Builtin.append_, run_underlying ht, sizeOf, typeInfo, hi, Builtin.lenOf, hroom, Builtin.firstCells, loadCells, loadCellsFrom, storeCells]
theorem run_append {x y : Operand} {t : TypeId} {a : Act} {w w' : World} {u v r : Value} (ho : o.op = .call { callee := .builtin .append, args := #[x, y], argTypes := #[t, t] }) (hx : a.eval x = u) (hy : a.eval y = v) (hr : (Builtin.append_ #[t, t] o.type #[u, v]).run P w = .ok r w') :
    (execOp a.eval o).run P w = .ok (.value r) w' := by
  simp only [execOp, ho, resolve, List.map_toArray, List.map_cons, List.map_nil, hx, hy, Sem.run_bind, Sem.run_pure, Result.andThen_ok, invoke, builtin, hr]
/-- An array has grown, in its block or into a new one. -/
theorem grow_at {y : V} {id te es fz : Nat} {elems elems' : List (List C)} (hd : o.dst = some d) (hdn : d < n) (hlen : elems.length ≤ elems'.length) (fz' : Nat) {st' : St} {G : Ctx} {S : Sto} {μ : Mu} {a : Act} {w : World} {K : Act → World → Prop} {Q : Exit → Act → World → Prop}
    (hid' : st'.h id = some (.arr te es elems fz)) (hs : Sim G n S μ st' a w) (hk : ∀ S' μ' a' w', Sim G n S' μ' (Eff.apply ⟨some (d, some y), [(id, some (.arr te es elems' fz'))]⟩ st') a' w' → K a' w')
    (h : ∃ w' v, (execOp a.eval o).run P w = .ok (.value v) w' ∧
      ((w' = w ∧ elems' = elems ∧ (fz' = fz ∨ fz' = 1) ∧ VRel S μ st'.h y v) ∨
       (elems.length < elems'.length ∧ ∃ b bo c, (w.heap.size ≤ b ∨ ∃ c', μ id = some (b, c')) ∧ WChg w w' b bo ∧ ORel S (upd μ id (some (b, c))) (upd st'.h id (some (.arr te es elems' fz'))) w' id (.arr te es elems' fz') ∧
         (∀ o v, S.cell b o = some v → ∃ vs t fr, bo = .cells vs t fr ∧ vs[o]? = some v) ∧ (∀ m, S.mapo b = some m → w.heap.size ≤ b) ∧ VRel S (upd μ id (some (b, c))) (upd st'.h id (some (.arr te es elems' fz'))) y v))) :
    ∀ ro, o.wpIn (Wd ro) 0 P a w K Q := by
  obtain ⟨w', v, hr, hcase⟩ := h
  refine fun ro => wpIn_of_value hr ?_
  rw [hd]
  rcases hcase with ⟨rfl, rfl, hfz, hv⟩ | ⟨hlt, b, bo, c, hb, hw, hO, hS, hSm, hv⟩
  · have hE : Evolve S μ st'.h S μ (upd st'.h id (some (.arr te es elems' fz'))) := ⟨S.le_refl, fun j x hj => by
      by_cases hne : j = id
      · subst hne
        rw [hid'] at hj; cases hj
        exact ⟨_, upd_same _ _ _, by simp [AObj.succ]⟩
      · exact ⟨x, by rw [upd_ne _ _ _ hne]; exact hj, x.succ_refl rfl⟩⟩
    have hi : Inv G S μ (upd st'.h id (some (.arr te es elems' fz'))) w' := by
      obtain ⟨h1, h2, h3, h4, h5, h6, h7, h8⟩ := hs.inv
      have hold : ∀ j x, upd st'.h id (some (.arr te es elems' fz')) j = some x → ∃ x', st'.h j = some x' := fun j x hj => by
        by_cases hne : j = id
        · subst hne; exact ⟨_, hid'⟩
        · rw [upd_ne _ _ _ hne] at hj; exact ⟨_, hj⟩
      refine ⟨h1, fun j x hj => ?_, fun i j x x' b c c' hi hj hm hm' => ?_, fun i x b c hi hm => ?_, h5, h6, h7, h8.trans hE⟩
      · by_cases hne : j = id
        · subst hne
          rw [upd_same] at hj; cases hj
          have hO := (h2 j _ hid').evolve hE rfl fun _ _ _ => ⟨rfl, fun _ => rfl, rfl⟩
          rcases hfz with rfl | rfl
          · exact hO
          · obtain ⟨g0, g1 | ⟨b, base, cap, vs, g1, g2, g3, g4, g5, g6, g7, g8, g9⟩⟩ := hO
            · exact ⟨g0, .inl g1⟩
            · exact ⟨g0, .inr ⟨b, base, cap, vs, g1, g2, g3, g4, g5, g6, (fun e => by cases e), g8, (fun e => by cases e)⟩⟩
        · rw [upd_ne _ _ _ hne] at hj
          exact (h2 j x hj).evolve hE rfl fun _ _ _ => ⟨rfl, fun _ => rfl, rfl⟩
      · obtain ⟨_, hi'⟩ := hold _ _ hi
        obtain ⟨_, hj'⟩ := hold _ _ hj
        exact h3 i j _ _ b c c' hi' hj' hm hm'
      · obtain ⟨_, hi'⟩ := hold _ _ hi
        exact h4 i _ b c hi' hm
    have := hs.put hi hE hdn (x := some y) (v := v) (fun z hz => by cases hz; exact VRel.evolve hE _ _ hv)
    refine hk S μ _ _ ?_
    unfold Eff.apply
    rw [updL_one]
    exact this
  · have hE : Evolve S μ st'.h S (upd μ id (some (b, c))) (upd st'.h id (some (.arr te es elems' fz'))) := ⟨S.le_refl, fun j x hj => by
      by_cases hne : j = id
      · subst hne
        rw [hid'] at hj; cases hj
        exact ⟨_, upd_same _ _ _, by simp only [AObj.succ, true_and]; exact ⟨hlen, fun e => by omega⟩⟩
      · exact ⟨x, by rw [upd_ne _ _ _ hne]; exact hj, x.succ_refl (upd_ne _ _ _ hne)⟩⟩
    have hi := hs.inv.chg (id := id) (cap := c) (ao := .arr te es elems' fz') hw (hb.imp (fun h => h) fun ⟨c', h⟩ => ⟨_, c', hid', h⟩) hE hO hS hSm
    have := hs.put hi hE hdn (x := some y) (v := v) (fun z hz => by cases hz; exact hv)
    refine hk S (upd μ id (some (b, c))) _ _ ?_
    unfold Eff.apply
    rw [updL_one]
    exact this
theorem Step.grow {rd : Rd} {y : V} {id te es fz : Nat} {elems elems' : List (List C)} (hd : o.dst = some d) (hdn : d < n) (hid : st.h id = some (.arr te es elems fz)) (hrd : id ∈ rd.h) (hlen : elems.length ≤ elems'.length) (fz' : Nat)
    (h : ∀ st', Agree rd st st' → st'.h id = some (.arr te es elems fz) → ∀ G S μ a w, Sim G n S μ st' a w → ∃ w' v, (execOp a.eval o).run P w = .ok (.value v) w' ∧
      ((w' = w ∧ elems' = elems ∧ (fz' = fz ∨ fz' = 1) ∧ VRel S μ st'.h y v) ∨
       (elems.length < elems'.length ∧ ∃ b bo c, (w.heap.size ≤ b ∨ ∃ c', μ id = some (b, c')) ∧ WChg w w' b bo ∧ ORel S (upd μ id (some (b, c))) (upd st'.h id (some (.arr te es elems' fz'))) w' id (.arr te es elems' fz') ∧
         (∀ o v, S.cell b o = some v → ∃ vs t fr, bo = .cells vs t fr ∧ vs[o]? = some v) ∧ (∀ m, S.mapo b = some m → w.heap.size ≤ b) ∧ VRel S (upd μ id (some (b, c))) (upd st'.h id (some (.arr te es elems' fz'))) y v))) :
    Step P n o st rd ⟨some (d, some y), [(id, some (.arr te es elems' fz'))]⟩ := by
  intro st' ha G S μ a w K Q hs hk
  have hid' : st'.h id = some (.arr te es elems fz) := by rw [ha.2 id hrd, hid]
  exact grow_at hd hdn hlen fz' hid' hs hk (h st' ha hid' G S μ a w hs)
/-- append, onto an array of the call's own, at its end: what runs. -/
theorem append_at {t e : TypeId} {i ei : TI} {x y : Operand} {id sz fz : Nat} {elems rows : List (List C)} {vy : V} {ids : List Nat} {st' : St} {G : Ctx} {S : Sto} {μ : Mu} {a : Act} {w : World} (hT : Tok P T) (ho : o.op = .call { callee := .builtin .append, args := #[x, y], argTypes := #[t, t] })
    (hi : T[t]? = some (some i)) (hk : i.k = .sl e) (hei : T[e]? = some (some ei)) (hes : Nat.ble 1 ei.size = true) (heb : Nat.ble 1 ei.bytes = true)
    (hsz : sz = elems.length) (hroom : (elems.length + rows.length) * ei.bytes ≤ 140737488355328) (hh' : st'.h id = some (.arr e ei.size elems fz)) (hs : Sim G n S μ st' a w)
    (hvx : VRel S μ st'.h (.one (.hs id 0 sz sz)) (a.eval x)) (hvy : VRel S μ st'.h vy (a.eval y)) (hsrc : Src st ei.size ids vy rows) (hsi : ∀ i ∈ ids, st'.h i = st.h i) :
    ∃ w' v, (execOp a.eval o).run P w = .ok (.value v) w' ∧
      ((w' = w ∧ elems ++ rows = elems ∧ ((if fz = 0 then 0 else 1) = fz ∨ (if fz = 0 then 0 else 1) = 1) ∧ VRel S μ st'.h (.one (.hs id 0 (elems.length + rows.length) (elems.length + rows.length))) v) ∨
       (elems.length < (elems ++ rows).length ∧ ∃ b bo c, (w.heap.size ≤ b ∨ ∃ c', μ id = some (b, c')) ∧ WChg w w' b bo ∧ ORel S (upd μ id (some (b, c))) (upd st'.h id (some (.arr e ei.size (elems ++ rows) (if fz = 0 then 0 else 1)))) w' id (.arr e ei.size (elems ++ rows) (if fz = 0 then 0 else 1)) ∧
         (∀ o v, S.cell b o = some v → ∃ vs t fr, bo = .cells vs t fr ∧ vs[o]? = some v) ∧ (∀ m, S.mapo b = some m → w.heap.size ≤ b) ∧ VRel S (upd μ id (some (b, c))) (upd st'.h id (some (.arr e ei.size (elems ++ rows) (if fz = 0 then 0 else 1)))) (.one (.hs id 0 (elems.length + rows.length) (elems.length + rows.length))) v)) := by
  subst hsz
  have hes' := Nat.le_of_ble_eq_true hes
  have heb' := Nat.le_of_ble_eq_true heb
  obtain ⟨ad, c, news, hvy1, hnrep, hrl, hnone, hcell⟩ := hsrc.rel hs hsi hvy
  have hnl : news.length = rows.length * ei.size := by rw [hnrep.length, length_flat hrl]
  obtain ⟨inf, dd, z, g1, g2, g3, g4, g5, g6, g7, g8⟩ := (hT.get hei).ex
  have hu := (hT.get hi).slice hk
  have hzs : z.cells.size = ei.size := by
    have h1 := (checkL_rep (S := S) g7).length
    rw [(hT.get hei).len] at h1
    simpa using h1
  simp only [VRel, RRel] at hvx
  obtain ⟨_, hv | ⟨te', es', elems', fz', h1, h2, h3⟩⟩ := hvx
  · rw [hh'] at hv; cases hv
  rw [hh'] at h1; cases h1
  obtain ⟨h4, hcase⟩ := h3 rfl
  have hbig : elems.length + rows.length ≤ 140737488355328 := by
    have : (elems.length + rows.length) * 1 ≤ (elems.length + rows.length) * ei.bytes := Nat.mul_le_mul_left _ heb'
    omega
  have hone : ∀ u ∈ news, u.oneCell' = true := (hnrep.toR (μ := μ) (H := st'.h)).one
  have hcap : ∀ old, elems.length + rows.length ≤ grownCap w (elems.length + rows.length) old e ∧ grownCap w (elems.length + rows.length) old e ≤ maxLen := fun old =>
    ⟨grownCap_ge _ _ _ _, grownCap_le_maxLen _ _ _ _ (by unfold maxLen; omega)⟩
  -- into a new block
  have hgrown : ∀ (olds : List Value) (old : Nat), RepL S elems.flatten olds → 0 < rows.length → ∀ g0 : (∀ r ∈ elems, r.length = ei.size),
      ORel S (upd μ id (some (w.heap.size, 0, grownCap w (elems.length + rows.length) old e))) (upd st'.h id (some (.arr e ei.size (elems ++ rows) (if fz = 0 then 0 else 1))))
        (w.drew.alloc (.cells (olds.toArray ++ news.toArray ++ Builtin.zeroCells z.cells (grownCap w (elems.length + rows.length) old e - (elems.length + rows.length))) e)) id (.arr e ei.size (elems ++ rows) (if fz = 0 then 0 else 1)) := by
    intro olds old hol hpos g0
    obtain ⟨hc1, hc2⟩ := hcap old
    have hol' := hol.length
    rw [length_flat g0] at hol'
    refine ⟨?_, .inr ⟨w.heap.size, 0, grownCap w (elems.length + rows.length) old e, (olds.toArray ++ news.toArray ++ Builtin.zeroCells z.cells (grownCap w (elems.length + rows.length) old e - (elems.length + rows.length))).toList, upd_same _ _ _, heap_alloc_new w.drew _, ?_, by simpa using hc1, hc2, ?_, fun _ o _ => no_cell hs.inv o, fun o _ => no_cell hs.inv o, fun e => by split at e <;> cases e⟩⟩
    · intro r hr
      rcases List.mem_append.1 hr with hr | hr
      · exact g0 r hr
      · exact hrl r hr
    · simp only [Array.toList_append, List.length_append, Array.length_toList, size_zeroCells, hzs]
      simp only [hol', hnl, Nat.zero_add, ← Nat.add_mul]
      exact Nat.mul_le_mul_right _ (by omega)
    · simp only [Array.toList_append, List.drop_zero, List.length_append, List.flatten_append]
      rw [List.take_append_of_le_length (by simp [hol', hnl, Nat.add_mul]), List.take_of_length_le (by simp [hol', hnl, Nat.add_mul])]
      exact hol.append hnrep
  have hlen' : (elems ++ rows).length = elems.length + rows.length := by simp
  by_cases hm : rows.length = 0
  · -- nothing is appended
    have hr0 : rows = [] := List.eq_nil_of_length_eq_zero hm
    have hfzz : (if fz = 0 then 0 else 1) = fz ∨ (if fz = 0 then 0 else 1) = 1 := by
      by_cases h : fz = 0
      · left; rw [if_pos h, h]
      · right; rw [if_neg h]
    rcases hcase with ⟨h5, h6, h7⟩ | ⟨b, base, cap, h5, h6⟩
    · refine ⟨w, .slice none 0 0, run_append ho h7 hvy1 (by rw [hm]; exact run_append_zero w t o.type e inf hu g1 none ad 0 0 c (Nat.le_refl _)), .inl ⟨rfl, by rw [hr0, List.append_nil], hfzz, ?_⟩⟩
      simp only [VRel, RRel]
      exact ⟨⟨_, _, _, rfl⟩, .inr ⟨e, ei.size, elems, fz, hh', by omega, fun _ => ⟨by omega, .inl ⟨h5, h6, (by first | rfl | trivial)⟩⟩⟩⟩
    · obtain ⟨q0, vs, q1, q2, q3, q4, q5, q6, q7, q8⟩ := (hs.inv.obj id _ hh').arr h5
      refine ⟨w, _, run_append ho h6 hvy1 (by rw [hm]; exact run_append_zero w t o.type e inf hu g1 _ ad elems.length _ c (by omega)), .inl ⟨rfl, by rw [hr0, List.append_nil], hfzz, ?_⟩⟩
      simp only [VRel, RRel]
      exact ⟨⟨_, _, _, rfl⟩, .inr ⟨e, ei.size, elems, fz, hh', by omega, fun _ => ⟨by omega, .inr ⟨b, base, cap, h5, by rw [hm, Nat.add_zero]⟩⟩⟩⟩
  · cases ad with
    | none => exact absurd (by rw [hnone rfl]; rfl) hm
    | some ad =>
      have hc := hcell ad rfl
      rcases hcase with ⟨h5, h6, h7⟩ | ⟨b, base, cap, h5, h6⟩
      · -- the first elements
        subst h6
        simp only [List.length_nil, Nat.zero_add] at hroom hbig hgrown hcap
        have hr := run_append_nil (P := P) w t o.type e inf z hu g1 g6 ad rows.length c news (by rw [hnl, g3]) hc (by omega) (by omega) (by rw [g4]; omega)
        refine ⟨_, _, run_append ho h7 hvy1 hr, .inr ⟨by simp; omega, w.heap.size, _, (0, grownCap w rows.length 0 e), .inl (Nat.le_refl _), WChg.alloc_drew w _, ?_, (fun o v e => by rw [no_cell hs.inv] at e; cases e), fun m e => Nat.le_refl _, ?_⟩⟩
        · have := hgrown [] 0 (by simp [RepL]) (by omega) (by simp)
          simpa using this
        · simp only [VRel, RRel]
          exact ⟨⟨_, _, _, rfl⟩, .inr ⟨e, ei.size, _, _, upd_same _ _ _, by simp, fun _ => ⟨by simp, .inr ⟨w.heap.size, 0, _, upd_same _ _ _, by simp⟩⟩⟩⟩
      · obtain ⟨q0, vs, q1, q2, q3, q4, q5, q6, q7, q8⟩ := (hs.inv.obj id _ hh').arr h5
        have hce : elems.length * ei.size ≤ cap * ei.size := Nat.mul_le_mul_right _ q3
        simp only [Nat.sub_zero, Nat.zero_mul, Nat.add_zero] at h6
        by_cases hroom' : elems.length + rows.length ≤ cap
        · -- there is room
          have hce2 : (elems.length + rows.length) * ei.size ≤ cap * ei.size := Nat.mul_le_mul_right _ hroom'
          rw [Nat.add_mul] at hce2
          have hr := run_append_room' (P := P) w t o.type e inf hu g1 b base elems.length cap ⟨vs⟩ q1 ad rows.length c news (by rw [hnl, g3]) hc hone hroom' (by rw [g3, hnl]; simp only [List.size_toArray]; omega)
          rw [g3] at hr
          have hW := WChg.setRow w b ⟨vs⟩ ⟨vs.take (base + elems.length * ei.size) ++ news ++ vs.drop (base + elems.length * ei.size + news.length)⟩ e (0, 0) q1
          refine ⟨_, _, run_append ho h6 hvy1 hr, .inr ⟨by simp; omega, b, _, (base, cap), .inr ⟨_, h5⟩, hW, ⟨?_, .inr ⟨b, base, cap, _, upd_same _ _ _, hW.new, ?_, by rw [hlen']; omega, q4, ?_, ?_, ?_, fun e => by split at e <;> cases e⟩⟩, ?_, fun m e => map_none_of hs.inv.holds q1 m e, ?_⟩⟩
          · intro r hr
            rcases List.mem_append.1 hr with hr | hr
            · exact q0 r hr
            · exact hrl r hr
          · simp only [List.length_append, List.length_take, List.length_drop]
            omega
          · rw [hlen', List.flatten_append]
            have e1 : ((vs.take (base + elems.length * ei.size) ++ news ++ vs.drop (base + elems.length * ei.size + news.length)).drop base).take ((elems.length + rows.length) * ei.size) = (vs.drop base).take (elems.length * ei.size) ++ news := by
              rw [List.append_assoc, List.drop_append_of_le_length (by simp; omega), ← List.append_assoc, List.take_append_of_le_length (by simp [Nat.add_mul]; omega)]
              rw [List.take_of_length_le (by simp [Nat.add_mul]; omega), List.drop_take]
              rw [show base + elems.length * ei.size - base = elems.length * ei.size by omega]
            rw [e1]
            exact q5.append hnrep
          · intro e o ho
            exact q6 (Classical.byContradiction fun hne => by rw [if_neg hne] at e; cases e) o ho
          · intro o ho
            rw [hlen', Nat.add_mul] at ho
            exact q7 o (by omega)
          · intro o v e
            by_cases hlt : o < base + elems.length * ei.size
            · obtain ⟨vs0, t0, fr0, p1, p2⟩ := hs.inv.holds.1 b o v e
              rw [q1] at p1; cases p1
              refine ⟨_, _, _, rfl, ?_⟩
              simp only [List.getElem?_toArray] at p2 ⊢
              rw [List.append_assoc, List.getElem?_append_left (by simp; omega), List.getElem?_take, if_pos (by omega)]
              exact p2
            · rw [q7 o (by omega)] at e; cases e
          · simp only [VRel, RRel]
            exact ⟨⟨_, _, _, rfl⟩, .inr ⟨e, ei.size, _, _, upd_same _ _ _, by simp, fun _ => ⟨by simp, .inr ⟨b, base, cap, upd_same _ _ _, by simp⟩⟩⟩⟩
        · -- into a new block
          have hr := run_append_grow (P := P) w t o.type e inf z hu g1 g6 ⟨b, base, none⟩ elems.length cap ((vs.drop base).take (elems.length * ei.size)) (by rw [g3]; simp; omega) (by
              intro j v hj
              rw [Addr.add_mid, cell_of_row w b _ ⟨vs⟩ e (0, 0) q1]
              rw [List.getElem?_take] at hj
              split at hj
              · rw [List.getElem?_drop] at hj
                simpa using hj
              · cases hj) ad rows.length c news (by rw [hnl, g3]) hc (by omega) (by omega) (by rw [g4]; exact growslice_fits (by omega) hroom)
          have hq5 : RepL S elems.flatten ((vs.drop base).take (elems.length * ei.size)) := q5
          refine ⟨_, _, run_append ho h6 hvy1 hr, .inr ⟨by simp; omega, w.heap.size, _, (0, grownCap w (elems.length + rows.length) cap e), .inl (Nat.le_refl _), WChg.alloc_drew w _, ?_, (fun o v e => by rw [no_cell hs.inv] at e; cases e), fun m e => Nat.le_refl _, ?_⟩⟩
          · have := hgrown _ cap hq5 (by omega) q0
            simpa using this
          · simp only [VRel, RRel]
            exact ⟨⟨_, _, _, rfl⟩, .inr ⟨e, ei.size, _, _, upd_same _ _ _, by simp, fun _ => ⟨by simp, .inr ⟨w.heap.size, 0, _, upd_same _ _ _, by simp⟩⟩⟩⟩
/-- append, onto an array of the call's own, at its end. -/
theorem r_append {t e : TypeId} {i ei : TI} {x y : Operand} {id sz fz : Nat} {elems rows : List (List C)} {vy : V} {ids : List Nat} (hT : Tok P T) (ho : o.op = .call { callee := .builtin .append, args := #[x, y], argTypes := #[t, t] }) (hd : o.dst = some d) (hdn : d < n)
    (hi : T[t]? = some (some i)) (hk : i.k = .sl e) (hei : T[e]? = some (some ei)) (hes : Nat.ble 1 ei.size = true) (heb : Nat.ble 1 ei.bytes = true)
    (hx : opv st x = some (.one (.hs id 0 sz sz))) (hh : st.h id = some (.arr e ei.size elems fz)) (hsz : sz = elems.length) (hy : opv st y = some vy) (hsrc : Src st ei.size ids vy rows)
    (hroom : (elems.length + rows.length) * ei.bytes ≤ 140737488355328) :
    Step P n o st ⟨opr x ++ opr y, id :: ids⟩ ⟨some (d, some (.one (.hs id 0 (elems.length + rows.length) (elems.length + rows.length)))), [(id, some (.arr e ei.size (elems ++ rows) (if fz = 0 then 0 else 1)))]⟩ := by
  refine Step.grow hd hdn hh (by simp) (by simp) _ fun st' ha hh' G S μ a w hs => ?_
  have hvx := opv_rel hs hx fun t ht => ha.1 t (by simp [ht])
  have hvy := opv_rel hs hy fun t ht => ha.1 t (by simp [ht])
  exact append_at hT ho hi hk hei hes heb hsz hroom hh' hs hvx hvy hsrc fun i h => ha.2 i (by simp [h])
end
end Go.AM
