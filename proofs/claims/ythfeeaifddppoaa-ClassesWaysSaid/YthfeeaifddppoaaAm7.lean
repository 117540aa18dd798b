/-
  THE OPERATIONS, ONE BY ONE (4): stores; addresses; lengths.
-/
import Derived.Test.YthfeeaifddppoaaAm6
namespace Go.AM
open Go

section
variable {P : Program} {n : Nat} {o : Oper} {st : St} {d : Nat} {T : TT}

theorem run_store {t : TypeId} {i : TI} (hT : TIok P t i) (w : World) (b off : Nat) (vs news : List Value) (tb : TypeId) (v : Value) (hg : w.heap[b]? = some (.cells ⟨vs⟩ tb (0, 0))) (hv : v.cells.toList = news) (hl : news.length = i.size) (hfit : off + news.length ≤ vs.length) (h1 : ∀ u ∈ news, u.oneCell' = true) :
    (Instr.storeAt t (.pointer (some ⟨b, off, none⟩)) v).run P w = .ok () (w.setRow b ⟨vs.take off ++ news ++ vs.drop (off + news.length)⟩) := by
  have hsz : v.cells.size = i.size := by rw [← hl, ← hv]; simp
  have hst := run_storeCells_at (P := P) b off tb news 0 ⟨vs⟩ w hg (by simpa using hfit) h1
  simp only [Nat.add_zero] at hst
  simp only [Instr.storeAt, Instr.sureAddr, Sem.run_bind, Sem.run_pure, Result.andThen_ok, storeVar, hT.size_run w, hsz, hv]
  simp only [ne_eq, not_true_eq_false, if_false, hst]

theorem evolve_turn {S : Sto} {μ : Mu} {H : Heap} {id : Nat} {o o' : AObj} {p : Nat × Nat × Nat} (h : H id = some o) (hm : μ id = some p) (hs : o.succ True o') : Evolve S μ H S (upd μ id (some p)) (upd H id (some o')) := by
  refine ⟨S.le_refl, fun j x hj => ?_⟩
  by_cases hne : j = id
  · subst hne
    rw [h] at hj; cases hj
    refine ⟨o', upd_same _ _ _, ?_⟩
    have he : upd μ j (some p) j = μ j := by rw [upd_same, hm]
    rw [he]
    simpa using hs
  · exact ⟨x, by rw [upd_ne _ _ _ hne]; exact hj, x.succ_refl (upd_ne _ _ _ hne)⟩

/-- An object turns in its block. -/
theorem Step.turn {rd : Rd} {id : Nat} {ao ao' : AObj} (hd : o.dst = none) (hid : st.h id = some ao) (hrd : id ∈ rd.h) (hsucc : ao.succ True ao')
    (h : ∀ st', Agree rd st st' → st'.h id = some ao → ∀ G S μ a w, Sim G n S μ st' a w → ∃ w' bo b c, (execOp a.eval o).run P w = .ok .skip w' ∧ μ id = some (b, c) ∧ WChg w w' b bo ∧
      ORel S (upd μ id (some (b, c))) (upd st'.h id (some ao')) w' id ao' ∧ (∀ o v, S.cell b o = some v → ∃ vs t fr, bo = .cells vs t fr ∧ vs[o]? = some v) ∧ (∀ m, S.mapo b = some m → w.heap.size ≤ b)) :
    Step P n o st rd ⟨none, [(id, some ao')]⟩ := by
  intro st' ha G S μ a w K Q hs hk
  have hid' : st'.h id = some ao := by rw [ha.2 id hrd, hid]
  obtain ⟨w', bo, b, c, hr, hm, hw, hO, hS, hSm⟩ := h st' ha hid' G S μ a w hs
  refine fun ro => wpIn_of_skip hr ?_
  rw [hd]
  have hE := evolve_turn (S := S) (μ := μ) hid' hm hsucc
  have hi := hs.inv.chg (id := id) (cap := c) (ao := ao') hw (.inr ⟨ao, c, hid', hm⟩) hE hO hS hSm
  refine hk S (upd μ id (some (b, c))) _ _ ?_
  have := hs.put_none hi hE undef
  unfold Eff.apply
  rw [updL_one]
  exact this

def splice {α : Type} (l : List α) (off : Nat) (new : List α) : List α := l.take off ++ new ++ l.drop (off + new.length)

theorem map_none_of {S : Sto} {w : World} (h : Holds S w) {b : Nat} {x : Array Value} {t : TypeId} {f : Nat × Nat} (hb : w.heap[b]? = some (.cells x t f)) (m : Array MapEntry × Nat) (e : S.mapo b = some m) : w.heap.size ≤ b := by
  obtain ⟨es, clk⟩ := m
  have := h.2 b es clk e
  rw [hb] at this
  cases this

/-- A store into a variable of the call's own. -/
theorem r_store {t tv : TypeId} {i : TI} {x y : Operand} {id off : Nat} {cells rs : List R} {v : V} (hT : Tok P T) (ho : o.op = .store t x y) (hd : o.dst = none) (hi : T[t]? = some (some i)) (hx : opv st x = some (.one (.vp id off)))
    (hy : opv st y = some v) (hc : cellsV v = some rs) (hh : st.h id = some (.var tv cells)) (hrs : rs.length = i.size) (hl : Nat.ble (off + i.size) cells.length = true) :
    Step P n o st ⟨opr x ++ opr y, [id]⟩ ⟨none, [(id, some (.var tv (splice cells off rs)))]⟩ := by
  refine Step.turn hd hh (by simp) (by simp [AObj.succ]) fun st' ha hh' G S μ a w hs => ?_
  have hvx := opv_rel hs hx fun t ht => ha.1 t (by simp [ht])
  have hvy := opv_rel hs hy fun t ht => ha.1 t (by simp [ht])
  simp only [VRel, RRel] at hvx
  obtain ⟨t', cells', b, c, h1, h2, h3⟩ := hvx
  obtain ⟨b', vs, g1, g2, g3, g4⟩ := hs.inv.obj id _ hh'
  rw [g1] at h2; cases h2
  have hlen := Nat.le_of_ble_eq_true hl
  have hvl := g3.length
  have hrel := cellsV_rel hvy hc
  have hnl := hrel.length
  have hrun := run_store (hT.get hi) w b off vs (a.eval y).cells.toList tv (a.eval y) g2 rfl (by omega) (by omega) hrel.one
  have hE := evolve_turn (S := S) (μ := μ) (o' := .var tv (splice cells off rs)) hh' g1 (by simp [AObj.succ])
  have hW := WChg.setRow w b ⟨vs⟩ ⟨vs.take off ++ (a.eval y).cells.toList ++ vs.drop (off + (a.eval y).cells.toList.length)⟩ tv (0, 0) g2
  refine ⟨_, _, b, (0, 0), ?_, g1, hW, ⟨b, _, upd_same _ _ _, hW.new, ?_, g4⟩, (fun o v e => by rw [g4] at e; cases e), fun m e => map_none_of hs.inv.holds g2 m e⟩
  · simp only [execOp, ho, h3, Sem.run_bind, hrun, Result.andThen_ok, Sem.run_pure]
  · have h1 := RRelL.evolve hE _ _ (g3.take off)
    have h2 := RRelL.evolve hE _ _ hrel
    have h3 := RRelL.evolve hE _ _ (g3.drop (off + rs.length))
    rw [← hnl] at h3
    have := (h1.append h2).append h3
    rw [show splice cells off rs = cells.take off ++ rs ++ cells.drop (off + (a.eval y).cells.toList.length) by rw [hnl]; rfl] at this ⊢
    exact this

def spliceRow (elems : List (List C)) (k fo : Nat) (new : List C) : List (List C) := elems.take k ++ (splice (elems.getD k []) fo new) :: elems.drop (k + 1)

theorem flat_at {α : Type} {es : Nat} : ∀ {l : List (List α)}, (∀ r ∈ l, r.length = es) → ∀ (k : Nat) (r : List α), l[k]? = some r →
    (l.take k).flatten = l.flatten.take (k * es) ∧ (l.drop (k + 1)).flatten = l.flatten.drop (k * es + es)
  | [], _, k, r, h => by simp at h
  | x :: xs, hl, 0, r, _ => by
    have hx := hl x (by simp)
    simp only [List.take_zero, List.flatten_nil, Nat.zero_mul, Nat.zero_add, List.drop_succ_cons, List.drop_zero, List.flatten_cons, true_and]
    rw [List.drop_append, hx, Nat.sub_self, List.drop_zero, List.drop_of_length_le (by omega), List.nil_append]
  | x :: xs, hl, k + 1, r, h => by
    have hx := hl x (by simp)
    simp at h
    obtain ⟨h1, h2⟩ := flat_at (l := xs) (fun r hr => hl r (by simp [hr])) k r h
    simp only [List.take_succ_cons, List.flatten_cons, List.drop_succ_cons]
    rw [h1, h2, List.take_append, List.drop_append, hx]
    have e1 : (k + 1) * es - es = k * es := by rw [Nat.add_mul]; omega
    have e2 : (k + 1) * es + es - es = k * es + es := by rw [Nat.add_mul]; omega
    rw [e1, e2, List.take_of_length_le (l := x) (by rw [hx, Nat.add_mul]; omega), List.drop_of_length_le (l := x) (by rw [hx, Nat.add_mul]; omega), List.nil_append]
    exact ⟨rfl, rfl⟩

/-- A store into an element of the call's own. -/
theorem r_store_ep {t te es : Nat} {i : TI} {x y : Operand} {id k fo sz : Nat} {elems : List (List C)} {v : V} {rs : List R} {cs r : List C} (hT : Tok P T) (ho : o.op = .store t x y) (hd : o.dst = none) (hi : T[t]? = some (some i)) (hx : opv st x = some (.one (.ep id k fo sz)))
    (hy : opv st y = some v) (hc : cellsV v = some rs) (hp : pureL rs = some cs) (hh : st.h id = some (.arr te es elems 0)) (hsz : sz = elems.length) (hr : elems[k]? = some r) (hcs : cs.length = i.size) (hl : fo + i.size ≤ es) :
    Step P n o st ⟨opr x ++ opr y, [id]⟩ ⟨none, [(id, some (.arr te es (elems.set k (splice r fo cs)) 0))]⟩ := by
  refine Step.turn hd hh (by simp) (by simp [AObj.succ]) fun st' ha hh' G S μ a w hs => ?_
  have hvx := opv_rel hs hx fun t ht => ha.1 t (by simp [ht])
  have hvy := opv_rel hs hy fun t ht => ha.1 t (by simp [ht])
  simp only [VRel, RRel] at hvx
  obtain ⟨_, hv | ⟨te', es', elems', fz', h1, h2, h3⟩⟩ := hvx
  · rw [hh'] at hv; cases hv
  rw [hh'] at h1; cases h1
  obtain ⟨h4, b, base, cap, h5, h6⟩ := h3 hsz
  obtain ⟨g0, vs, g1, g2, g3, g4, g5, g6, g7⟩ := (hs.inv.obj id _ hh').arr h5
  have hrel := cellsV_rel hvy hc
  rw [pureL_eq hp] at hrel
  have hrep := hrel.pure
  have hone := hrel.one
  have hnl := hrep.length
  have hk : k < elems.length := (List.getElem?_eq_some_iff.1 hr).1
  have hres : r.length = es := g0 r (List.mem_of_getElem? hr)
  have hke : (k + 1) * es ≤ elems.length * es := Nat.mul_le_mul_right _ hk
  have hce : elems.length * es ≤ cap * es := Nat.mul_le_mul_right _ g3
  rw [Nat.add_mul] at hke
  generalize hnews : (a.eval y).cells.toList = news at *
  have hrun := run_store (hT.get hi) w b (base + k * es + fo) vs news te (a.eval y) g1 hnews (by omega) (by omega) hone
  have hE := evolve_turn (S := S) (μ := μ) (o' := .arr te es (elems.set k (splice r fo cs)) 0) hh' h5 (by simp [AObj.succ])
  have hrow := row_vs g0 g5 hr
  have hflat := flat_at g0 k r hr
  have hlen : (elems.set k (splice r fo cs)).length = elems.length := by simp
  have hW := WChg.setRow w b ⟨vs⟩ ⟨vs.take (base + k * es + fo) ++ news ++ vs.drop (base + k * es + fo + news.length)⟩ te (0, 0) g1
  refine ⟨_, _, b, (base, cap), ?_, h5, hW, ⟨?_, .inr ⟨b, base, cap, _, upd_same _ _ _, hW.new, ?_, by rw [hlen]; exact g3, g4, ?_, g6, by rw [hlen]; exact g7.1, fun e => by cases e⟩⟩, fun o v e => ?_, fun m e => map_none_of hs.inv.holds g1 m e⟩
  · simp only [execOp, ho, h6, Sem.run_bind, hrun, Result.andThen_ok, Sem.run_pure]
  · intro q hq
    rcases List.mem_or_eq_of_mem_set hq with hq | rfl
    · exact g0 q hq
    · unfold splice
      simp
      omega
  · simp only [List.length_append, List.length_take, List.length_drop]
    omega
  · rw [hlen]
    have e1 : (elems.set k (splice r fo cs)).flatten = elems.flatten.take (k * es) ++ (r.take fo ++ cs ++ r.drop (fo + cs.length)) ++ elems.flatten.drop (k * es + es) := by
      rw [List.set_eq_take_append_cons_drop, if_pos hk, List.flatten_append, List.flatten_cons, hflat.1, hflat.2, ← List.append_assoc]
      rfl
    have e2 : ((vs.take (base + k * es + fo) ++ news ++ vs.drop (base + k * es + fo + news.length)).drop base).take (elems.length * es) =
        ((vs.drop base).take (elems.length * es)).take (k * es) ++ ((((vs.drop (base + k * es)).take es).take fo) ++ news ++ (((vs.drop (base + k * es)).take es).drop (fo + cs.length))) ++ ((vs.drop base).take (elems.length * es)).drop (k * es + es) := by
      apply List.ext_getElem?
      intro j
      simp only [List.getElem?_take, List.getElem?_drop, List.getElem?_append, List.length_append, List.length_take, List.length_drop]
      have hm1 : min (k * es) (min (elems.length * es) (vs.length - base)) = k * es := by omega
      have hm2 : min (base + k * es + fo) vs.length = base + k * es + fo := by omega
      have hm3 : min fo es = fo := by omega
      have hm4 : min es (vs.length - (base + k * es)) = es := by omega
      simp only [hm1, hm2, hm3, hm4, hnl]
      by_cases c1 : j < k * es
      · have a1 : j < elems.length * es := by omega
        have a2 : base + j < base + k * es + fo := by omega
        have a3 : base + j < base + k * es + fo + cs.length := by omega
        have a4 : j < k * es + (fo + cs.length + (es - (fo + cs.length))) := by omega
        simp [c1, a1, a2, a3, a4]
      · by_cases c2 : j < k * es + fo
        · have a1 : j < elems.length * es := by omega
          have a2 : base + j < base + k * es + fo := by omega
          have a3 : base + j < base + k * es + fo + cs.length := by omega
          have a4 : j < k * es + (fo + cs.length + (es - (fo + cs.length))) := by omega
          have a5 : j - k * es < fo + cs.length := by omega
          have a6 : j - k * es < fo := by omega
          have a7 : j - k * es < es := by omega
          simp [c1, a1, a2, a3, a4, a5, a6, a7, show base + k * es + (j - k * es) = base + j by omega]
        · by_cases c3 : j < k * es + fo + cs.length
          · have a1 : j < elems.length * es := by omega
            have a2 : ¬ base + j < base + k * es + fo := by omega
            have a3 : base + j < base + k * es + fo + cs.length := by omega
            have a4 : j < k * es + (fo + cs.length + (es - (fo + cs.length))) := by omega
            have a5 : j - k * es < fo + cs.length := by omega
            have a6 : ¬ j - k * es < fo := by omega
            simp [c1, a1, a2, a3, a4, a5, a6, show base + j - (base + k * es + fo) = j - k * es - fo by omega]
          · by_cases c4 : j < k * es + es
            · have a1 : j < elems.length * es := by omega
              have a3 : ¬ base + j < base + k * es + fo + cs.length := by omega
              have a4 : j < k * es + (fo + cs.length + (es - (fo + cs.length))) := by omega
              have a5 : ¬ j - k * es < fo + cs.length := by omega
              have a6 : fo + cs.length + (j - k * es - (fo + cs.length)) < es := by omega
              simp [c1, a1, a3, a4, a5, a6, show base + k * es + fo + cs.length + (base + j - (base + k * es + fo + cs.length)) = base + j by omega, show base + k * es + (fo + cs.length + (j - k * es - (fo + cs.length))) = base + j by omega]
            · have a3 : ¬ base + j < base + k * es + fo + cs.length := by omega
              have a4 : ¬ j < k * es + (fo + cs.length + (es - (fo + cs.length))) := by omega
              by_cases c5 : j < elems.length * es
              · have a5 : k * es + es + (j - (k * es + (fo + cs.length + (es - (fo + cs.length))))) < elems.length * es := by omega
                simp [a3, a4, c5, a5, show base + k * es + fo + cs.length + (base + j - (base + k * es + fo + cs.length)) = base + j by omega, show base + (k * es + es + (j - (k * es + (fo + cs.length + (es - (fo + cs.length)))))) = base + j by omega]
              · have a5 : ¬ k * es + es + (j - (k * es + (fo + cs.length + (es - (fo + cs.length))))) < elems.length * es := by omega
                simp [a4, c5, a5]
    rw [e1]
    show RepL S _ (((vs.take (base + k * es + fo) ++ news ++ vs.drop (base + k * es + fo + news.length)).drop base).take (elems.length * es))
    rw [e2]
    exact ((g5.take (k * es)).append (((hrow.take fo).append hrep).append (hrow.drop (fo + cs.length)))).append (g5.drop (k * es + es))
  · -- what stays is not touched
    by_cases hb : base ≤ o
    · rw [g6 rfl o hb] at e; cases e
    · obtain ⟨vs0, t0, fr0, q1, q2⟩ := hs.inv.holds.1 b o v e
      rw [g1] at q1; cases q1
      refine ⟨_, _, _, rfl, ?_⟩
      simp only [List.getElem?_toArray] at q2 ⊢
      have hlt : o < vs.length := (List.getElem?_eq_some_iff.1 q2).1
      rw [List.append_assoc, List.getElem?_append_left (by simp; omega), List.getElem?_take, if_pos (by omega)]
      exact q2

/-! ### Addresses -/
theorem addr_mid (b off k : Nat) : (⟨b, off, none⟩ : Addr).add k = ⟨b, off + k, none⟩ := Addr.add_mid b off k

theorem run_fieldAt {t ft : TypeId} {i fi : TI} {fs : List (Nat × TypeId)} {f foff : Nat} (hT : Tok P T) (hi : T[t]? = some (some i)) (hk : i.k = .st fs) (hf : fs[f]? = some (foff, ft)) (hfi : T[ft]? = some (some fi)) (hz : fi.size ≠ 0) (w : World) (b off : Nat) :
    (Instr.fieldAt t (.pointer (some ⟨b, off, none⟩)) f).run P w = .ok (.pointer (some ⟨b, off + foff, none⟩)) w := by
  obtain ⟨fields, h1, h2⟩ := (hT.get hi).struct hk
  rw [h2] at hf
  simp only [List.getElem?_map, Option.map_eq_some_iff, Array.getElem?_toList] at hf
  obtain ⟨fl, h3, h4⟩ := hf
  cases h4
  simp only [Instr.fieldAt, Sem.run_bind, run_underlying h1 w, Result.andThen_ok, h3, Instr.sureAddr, Sem.run_pure, fieldPlace, (hT.get hfi).size_run w]
  simp [hz, addr_mid]

theorem r_field_vp {t ft : TypeId} {i fi : TI} {fs : List (Nat × TypeId)} {f foff : Nat} {x : Operand} {id off : Nat} (hT : Tok P T) (ho : o.op = .fieldAddr t x f) (hd : o.dst = some d) (hdn : d < n) (hi : T[t]? = some (some i)) (hk : i.k = .st fs) (hf : fs[f]? = some (foff, ft)) (hfi : T[ft]? = some (some fi)) (hz : fi.size ≠ 0)
    (hx : opv st x = some (.one (.vp id off))) : Step P n o st ⟨opr x, []⟩ ⟨some (d, some (.one (.vp id (off + foff)))), []⟩ := by
  refine Step.value hd hdn fun st' ha G S μ a w hs => ?_
  have hv := opv_rel hs hx ha.1
  simp only [VRel, RRel] at hv
  obtain ⟨t', cells', b, c, h1, h2, h3⟩ := hv
  refine ⟨.pointer (some ⟨b, off + foff, none⟩), ?_, ?_⟩
  · simp only [execOp, ho, h3, Sem.run_bind, run_fieldAt hT hi hk hf hfi hz, Result.andThen_ok, Sem.run_pure]
  · simp only [VRel, RRel]
    exact ⟨t', cells', b, c, h1, h2, rfl⟩
theorem r_field_pt {t ft : TypeId} {i fi : TI} {fs : List (Nat × TypeId)} {f foff : Nat} {x : Operand} {l : List C} (hT : Tok P T) (ho : o.op = .fieldAddr t x f) (hd : o.dst = some d) (hdn : d < n) (hi : T[t]? = some (some i)) (hk : i.k = .st fs) (hf : fs[f]? = some (foff, ft)) (hfi : T[ft]? = some (some fi)) (hz : fi.size ≠ 0)
    (hx : opv st x = some (.one (.c (.pt l)))) : Step P n o st ⟨opr x, []⟩ ⟨some (d, some (.one (.c (.pt (l.drop foff))))), []⟩ := by
  refine Step.value hd hdn fun st' ha G S μ a w hs => ?_
  have hv := opv_rel hs hx ha.1
  simp only [VRel, RRel, Rep] at hv
  obtain ⟨b, off, h1, vs, h2, h3⟩ := hv
  refine ⟨.pointer (some ⟨b, off + foff, none⟩), ?_, ?_⟩
  · simp only [execOp, ho, h1, Sem.run_bind, run_fieldAt hT hi hk hf hfi hz, Result.andThen_ok, Sem.run_pure]
  · simp only [VRel, RRel, Rep]
    refine ⟨b, off + foff, rfl, vs.drop foff, h2.drop foff, fun j v hj => ?_⟩
    rw [List.getElem?_drop] at hj
    have := h3 (foff + j) v hj
    rwa [← Nat.add_assoc] at this
theorem r_field_ep {t ft : TypeId} {i fi : TI} {fs : List (Nat × TypeId)} {f foff : Nat} {x : Operand} {id k fo sz : Nat} (hT : Tok P T) (ho : o.op = .fieldAddr t x f) (hd : o.dst = some d) (hdn : d < n) (hi : T[t]? = some (some i)) (hk : i.k = .st fs) (hf : fs[f]? = some (foff, ft)) (hfi : T[ft]? = some (some fi)) (hz : fi.size ≠ 0)
    {te es : Nat} {elems : List (List C)} {fz : Nat} (hx : opv st x = some (.one (.ep id k fo sz))) (hh : st.h id = some (.arr te es elems fz)) (hsz : sz = elems.length) : Step P n o st ⟨opr x, [id]⟩ ⟨some (d, some (.one (.ep id k (fo + foff) sz))), []⟩ := by
  refine Step.value hd hdn fun st' ha G S μ a w hs => ?_
  have hv := opv_rel hs hx ha.1
  have hh' : st'.h id = some (.arr te es elems fz) := by rw [ha.2 id (by simp), hh]
  simp only [VRel, RRel] at hv
  obtain ⟨_, hv | ⟨te', es', elems', fz', h1, h2, h3⟩⟩ := hv
  · rw [hh'] at hv; cases hv
  rw [hh'] at h1; cases h1
  obtain ⟨h4, b, base, cap, h5, h6⟩ := h3 hsz
  refine ⟨.pointer (some ⟨b, base + k * es + fo + foff, none⟩), ?_, ?_⟩
  · simp only [execOp, ho, h6, Sem.run_bind, run_fieldAt hT hi hk hf hfi hz, Result.andThen_ok, Sem.run_pure]
  · simp only [VRel, RRel]
    exact ⟨⟨_, rfl⟩, .inr ⟨te, es, elems, fz, hh', h2, fun _ => ⟨h4, b, base, cap, h5, by rw [Nat.add_assoc]⟩⟩⟩

theorem run_indexAt {t e : TypeId} {i ei : TI} (hT : Tok P T) (hi : T[t]? = some (some i)) (hk : i.k = .sl e) (hei : T[e]? = some (some ei)) (w : World) (b off len cap k : Nat) (kk : IntKind) (hlt : k < len) :
    (Instr.indexAt t (.slice (some ⟨b, off, none⟩) len cap) (.int kk (k : Int))).run P w = .ok (.pointer (some ⟨b, off + k * ei.size, none⟩)) w := by
  have h1 := (hT.get hi).slice hk
  simp only [Instr.indexAt, asIntOf, Sem.run_bind, Sem.run_pure, Result.andThen_ok, run_underlying h1 w]
  rw [if_pos ⟨by omega, by omega⟩]
  simp only [Sem.run_bind, (hT.get hei).size_run w, Result.andThen_ok, Sem.run_pure, Int.toNat_natCast, addr_mid]

theorem r_index {t e : TypeId} {i ei : TI} {x y : Operand} {es k : Nat} {kk : IntKind} {m : Int} {l : List (List C)} {r : List C} (hT : Tok P T) (ho : o.op = .indexAddr t x y) (hd : o.dst = some d) (hdn : d < n) (hi : T[t]? = some (some i)) (hk : i.k = .sl e) (hei : T[e]? = some (some ei)) (hes : ei.size = es)
    (hx : opv st x = some (.one (.c (.sl es l)))) (hy : opv st y = some (I kk m)) (hm : m = (k : Int)) (hr : l[k]? = some r) : Step P n o st ⟨opr x ++ opr y, []⟩ ⟨some (d, some (.one (.c (.pt r)))), []⟩ := by
  refine Step.value hd hdn fun st' ha G S μ a w hs => ?_
  have hv := opv_rel hs hx (agree2 ha).1
  have hv2 := one_int (opv_rel hs hy (agree2 ha).2)
  have hlt : k < l.length := (List.getElem?_eq_some_iff.1 hr).1
  simp only [VRel, RRel, Rep] at hv
  obtain ⟨ad, len, cap, h1, h2, h3, h4, h5, h6, b, off, h7, h8⟩ := hv
  cases ad with
  | none => have := (h5 rfl).1; omega
  | some ad =>
    obtain ⟨h9, h10⟩ := h7 ad rfl
    have h11 := h6 ad rfl
    have had : ad = ⟨b, off, none⟩ := by cases ad; simp_all
    subst had
    subst hm
    obtain ⟨q1, vs, q2, q3⟩ := h8.get k r hr
    refine ⟨.pointer (some ⟨b, off + k * es, none⟩), ?_, ?_⟩
    · simp only [execOp, ho, h1, hv2, Sem.run_bind, run_indexAt hT hi hk hei w b off len cap k kk (by omega), Result.andThen_ok, Sem.run_pure, hes]
    · simp only [VRel, RRel, Rep]
      exact ⟨b, off + k * es, rfl, vs, q2, q3⟩

theorem r_index_hs {t e : TypeId} {i ei : TI} {x y : Operand} {te es k id off len sz : Nat} {kk : IntKind} {m : Int} {elems : List (List C)} {fz : Nat} (hT : Tok P T) (ho : o.op = .indexAddr t x y) (hd : o.dst = some d) (hdn : d < n) (hi : T[t]? = some (some i)) (hk : i.k = .sl e) (hei : T[e]? = some (some ei)) (hes : ei.size = es)
    (hx : opv st x = some (.one (.hs id off len sz))) (hh : st.h id = some (.arr te es elems fz)) (hsz : sz = elems.length) (hy : opv st y = some (I kk m)) (hm : m = (k : Int)) (hlt : k < len) : Step P n o st ⟨opr x ++ opr y, [id]⟩ ⟨some (d, some (.one (.ep id (off + k) 0 sz))), []⟩ := by
  refine Step.value hd hdn fun st' ha G S μ a w hs => ?_
  have hv := opv_rel hs hx fun t ht => ha.1 t (by simp [ht])
  have hv2 := one_int (opv_rel hs hy fun t ht => ha.1 t (by simp [ht]))
  have hh' : st'.h id = some (.arr te es elems fz) := by rw [ha.2 id (by simp), hh]
  simp only [VRel, RRel] at hv
  obtain ⟨_, hv | ⟨te', es', elems', fz', h1, h2, h3⟩⟩ := hv
  · rw [hh'] at hv; cases hv
  rw [hh'] at h1; cases h1
  obtain ⟨h4, ⟨h5, h6, h7⟩ | ⟨b, base, cap, h5, h6⟩⟩ := h3 hsz
  · subst h6; simp at hsz; omega
  subst hm
  refine ⟨.pointer (some ⟨b, base + (off + k) * es + 0, none⟩), ?_, ?_⟩
  · simp only [execOp, ho, h6, hv2, Sem.run_bind, run_indexAt hT hi hk hei w b (base + off * es) len _ k kk hlt, Result.andThen_ok, Sem.run_pure, hes, Nat.add_zero]
    rw [show base + off * es + k * es = base + (off + k) * es by rw [Nat.add_mul]; omega]
  · simp only [VRel, RRel]
    exact ⟨⟨_, rfl⟩, .inr ⟨te, es, elems, fz, hh', h2, fun _ => ⟨by omega, b, base, cap, h5, rfl⟩⟩⟩

/-- A pointer that is not nil. -/
def notNil : V → Bool
  | .one (.vp _ _) => true
  | .one (.c (.pt _)) => true
  | _ => false
theorem r_nilCheck {x : Operand} {y : V} (ho : o.op = .nilCheck x) (hd : o.dst = some d) (hdn : d < n) (hx : opv st x = some y) (hnn : notNil y = true) : Step P n o st ⟨opr x, []⟩ ⟨some (d, some y), []⟩ := by
  refine Step.value hd hdn fun st' ha G S μ a w hs => ⟨a.eval x, ?_, opv_rel hs hx ha.1⟩
  have hv := opv_rel hs hx ha.1
  unfold notNil at hnn
  split at hnn
  · simp only [VRel, RRel] at hv
    obtain ⟨t', cells', b, c, h1, h2, h3⟩ := hv
    simp [execOp, ho, h3]
  · simp only [VRel, RRel, Rep] at hv
    obtain ⟨b, off, h1, _⟩ := hv
    simp [execOp, ho, h1]
  · cases hnn

/-! ### len -/
theorem run_len {t : TypeId} {x : Operand} {a : Act} {w : World} {u : Value} {m : Int} (ho : o.op = .call { callee := .builtin .len, args := #[x], argTypes := #[t] }) (hx : a.eval x = u) (hr : (Builtin.len_ #[t] o.type #[u]).run P w = .ok (goInt m) w) :
    (execOp a.eval o).run P w = .ok (.value (goInt m)) w := by
  simp only [execOp, ho, resolve, List.map_toArray, List.map_cons, List.map_nil, hx, Sem.run_bind, Sem.run_pure, Result.andThen_ok, invoke, builtin, hr]

theorem r_len_sl {t e : TypeId} {i : TI} {x : Operand} {es : Nat} {l : List (List C)} (hT : Tok P T) (ho : o.op = .call { callee := .builtin .len, args := #[x], argTypes := #[t] }) (hd : o.dst = some d) (hdn : d < n) (hi : T[t]? = some (some i)) (hk : i.k = .sl e)
    (hx : opv st x = some (.one (.c (.sl es l)))) : Step P n o st ⟨opr x, []⟩ ⟨some (d, some (I .i64 (l.length : Int))), []⟩ := by
  refine Step.value hd hdn fun st' ha G S μ a w hs => ?_
  have hv := opv_rel hs hx ha.1
  simp only [VRel, RRel, Rep] at hv
  obtain ⟨ad, len, cap, h1, h2, _⟩ := hv
  refine ⟨goInt l.length, run_len ho h1 ?_, by simp [VRel, RRel, Rep, goInt]⟩
  simp [Builtin.len_, run_underlying ((hT.get hi).slice hk) w, h2]
theorem r_len_nl {t e : TypeId} {i : TI} {x : Operand} (hT : Tok P T) (ho : o.op = .call { callee := .builtin .len, args := #[x], argTypes := #[t] }) (hd : o.dst = some d) (hdn : d < n) (hi : T[t]? = some (some i)) (hk : i.k = .sl e)
    (hx : opv st x = some (.one (.c .nl))) : Step P n o st ⟨opr x, []⟩ ⟨some (d, some (I .i64 0)), []⟩ := by
  refine Step.value hd hdn fun st' ha G S μ a w hs => ?_
  have hv := opv_rel hs hx ha.1
  simp only [VRel, RRel, Rep] at hv
  refine ⟨goInt 0, run_len ho hv ?_, by simp [VRel, RRel, Rep, goInt]⟩
  simp [Builtin.len_, run_underlying ((hT.get hi).slice hk) w]
theorem r_len_hs {t e : TypeId} {i : TI} {x : Operand} {te es id off len sz : Nat} {elems : List (List C)} {fz : Nat} (hT : Tok P T) (ho : o.op = .call { callee := .builtin .len, args := #[x], argTypes := #[t] }) (hd : o.dst = some d) (hdn : d < n) (hi : T[t]? = some (some i)) (hk : i.k = .sl e)
    (hx : opv st x = some (.one (.hs id off len sz))) (hh : st.h id = some (.arr te es elems fz)) (hsz : sz = elems.length) : Step P n o st ⟨opr x, [id]⟩ ⟨some (d, some (I .i64 (len : Int))), []⟩ := by
  refine Step.value hd hdn fun st' ha G S μ a w hs => ?_
  have hv := opv_rel hs hx ha.1
  have hh' : st'.h id = some (.arr te es elems fz) := by rw [ha.2 id (by simp), hh]
  simp only [VRel, RRel] at hv
  obtain ⟨_, hv | ⟨te', es', elems', fz', h1, h2, h3⟩⟩ := hv
  · rw [hh'] at hv; cases hv
  rw [hh'] at h1; cases h1
  obtain ⟨h4, ⟨h5, h6, h7⟩ | ⟨b, base, cap, h5, h6⟩⟩ := h3 hsz
  · subst h6
    simp at hsz
    have hl0 : len = 0 := by omega
    refine ⟨goInt len, run_len ho h7 ?_, by simp [VRel, RRel, Rep, goInt]⟩
    simp [Builtin.len_, run_underlying ((hT.get hi).slice hk) w, hl0]
  · refine ⟨goInt len, run_len ho h6 ?_, by simp [VRel, RRel, Rep, goInt]⟩
    simp [Builtin.len_, run_underlying ((hT.get hi).slice hk) w]
theorem r_len_str {t : TypeId} {i : TI} {x : Operand} {s : List UInt8} (hT : Tok P T) (ho : o.op = .call { callee := .builtin .len, args := #[x], argTypes := #[t] }) (hd : o.dst = some d) (hdn : d < n) (hi : T[t]? = some (some i)) (hk : i.k = .str)
    (hx : opv st x = some (Go.AM.T s)) : Step P n o st ⟨opr x, []⟩ ⟨some (d, some (I .i64 (s.length : Int))), []⟩ := by
  refine Step.value hd hdn fun st' ha G S μ a w hs => ?_
  have hv := one_str (opv_rel hs hx ha.1)
  refine ⟨goInt s.length, run_len ho hv ?_, by simp [VRel, RRel, Rep, goInt]⟩
  simp [Builtin.len_, run_underlying ((hT.get hi).str hk) w]
  rfl
end
end Go.AM
