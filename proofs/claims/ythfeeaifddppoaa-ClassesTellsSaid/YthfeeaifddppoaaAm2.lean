/-
  WHAT A CALL KEEPS: the invariant of memory under a call ('Inv'), and how it goes on over the changes of a world.
-/
import Derived.Test.YthfeeaifddppoaaAm1
namespace Go.AM
open Go

/-- What was when the call began: the world, what stays, the blocks that may turn, where the objects lay that were handed in. -/
structure Ctx where
  w0 : World
  S0 : Sto
  F : Nat → Prop
  μ0 : Mu
  h0 : Heap

structure FrameW (w0 : World) (F : Nat → Prop) (w : World) : Prop where
  os : w.os = w0.os
  tape : w.tape = w0.tape
  output : w.output = w0.output
  size : w0.heap.size ≤ w.heap.size
  block : ∀ k, k < w0.heap.size → ¬ F k → w.heap[k]? = w0.heap[k]?

def Holds (S : Sto) (w : World) : Prop :=
  (∀ b o v, S.cell b o = some v → ∃ vs t fr, w.heap[b]? = some (.cells vs t fr) ∧ vs[o]? = some v) ∧ (∀ b es clk, S.mapo b = some (es, clk) → w.heap[b]? = some (.map es clk))

structure Inv (G : Ctx) (S : Sto) (μ : Mu) (H : Heap) (w : World) : Prop where
  holds : Holds S w
  obj : ∀ id o, H id = some o → ORel S μ H w id o
  inj : ∀ i j o o' b c c', H i = some o → H j = some o' → μ i = some (b, c) → μ j = some (b, c') → i = j
  own : ∀ i o b c, H i = some o → μ i = some (b, c) → G.w0.heap.size ≤ b ∨ G.F b
  frame : FrameW G.w0 G.F w
  sle : G.S0.le S
  sto : ∀ b, b < G.w0.heap.size → ¬ G.F b → (∀ o, S.cell b o = G.S0.cell b o) ∧ S.mapo b = G.S0.mapo b
  evo : Evolve G.S0 G.μ0 G.h0 S μ H

theorem FrameW.refl (w : World) (F : Nat → Prop) : FrameW w F w := ⟨rfl, rfl, rfl, Nat.le_refl _, fun _ _ _ => rfl⟩

/-- An object's block lies. -/
theorem ORel.lt {S : Sto} {μ : Mu} {H : Heap} {w : World} {id : Nat} {o : AObj} (h : ORel S μ H w id o) {b : Nat} {c : Nat × Nat} (hm : μ id = some (b, c)) : b < w.heap.size := by
  have hl : ∀ {x : Obj}, w.heap[b]? = some x → b < w.heap.size := fun e => (Array.getElem?_eq_some_iff.1 e).1
  cases o with
  | var t cells =>
    obtain ⟨b', vs, h1, h2, _⟩ := h
    rw [hm] at h1; cases h1; exact hl h2
  | arr te es elems fz =>
    obtain ⟨_, ⟨h1, _⟩ | ⟨b', base, cap, vs, h1, h2, _⟩⟩ := h
    · rw [hm] at h1; cases h1
    · rw [hm] at h1; cases h1; exact hl h2
  | map agg ents =>
    obtain ⟨b', es, clk, h1, h2, _⟩ := h
    rw [hm] at h1; cases h1; exact hl h2
  | dead => rw [show μ id = none from h] at hm; cases hm
  | lp st j i e =>
    obtain ⟨b', r, fn, tmps, h1, h2, _⟩ := h
    rw [hm] at h1; cases h1; exact hl h2
  | dfr =>
    obtain ⟨b', h1, h2, _⟩ := h
    rw [hm] at h1; cases h1; exact hl h2
  | rarr te es elems =>
    obtain ⟨_, ⟨h1, _⟩ | ⟨b', base, cap, vs, h1, h2, _⟩⟩ := h
    · rw [hm] at h1; cases h1
    · rw [hm] at h1; cases h1; exact hl h2

theorem ORel.evolve0 {S S' : Sto} {μ μ' : Mu} {H H' : Heap} {w w' : World} {id : Nat} {o : AObj} (E : Evo0 S μ H S' μ' H') (h : ORel S μ H w id o) (hm : μ' id = μ id)
    (hw : ∀ b c, μ id = some (b, c) → w'.heap[b]? = w.heap[b]? ∧ (∀ o, S'.cell b o = S.cell b o) ∧ S'.mapo b = S.mapo b) : ORel S' μ' H' w' id o := by
  cases o with
  | var t cells =>
    obtain ⟨b, vs, h1, h2, h3, h4⟩ := h
    obtain ⟨g1, g2, g3⟩ := hw _ _ h1
    exact ⟨b, vs, by rw [hm, h1], by rw [g1, h2], RRelL.evolve0 E _ _ h3, fun o => by rw [g2, h4]⟩
  | arr te es elems fz =>
    obtain ⟨h0, ⟨h1, h2⟩ | ⟨b, base, cap, vs, h1, h2, h3, h4, h5, h6, h7, h8, h9⟩⟩ := h
    · exact ⟨h0, .inl ⟨by rw [hm, h1], h2⟩⟩
    · obtain ⟨g1, g2, g3⟩ := hw _ _ h1
      exact ⟨h0, .inr ⟨b, base, cap, vs, by rw [hm, h1], by rw [g1, h2], h3, h4, h5, RepL.mono E.le _ _ h6, fun e o ho => by rw [g2, h7 e o ho], fun o e => by rw [g2, h8 o e], fun e => (h9 e).mono E.le⟩⟩
  | map agg ents =>
    obtain ⟨b, es, clk, h1, h2, h3, h4⟩ := h
    obtain ⟨g1, g2, g3⟩ := hw _ _ h1
    exact ⟨b, es, clk, by rw [hm, h1], by rw [g1, h2], RepEnts.mono E.le _ _ _ h3, by rw [g3, h4]⟩
  | dead => exact hm.trans h
  | lp st j i e =>
    obtain ⟨b, r, fn, tmps, h1, h2, h3, h4, h5, h6⟩ := h
    obtain ⟨g1, g2, g3⟩ := hw _ _ h1
    exact ⟨b, r, fn, tmps, by rw [hm, h1], by rw [g1, h2], h3, fun t v ht => VRel.evolve0 E _ _ (h4 t v ht), fun o => by rw [g2, h5], by rw [g3, h6]⟩
  | dfr =>
    obtain ⟨b, h1, h2, h3, h4⟩ := h
    obtain ⟨g1, g2, g3⟩ := hw _ _ h1
    exact ⟨b, by rw [hm, h1], by rw [g1, h2], fun o => by rw [g2, h3], by rw [g3, h4]⟩
  | rarr te es elems =>
    obtain ⟨h0, ⟨h1, h2⟩ | ⟨b, base, cap, vs, h1, h2, h3, h4, h5, h6, h7⟩⟩ := h
    · exact ⟨h0, .inl ⟨by rw [hm, h1], h2⟩⟩
    · obtain ⟨g1, g2, g3⟩ := hw _ _ h1
      exact ⟨h0, .inr ⟨b, base, cap, vs, by rw [hm, h1], by rw [g1, h2], h3, h4, h5, RRelL.evolve0 E _ _ h6, fun o => by rw [g2, h7 o]⟩⟩

theorem ORel.evolve {S S' : Sto} {μ μ' : Mu} {H H' : Heap} {w w' : World} {id : Nat} {o : AObj} (E : Evolve S μ H S' μ' H') (h : ORel S μ H w id o) (hm : μ' id = μ id)
    (hw : ∀ b c, μ id = some (b, c) → w'.heap[b]? = w.heap[b]? ∧ (∀ o, S'.cell b o = S.cell b o) ∧ S'.mapo b = S.mapo b) : ORel S' μ' H' w' id o := ORel.evolve0 E.weak h hm hw

def upd {α : Type} (f : Nat → Option α) (k : Nat) (x : Option α) : Nat → Option α := fun i => if Nat.beq i k then x else f i
theorem upd_same {α : Type} (f : Nat → Option α) (k : Nat) (x : Option α) : upd f k x k = x := by simp [upd]
theorem upd_ne {α : Type} (f : Nat → Option α) (k : Nat) (x : Option α) {i : Nat} (h : i ≠ k) : upd f k x i = f i := by
  have : Nat.beq i k = false := by
    cases hb : Nat.beq i k with
    | false => rfl
    | true => exact absurd (Nat.eq_of_beq_eq_true hb) h
  simp [upd, this]

/-- One block is new, or has turned; the others are as they were. -/
structure WChg (w w' : World) (b : Nat) (o : Obj) : Prop where
  os : w'.os = w.os
  tape : w'.tape = w.tape
  output : w'.output = w.output
  size : w.heap.size ≤ w'.heap.size
  new : w'.heap[b]? = some o
  old : ∀ k, k < w.heap.size → k ≠ b → w'.heap[k]? = w.heap[k]?

theorem WChg.alloc (w : World) (o : Obj) : WChg w (w.alloc o) w.heap.size o :=
  ⟨rfl, rfl, rfl, by simp, heap_alloc_new w o, fun k hk _ => RowKit.Below.heap_alloc w o k hk⟩
theorem WChg.alloc_drew (w : World) (o : Obj) : WChg w (w.drew.alloc o) w.heap.size o :=
  ⟨rfl, rfl, rfl, by simp, heap_alloc_new w.drew o, fun k hk _ => RowKit.Below.heap_alloc w.drew o k hk⟩
theorem WChg.setRow (w : World) (g : Nat) (cur cs : Array Value) (t : TypeId) (fr : Nat × Nat) (hg : w.heap[g]? = some (.cells cur t fr)) : WChg w (w.setRow g cs) g (.cells cs t fr) :=
  ⟨rfl, rfl, rfl, by simp, setRow_heap w g cur cs t fr hg, fun k _ hk => setRow_other w g k cs hk⟩

theorem lt_of_some {w : World} {b : Nat} {x : Obj} (e : w.heap[b]? = some x) : b < w.heap.size := (Array.getElem?_eq_some_iff.1 e).1

/-- THE STEP: one object is new, or has turned in its own block, or has moved into a new one. -/
theorem Inv.chg {G : Ctx} {S : Sto} {μ : Mu} {H : Heap} {w w' : World} {id b : Nat} {cap : Nat × Nat} {bo : Obj} {ao : AObj} (h : Inv G S μ H w) (hw : WChg w w' b bo)
    (hb : w.heap.size ≤ b ∨ (∃ o c, H id = some o ∧ μ id = some (b, c)))
    (hE : Evolve S μ H S (upd μ id (some (b, cap))) (upd H id (some ao)))
    (hO : ORel S (upd μ id (some (b, cap))) (upd H id (some ao)) w' id ao)
    (hS : ∀ o v, S.cell b o = some v → ∃ vs t fr, bo = .cells vs t fr ∧ vs[o]? = some v) (hSm : ∀ m, S.mapo b = some m → w.heap.size ≤ b) :
    Inv G S (upd μ id (some (b, cap))) (upd H id (some ao)) w' := by
  have hnew : ∀ j o, H j = some o → j ≠ id → ∀ b' c', μ j = some (b', c') → b' ≠ b := by
    intro j o hj hne b' c' hm e
    subst e
    rcases hb with hb | ⟨o', c, h1, h2⟩
    · have := (h.obj j o hj).lt hm; omega
    · exact hne (h.inj j id o o' b' c' c hj h1 hm h2)
  refine ⟨⟨?_, ?_⟩, ?_, ?_, ?_, ?_, h.sle, h.sto, h.evo.trans hE⟩
  · intro b' o v e
    obtain ⟨vs, t, fr, h1, h2⟩ := h.holds.1 b' o v e
    by_cases hbb : b' = b
    · subst hbb
      obtain ⟨vs', t', fr', h3, h4⟩ := hS o v e
      exact ⟨vs', t', fr', by rw [hw.new, h3], h4⟩
    · exact ⟨vs, t, fr, by rw [hw.old b' (lt_of_some h1) hbb, h1], h2⟩
  · intro b' es clk e
    have h1 := h.holds.2 b' es clk e
    by_cases hbb : b' = b
    · subst hbb
      have := hSm _ e
      have := lt_of_some h1
      omega
    · rw [hw.old b' (lt_of_some h1) hbb, h1]
  · intro j o hj
    by_cases hji : j = id
    · subst hji
      rw [upd_same] at hj
      cases hj
      exact hO
    · rw [upd_ne _ _ _ hji] at hj
      refine (h.obj j o hj).evolve hE (upd_ne _ _ _ hji) fun b' c' hm => ⟨?_, fun _ => rfl, rfl⟩
      exact hw.old b' ((h.obj j o hj).lt hm) (hnew j o hj hji b' c' hm)
  · intro i j o o' b' c c' hi hj hmi hmj
    by_cases hii : i = id <;> by_cases hjj : j = id
    · rw [hii, hjj]
    · subst hii
      rw [upd_same] at hmi
      cases hmi
      rw [upd_ne _ _ _ hjj] at hj hmj
      exact absurd rfl (hnew j o' hj hjj _ _ hmj)
    · subst hjj
      rw [upd_same] at hmj
      cases hmj
      rw [upd_ne _ _ _ hii] at hi hmi
      exact absurd rfl (hnew i o hi hii _ _ hmi)
    · rw [upd_ne _ _ _ hii] at hi hmi
      rw [upd_ne _ _ _ hjj] at hj hmj
      exact h.inj i j o o' b' c c' hi hj hmi hmj
  · intro i o b' c hi hm
    by_cases hii : i = id
    · subst hii
      rw [upd_same] at hm
      cases hm
      rcases hb with hb | ⟨o', c', h1, h2⟩
      · exact .inl (Nat.le_trans h.frame.size hb)
      · exact h.own _ _ _ _ h1 h2
    · rw [upd_ne _ _ _ hii] at hi hm
      exact h.own _ _ _ _ hi hm
  · refine ⟨hw.os.trans h.frame.os, hw.tape.trans h.frame.tape, hw.output.trans h.frame.output, Nat.le_trans h.frame.size hw.size, fun k hk hF => ?_⟩
    rw [hw.old k (Nat.lt_of_lt_of_le hk h.frame.size) ?_, h.frame.block k hk hF]
    rintro rfl
    rcases hb with hb | ⟨o', c', h1, h2⟩
    · have := h.frame.size; omega
    · rcases h.own _ _ _ _ h1 h2 with h3 | h3
      · omega
      · exact hF h3

/-- Nothing but counts has turned. -/
theorem Inv.same {G : Ctx} {S : Sto} {μ : Mu} {H : Heap} {w w' : World} (h : Inv G S μ H w) (hh : w'.heap = w.heap) (ho : w'.os = w.os) (ht : w'.tape = w.tape) (hu : w'.output = w.output) : Inv G S μ H w' := by
  obtain ⟨h1, h2, h3, h4, h5, h6, h7, h8⟩ := h
  refine ⟨⟨fun b o v e => by rw [hh]; exact h1.1 b o v e, fun b es clk e => by rw [hh]; exact h1.2 b es clk e⟩, fun id o e => (h2 id o e).evolve (Evolve.refl _ _ _) rfl fun b c hm => ⟨by rw [hh], fun _ => rfl, rfl⟩, h3, h4, ?_, h6, h7, h8⟩
  exact ⟨ho.trans h5.os, ht.trans h5.tape, hu.trans h5.output, by rw [hh]; exact h5.size, fun k hk hF => by rw [hh]; exact h5.block k hk hF⟩

/-- A cell of memory that stays is read. -/
theorem Holds.cell {S : Sto} {w : World} (h : Holds S w) {b o : Nat} {v : Value} (e : S.cell b o = some v) : w.cell? ⟨b, o, none⟩ = some v := by
  obtain ⟨vs, t, fr, h1, h2⟩ := h.1 b o v e
  simp [World.cell?, h1, h2]

structure St where
  e : Nat → Option V
  h : Heap
  d : List Nat

/-- The marks of loops over functions: their blocks are empty ones of the call's own. -/
def Marks (lo : Nat) (μ : Mu) (H : Heap) : List Nat → List Deferred → Prop
  | [], ds => ds = []
  | id :: ids, ds => ∃ b c ds', ds = { target := .collected b, args := #[] } :: ds' ∧ μ id = some (b, c) ∧ H id = some .dfr ∧ lo ≤ b ∧ id ∉ ids ∧ Marks lo μ H ids ds'
theorem Marks.ren {lo : Nat} {μ μ' : Mu} {H H' : Heap} (σ : Nat → Nat) : ∀ {ids : List Nat} {ds : List Deferred}, Marks lo μ H (ids.map σ) ds → (∀ id ∈ ids, H (σ id) = some .dfr → μ' id = μ (σ id) ∧ H' id = some .dfr) → Marks lo μ' H' ids ds
  | [], _, h, _ => h
  | id :: ids, _, ⟨b, c, ds', h1, h2, h3, h5, h6, h4⟩, k => by
    obtain ⟨k1, k2⟩ := k id (by simp) h3
    exact ⟨b, c, ds', h1, by rw [k1, h2], k2, h5, fun h => h6 (List.mem_map.2 ⟨_, h, rfl⟩), Marks.ren σ h4 fun i hi => k i (by simp [hi])⟩
theorem Marks.go {lo : Nat} {μ μ' : Mu} {H H' : Heap} {ids : List Nat} {ds : List Deferred} (h : Marks lo μ H ids ds) (k : ∀ id ∈ ids, H id = some .dfr → μ' id = μ id ∧ H' id = some .dfr) : Marks lo μ' H' ids ds :=
  Marks.ren (fun i => i) (by simpa using h) fun id hid => k id hid
theorem Marks.evolve {lo : Nat} {S S' : Sto} {μ μ' : Mu} {H H' : Heap} (E : Evolve S μ H S' μ' H') {ids : List Nat} {ds : List Deferred} (h : Marks lo μ H ids ds) : Marks lo μ' H' ids ds :=
  h.go fun id _ hd => by
    obtain ⟨o', h1, h2⟩ := E.obj id _ hd
    cases o' with
    | dfr => exact ⟨h2, h1⟩
    | _ => simp only [AObj.succ] at h2

structure Sim (G : Ctx) (n : Nat) (S : Sto) (μ : Mu) (st : St) (a : Act) (w : World) : Prop where
  inv : Inv G S μ st.h w
  size : a.tmps.size = n
  defers : Marks G.w0.heap.size μ st.h st.d a.defers
  env : ∀ t v, st.e t = some v → VRel S μ st.h v (a.tmps.getD t undef)

theorem getD_set (ts : Array Value) (d t : Nat) (v : Value) (hd : d < ts.size) : (ts.setIfInBounds d v).getD t undef = if t = d then v else ts.getD t undef := by
  simp only [Array.getD_eq_getD_getElem?, Array.getElem?_setIfInBounds]
  by_cases h : d = t
  · subst h; simp [hd]
  · have : ¬ t = d := fun e => h e.symm
    simp [h, this]

/-- A slot is written, memory's invariant is at hand. -/
theorem Sim.put {G : Ctx} {n : Nat} {S S' : Sto} {μ μ' : Mu} {st : St} {H' : Heap} {a : Act} {w w' : World} (h : Sim G n S μ st a w) (hi : Inv G S' μ' H' w') (hE : Evolve S μ st.h S' μ' H') {d : Nat} (hd : d < n) {v : Value} {x : Option V}
    (hv : ∀ y, x = some y → VRel S' μ' H' y v) : Sim G n S' μ' ⟨upd st.e d x, H', st.d⟩ (a.put (some d) v) w' := by
  refine ⟨hi, by simp [Act.put, h.size], h.defers.evolve hE, fun t y e => ?_⟩
  show VRel S' μ' H' y ((a.tmps.setIfInBounds d v).getD t undef)
  rw [getD_set _ _ _ _ (by rw [h.size]; exact hd)]
  by_cases ht : t = d
  · subst ht
    rw [if_pos rfl]
    exact hv y (by simpa [upd_same] using e)
  · rw [if_neg ht]
    have e' : st.e t = some y := by simpa [upd_ne _ _ _ ht] using e
    exact VRel.evolve hE y _ (h.env t y e')

theorem Sim.put_none {G : Ctx} {n : Nat} {S S' : Sto} {μ μ' : Mu} {st : St} {H' : Heap} {a : Act} {w w' : World} (h : Sim G n S μ st a w) (hi : Inv G S' μ' H' w') (hE : Evolve S μ st.h S' μ' H') (v : Value) :
    Sim G n S' μ' ⟨st.e, H', st.d⟩ (a.put none v) w' :=
  ⟨hi, h.size, h.defers.evolve hE, fun t y e => VRel.evolve hE y _ (h.env t y e)⟩
end Go.AM
