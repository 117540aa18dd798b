/-
  FROM A CONTRACT TO A CALL: memory as it lies when a law is called; slices of integers among its arguments.
-/
import Derived.Test.YthfeeaifddppoaaAm21
import Derived.ProofKit
import Derived.SizedLaws
namespace Go.AM
open Go

/-- All memory as it lies. -/
def memS (W : World) : Sto :=
  ⟨fun b o => match W.heap[b]? with | some (.cells vs _ _) => vs[o]? | _ => none, fun b => match W.heap[b]? with | some (.map es clk) => some (es, clk) | _ => none⟩
theorem memS_holds (W : World) : Holds (memS W) W := by
  refine ⟨fun b o v h => ?_, fun b es clk h => ?_⟩
  · simp only [memS] at h
    split at h
    · rename_i vs t fr hq
      exact ⟨vs, t, fr, hq, h⟩
    · cases h
  · simp only [memS] at h
    split at h
    · rename_i hq
      cases h
      exact hq
    · cases h
theorem memS_cell {W : World} {a : Addr} {v : Value} (h : W.cell? a = some v) : (memS W).cell a.block a.off = some v := by
  unfold World.cell? at h
  simp only [memS]
  split at h
  · rename_i hq
    rw [hq]
    split at h
    · cases h
    · exact h
  · cases h
theorem imp_calls {P : Program} {f : FuncId} {args : List V} {vals : List Value} {res : V} (h : ImpC P f args [] res []) (W : World) (hv : VRelL (memS W) (fun _ => none) (look []) args vals) :
    Calls P f ⟨vals⟩ W fun e W' => ∃ v S μ, e = .returned v ∧ RowKit.Below W.heap.size W W' ∧ VRel S μ (look []) res v := by
  have hI : Inv ⟨W, memS W, Foot (fun _ => none) (look []), fun _ => none, look []⟩ (memS W) (fun _ => none) (look []) W :=
    ⟨memS_holds W, (fun _ _ h => by cases h), (fun _ _ _ _ _ _ _ h => by cases h), (fun _ _ _ _ h => by cases h), FrameW.refl _ _, Sto.le_refl _, fun _ _ _ => ⟨fun _ => rfl, rfl⟩, Evolve.refl _ _ _⟩
  refine (h (memS W) (fun _ => none) W vals hI hv).mono ?_
  rintro e W' ⟨S', μ', v, he, hI', hr⟩
  refine ⟨v, S', μ', he, ⟨hI'.frame.os, hI'.frame.tape, hI'.frame.output, hI'.frame.size, fun k hk => hI'.frame.block k hk ?_⟩, hr⟩
  rintro ⟨id, o, c, h1, _⟩
  cases h1
theorem bool_of {S : Sto} {μ : Mu} {H : Heap} {b : Bool} {v : Value} (h : VRel S μ H (B b) v) : v = .bool b := by simpa [VRel, RRel, Rep] using h
def encInts (l : List Int) : List (List C) := l.map fun m => [.int .i64 m]
/-- A slice of integers that was handed in. -/
theorem rep_ints {W : World} {a : Addr} {len cap : Nat} {l : List Int} (hs : a.spot = none) (hl : l.length = len) (hc : len ≤ cap) (hm : cap ≤ maxLen) (hcell : ∀ i, i < len → W.cell? (a.add i) = some (.int .i64 (l.getD i 0))) :
    Rep (memS W) (.sl 1 (encInts l)) (.slice (some a) len cap) := by
  simp only [Rep]
  refine ⟨some a, len, cap, rfl, by simp [encInts, hl], hc, hm, (by intro h; cases h), (by intro ad h; cases h; exact hs), a.block, a.off, (by intro ad h; cases h; exact ⟨rfl, rfl⟩), ?_⟩
  have key : ∀ (r : List Int) (k : Nat), (∀ i, i < r.length → W.cell? (a.add (k + i)) = some (.int .i64 (r.getD i 0))) → RepRows (memS W) 1 a.block (encInts r) (a.off + k) := by
    intro r
    induction r with
    | nil => intro k _; simp [encInts, RepRows]
    | cons x r ih =>
      intro k hr
      simp only [encInts, List.map_cons, RepRows]
      refine ⟨rfl, ⟨[.int .i64 x], by simp [RepL, Rep], fun i v hi => ?_⟩, ?_⟩
      · have h0 := memS_cell (hr 0 (by simp))
        have hb : (a.add (k + 0)).block = a.block := by unfold Addr.add; split <;> rfl
        have ho : (a.add (k + 0)).off = a.off + k := by
          unfold Addr.add
          split
          · rename_i h; omega
          · rfl
        rw [hb, ho] at h0
        cases i with
        | zero => simp at hi; subst hi; simpa using h0
        | succ i => simp at hi
      · have := ih (k + 1) fun i hi => by
          have := hr (i + 1) (by simp; omega)
          rw [show k + (i + 1) = k + 1 + i by omega] at this
          simpa using this
        rw [Nat.add_assoc]
        exact this
  have := key l 0 fun i hi => by rw [Nat.zero_add]; exact hcell i (by omega)
  simpa using this
theorem rep_ints_nil {W : World} : Rep (memS W) (.sl 1 (encInts [])) (.slice none 0 0) := by
  simp only [Rep]
  exact ⟨none, 0, 0, rfl, rfl, Nat.le_refl _, Nat.zero_le _, (fun _ => ⟨rfl, rfl⟩), (by intro ad h; cases h), 0, 0, (by intro ad h; cases h), by simp [encInts, RepRows]⟩
theorem open_intsC {H : Type} {enc : TypeId × Value → H} {P : Program} {W : World} {t e : TypeId} {v : Value} {d : DataW H} {ps : List MemPlace} {base : Nat} (ht : P.underlying t = some (.slice e)) (he : P.underlying e = some (.int .i64)) (hc : P.cellsOf e = 1)
    (hok : Value.okWide P W .any base t v) (h : DataW.Trod enc P W 0 (fun _ => true) true t v d ps) :
    ∃ l : List Int, Rep (memS W) (.sl 1 (encInts l)) v ∧ (∀ m ∈ l, -9223372036854775808 ≤ m ∧ m ≤ 9223372036854775807) ∧ (∃ x y, (d = .nil ∧ l = []) ∨ (d = .slice x y ∧ x.length = l.length)) := by
  obtain ⟨fuel, hf⟩ := h
  obtain ⟨a0, len0, cap0, rfl⟩ := WideShapes.okWide_slice ht hok
  rcases ChangeShapes.open_ints ht he hc hf with ⟨h1, h2⟩ | ⟨a, len, cap, zs, h1, _, h3, h4, h5, h6, h7, h8⟩
  · have hv : Value.slice a0 len0 cap0 = .slice none 0 0 := by
      simp only [Value.cells] at h1
      simpa using h1
    cases hv
    refine ⟨[], rep_ints_nil, by simp, [], [], .inl ⟨?_, rfl⟩⟩
    have := congrArg Prod.fst h2
    simpa using this
  · have hv : Value.slice a0 len0 cap0 = .slice (some a) len cap := by
      simp only [Value.cells] at h1
      simpa using h1
    cases hv
    have hs : a.spot = none := by
      simp only [Value.okWide, ht, Cell.okWide, Cell.ok] at hok
      exact hok.2.2.2.1
    have hlen : len0 ≤ zs.length := by rw [h5]; split <;> omega
    refine ⟨zs.take len0, rep_ints hs (by simp; omega) h3 h4 (fun i hi => ?_), fun m hm => ?_, ChangeShapes.lits .i64 (zs.take len0), ChangeShapes.lits .i64 (zs.drop len0), .inr ⟨?_, ?_⟩⟩
    · rw [h7 i (by omega)]
      congr 2
      simp [List.getD_eq_getElem?_getD, hi]
    · have := h8 m (List.mem_of_mem_take hm)
      simp only [Lit.wf, Bool.and_eq_true, decide_eq_true_eq] at this
      exact this
    · have := congrArg Prod.fst h6
      simpa using this
    · simp [ChangeShapes.lits]
end Go.AM
