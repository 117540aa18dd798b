/-
  Texts Am28, Am29, Am30, Am31, Am32, Am33, Am34 in one.
-/
import Derived.Test.YtojcjjjpniimiaaDoorM7
import Derived.Shelf.Spec.SlicesGrow
/- slices.Grow OF NIL: an empty array of one's own, with room. Out of the library's contract for it. -/
namespace Go.AM
open Go Go.Proofs Go.Shelf

/-- A slice is nil, or is not. -/
theorem awp_sl {ro : Option Nat} {P : Program} {n : Nat} {kf : List Nat} {c : Code} {st : St} {Q : Exit → St → Prop} (t : Nat) {es : Nat} {l : List (List C)} (h : st.e t = some (.one (.c (.sl es l)))) (h1 : l = [] → AWp ro P n kf c ⟨upd st.e t (some (.one (.c .nl))), st.h, st.d⟩ Q)
    (h2 : AWp ro P n kf c ⟨upd st.e t (some (.one (.c (.sn es l)))), st.h, st.d⟩ Q) : AWp ro P n kf c st Q := by
  intro G S μ a w Q' hg hs hQ
  have hv := hs.env t _ h
  have key : ∀ x : V, VRel S μ st.h x (a.tmps.getD t undef) → Sim G n S μ ⟨upd st.e t (some x), st.h, st.d⟩ a w := fun x hx => ⟨hs.inv, hs.size, hs.defers, fun s u e => by
    by_cases hst : s = t
    · subst hst
      have : some x = some u := by rw [← e]; exact (upd_same _ _ _).symm
      cases this
      exact hx
    · exact hs.env s u (by rw [← e]; exact (upd_ne _ _ _ hst).symm)⟩
  simp only [VRel, RRel, Rep] at hv
  obtain ⟨ad, len, cap, e1, e2, e3, e4, e5, e6, b, o, e7, e8⟩ := hv
  cases ad with
  | none =>
    obtain ⟨e9, e10⟩ := e5 rfl
    have hl : l = [] := List.eq_nil_of_length_eq_zero (by omega)
    exact h1 hl G S μ a w Q' hg (key _ (by simp only [VRel, RRel, Rep]; rw [e1, e9, e10])) hQ
  | some ad =>
    obtain ⟨b', o', sp⟩ := ad
    have h6 := e6 _ rfl
    obtain ⟨h7, h8⟩ := e7 _ rfl
    dsimp only at h6 h7 h8
    subst h7 h8
    exact h2 G S μ a w Q' hg (key _ (by simp only [VRel, RRel, Rep]; exact ⟨b', o', sp, len, cap, e1, e2, e3, e4, h6, e8⟩)) hQ

theorem grow_nil {P : Program} {ρ : Ren} {T : TT} {ei : TI} (L : Lays8.n4 P ρ) (hT : Tok P T) (hei : T[ρ.t 25]? = some (some ei)) (hes : Nat.ble 1 ei.size = true) (k : Nat) (hk : k * ei.bytes ≤ 140737488355328) (hk2 : k ≤ 140737488355328) :
    ImpC P (ρ.f 4) [.one (.c .nl), I .i64 (k : Int)] [] (.one (.hs 720 0 0 0)) [(720, .arr (ρ.t 25) ei.size [] 0)] := by
  intro S μ w vals hI hv
  simp only [VRelL, VRel, RRel, Rep] at hv
  obtain ⟨v1, vs1, rfl, rfl, v2, vs2, rfl, rfl, rfl⟩ := hv
  obtain ⟨inf, dd, z, g1, g2, g3, g4, g5, g6, g7, g8⟩ := (hT.get hei).ex
  have hzs : z.cells.size = ei.size := by
    have h1 := (checkL_rep (S := S) g7).length
    rw [(hT.get hei).len] at h1
    simpa using h1
  have hid : look ([] : List (Nat × AObj)) 720 = none := rfl
  by_cases h0 : k = 0
  · subst h0
    refine Calls.mono (Any8.slices_Grow_room L none 0 0 0 w (by omega) (by omega) (by omega) (by omega)) ?_
    rintro e w' ⟨rfl, rfl⟩
    obtain ⟨hi, hE⟩ := hI.empty (ρ.t 25) ei.size hid
    refine ⟨S, upd μ 720 none, _, rfl, ?_, ?_⟩
    · rw [look_upd]; exact hi
    · rw [look_upd]
      simp only [VRel, RRel]
      exact ⟨⟨_, _, _, rfl⟩, .inr ⟨_, _, [], 0, upd_same _ _ _, Nat.le_refl _, fun _ => ⟨Nat.le_refl _, .inl ⟨upd_same _ _ _, rfl, by first | rfl | trivial⟩⟩⟩⟩
  · refine Calls.mono (Any8.slices_Grow_grow L inf z g1 g6 (by rw [g3]; exact Nat.le_of_ble_eq_true hes) none 0 0 k [] w (by omega) (by omega) (by rw [g4, Nat.zero_add]; exact hk) (by omega) (by simp) (fun _ => rfl) (fun a h => by cases h)) ?_
    rintro e w' ⟨rfl, rfl⟩
    simp only [Nat.zero_add, Nat.sub_zero]
    have hG1 := grownCap_ge w k 0 (ρ.t 25)
    have hG2 := grownCap_le_maxLen w k 0 (ρ.t 25) (by unfold maxLen; omega)
    generalize grownCap w k 0 (ρ.t 25) = G at hG1 hG2 ⊢
    have hO : ORel S (upd μ 720 (some (w.heap.size, 0, G))) (upd (look []) 720 (some (.arr (ρ.t 25) ei.size [] 0))) (w.drew.alloc (.cells ((([] : List Value).toArray) ++ Builtin.zeroCells z.cells k ++ Builtin.zeroCells z.cells (G - k)) (ρ.t 25))) 720 (.arr (ρ.t 25) ei.size [] 0) := by
      refine ⟨by simp, .inr ⟨w.heap.size, 0, G, (([] : List Value).toArray ++ Builtin.zeroCells z.cells k ++ Builtin.zeroCells z.cells (G - k)).toList, upd_same _ _ _, heap_alloc_new w.drew _, ?_, Nat.zero_le _, hG2, ?_, fun _ o _ => no_cell hI o, fun o _ => no_cell hI o, fun e => by cases e⟩⟩
      · simp only [Array.toList_append, List.length_append, Array.length_toList, size_zeroCells, hzs, Nat.zero_add, List.length_nil]
        rw [← Nat.add_mul]
        exact Nat.mul_le_mul_right _ (by omega)
      · simp [RepL]
    have hE : Evolve S μ (look []) S (upd μ 720 (some (w.heap.size, 0, G))) (upd (look []) 720 (some (.arr (ρ.t 25) ei.size [] 0))) := evolve_new hid _ _
    have hi := hI.chg (id := 720) (cap := (0, G)) (WChg.alloc_drew w _) (.inl (Nat.le_refl _)) hE hO (fun o v e => by rw [no_cell hI] at e; cases e) (fun m e => Nat.le_refl _)
    refine ⟨S, upd μ 720 (some (w.heap.size, 0, G)), _, rfl, ?_, ?_⟩
    · rw [look_upd]; exact hi
    · rw [look_upd]
      simp only [VRel, RRel]
      exact ⟨⟨_, _, _, rfl⟩, .inr ⟨_, _, [], 0, upd_same _ _ _, Nat.le_refl _, fun _ => ⟨Nat.le_refl _, .inr ⟨w.heap.size, 0, G, upd_same _ _ _, by simp⟩⟩⟩⟩
end Go.AM

/- THE NUMBERS OF OBJECTS ARE BUT NAMES: a contract with other ones. -/
namespace Go.AM
open Go

def AObj.ren (σ : Nat → Nat) : AObj → AObj
  | .var t cells => .var t (R.renL σ cells)
  | .lp st j i e => .lp st j i (renE σ e)
  | .rarr te es l => .rarr te es (renR σ l)
  | o => o
def renH (σ : Nat → Nat) (hl : List (Nat × AObj)) : List (Nat × AObj) := hl.map fun p => (σ p.1, p.2.ren σ)
section
mutual
theorem R.ren_ren {σ : Nat → Nat} (hσ : ∀ i, σ (σ i) = i) : ∀ r : R, (r.ren σ).ren σ = r
  | .c _ => rfl
  | .hs .. => by simp [R.ren, hσ]
  | .tl .. => by simp [R.ren, hσ]
  | .vp .. => by simp [R.ren, hσ]
  | .ep .. => by simp [R.ren, hσ]
  | .mr _ => by simp [R.ren, hσ]
  | .clo f caps => by simp [R.ren, R.renL_renL hσ caps]
  | .mth f r => by simp [R.ren, R.ren_ren hσ r]
  | .yl _ => by simp [R.ren, hσ]
  | .ra .. => by simp [R.ren, hσ]
  | .rp .. => by simp [R.ren, hσ]
theorem R.renL_renL {σ : Nat → Nat} (hσ : ∀ i, σ (σ i) = i) : ∀ l : List R, R.renL σ (R.renL σ l) = l
  | [] => rfl
  | r :: l => by simp [R.renL, R.ren_ren hσ r, R.renL_renL hσ l]
end
mutual
theorem V.ren_ren {σ : Nat → Nat} (hσ : ∀ i, σ (σ i) = i) : ∀ r : V, (r.ren σ).ren σ = r
  | .one r => by simp [V.ren, R.ren_ren hσ r]
  | .pa _ => rfl
  | .ma l => by simp [V.ren, R.renL_renL hσ l]
  | .tup l => by simp [V.ren, V.renL_renL hσ l]
theorem V.renL_renL {σ : Nat → Nat} (hσ : ∀ i, σ (σ i) = i) : ∀ l : List V, V.renL σ (V.renL σ l) = l
  | [] => rfl
  | r :: l => by simp [V.renL, V.ren_ren hσ r, V.renL_renL hσ l]
end
variable {σ : Nat → Nat} (hσ : ∀ i, σ (σ i) = i)
include hσ
theorem renE_renE : ∀ l : List (Nat × V), renE σ (renE σ l) = l
  | [] => rfl
  | (t, v) :: l => by simp [renE, V.ren_ren hσ v, renE_renE l]
theorem renR_renR : ∀ l : List (List R), renR σ (renR σ l) = l
  | [] => rfl
  | r :: l => by simp [renR, R.renL_renL hσ r, renR_renR l]
theorem Ole.to_ren (o : AObj) : Ole σ o (o.ren σ) := by
  cases o with
  | var t cells => exact .var (R.renL_renL hσ cells).symm
  | lp st j i e => exact .lp (renE_renE hσ e).symm
  | rarr te es l => exact .rarr (renR_renR hσ l).symm
  | arr => exact .arr
  | map => exact .map
  | dead => exact .dead
  | dfr => exact .dfr
end
theorem Ole.of_ren {σ : Nat → Nat} (o : AObj) : Ole σ (o.ren σ) o := by
  cases o with
  | var t cells => exact .var rfl
  | lp st j i e => exact .lp rfl
  | rarr te es l => exact .rarr rfl
  | arr => exact .arr
  | map => exact .map
  | dead => exact .dead
  | dfr => exact .dfr
mutual
theorem R.refs_ren {σ : Nat → Nat} : ∀ r : R, (r.ren σ).refs = r.refs.map σ
  | .c _ => rfl
  | .hs .. => rfl
  | .tl .. => rfl
  | .vp .. => rfl
  | .ep .. => rfl
  | .mr _ => rfl
  | .clo f caps => by simp [R.ren, R.refs, R.refsL_ren caps]
  | .mth f r => by simp [R.ren, R.refs, R.refs_ren r]
  | .yl _ => rfl
  | .ra .. => rfl
  | .rp .. => rfl
theorem R.refsL_ren {σ : Nat → Nat} : ∀ l : List R, R.refsL (R.renL σ l) = (R.refsL l).map σ
  | [] => rfl
  | r :: l => by simp [R.renL, R.refsL, R.refs_ren r, R.refsL_ren l]
end
mutual
theorem V.refs_ren {σ : Nat → Nat} : ∀ r : V, (r.ren σ).refs = r.refs.map σ
  | .one r => by simp [V.ren, V.refs, R.refs_ren r]
  | .pa _ => rfl
  | .ma l => by simp [V.ren, V.refs, R.refsL_ren l]
  | .tup l => by simp [V.ren, V.refs, V.refsL_ren l]
theorem V.refsL_ren {σ : Nat → Nat} : ∀ l : List V, V.refsL (V.renL σ l) = (V.refsL l).map σ
  | [] => rfl
  | r :: l => by simp [V.renL, V.refsL, V.refs_ren r, V.refsL_ren l]
end
theorem refsE_ren {σ : Nat → Nat} : ∀ l : List (Nat × V), refsE (renE σ l) = (refsE l).map σ
  | [] => rfl
  | (t, v) :: l => by simp [renE, refsE, V.refs_ren v, refsE_ren l]
theorem refsR_ren {σ : Nat → Nat} : ∀ l : List (List R), refsR (renR σ l) = (refsR l).map σ
  | [] => rfl
  | r :: l => by simp [renR, refsR, R.refsL_ren r, refsR_ren l]
theorem AObj.refs_ren {σ : Nat → Nat} (o : AObj) : (o.ren σ).refs = o.refs.map σ := by
  cases o with
  | var t cells => exact R.refsL_ren cells
  | lp st j i e => exact refsE_ren e
  | rarr te es l => exact refsR_ren l
  | _ => rfl
/-- The one heap is the other one under other numbers. -/
structure RenH (σ : Nat → Nat) (H H' : Heap) : Prop where
  to : ∀ i o, H (σ i) = some o → ∃ o', H' i = some o' ∧ Ole σ o o'
  of : ∀ i o', H' i = some o' → ∃ o, H (σ i) = some o ∧ Ole σ o o'
  cl : ∀ i o', H' i = some o' → ∀ j ∈ o'.refs, ∃ x, H' j = some x
theorem RenH.good {σ : Nat → Nat} {H H' : Heap} (h : RenH σ H H') {i : Nat} (hi : ∃ x, H' i = some x) : Good H H' σ i := by
  obtain ⟨x, hx⟩ := hi
  obtain ⟨o, h1, h2⟩ := h.of i x hx
  exact ⟨o, x, h1, hx, h2⟩
theorem succ_ole {σ : Nat → Nat} {P : Prop} {a b c d : AObj} (h1 : Ole σ a b) (h2 : Ole σ c d) (h : a.succ P c) : b.succ P d := by
  cases h1 <;> cases h2 <;> simp only [AObj.succ] at h ⊢ <;> try exact h
  · rename_i e1 _ _ _ _ e2
    subst e1 e2
    simpa [renR_length] using h
theorem Inv.renH {σ : Nat → Nat} (hσ : ∀ i, σ (σ i) = i) {G : Ctx} {h0' H H' : Heap} {S : Sto} {μ : Mu} {w : World} (h : Inv G S μ H w) (h0 : RenH σ G.h0 h0') (hH : RenH σ H H') :
    Inv { G with μ0 := fun i => G.μ0 (σ i), h0 := h0' } S (fun i => μ (σ i)) H' w := by
  refine ⟨h.holds, fun id o ho => ?_, fun i j o o' b c c' hi hj hm hm' => ?_, fun i o b c hi hm => ?_, h.frame, h.sle, h.sto, ⟨h.evo.le, fun id o ho => ?_⟩⟩
  · obtain ⟨x, h1, h2⟩ := hH.of id o ho
    exact (h.obj _ _ h1).ren h2 fun j hj => hH.good (hH.cl id o ho j hj)
  · obtain ⟨x, h1, _⟩ := hH.of i o hi
    obtain ⟨y, h2, _⟩ := hH.of j o' hj
    have := h.inj _ _ _ _ b c c' h1 h2 hm hm'
    rw [← hσ i, ← hσ j, this]
  · obtain ⟨x, h1, _⟩ := hH.of i o hi
    exact h.own _ _ b c h1 hm
  · obtain ⟨x, h1, h2⟩ := h0.of id o ho
    obtain ⟨y, h3, h4⟩ := h.evo.obj _ _ h1
    obtain ⟨z, h5, h6⟩ := hH.to id y h3
    exact ⟨z, h5, succ_ole h2 h6 h4⟩
section
variable {σ : Nat → Nat} (hσ : ∀ i, σ (σ i) = i)
include hσ
theorem beq_ren (i k : Nat) : Nat.beq (σ i) (σ k) = Nat.beq i k := by
  cases h : Nat.beq i k with
  | true => rw [Nat.eq_of_beq_eq_true h]; exact Nat.beq_refl _
  | false =>
    cases h' : Nat.beq (σ i) (σ k) with
    | false => rfl
    | true =>
      have := Nat.eq_of_beq_eq_true h'
      have e : i = k := by rw [← hσ i, ← hσ k, this]
      rw [e, Nat.beq_refl] at h
      cases h
theorem look_renH (i : Nat) : ∀ hl : List (Nat × AObj), look (Go.AM.renH σ hl) (σ i) = (look hl i).map (AObj.ren σ)
  | [] => rfl
  | (k, o) :: hl => by
    have ih := look_renH i hl
    simp only [Go.AM.renH, List.map_cons, look, beq_ren hσ] at ih ⊢
    split
    · rfl
    · exact ih
theorem RenH.a {hl : List (Nat × AObj)} (hc : subset (refsH hl) (keys hl) = true) : RenH σ (look (Go.AM.renH σ hl)) (look hl) := by
  refine ⟨fun i o h => ?_, fun i o h => ?_, fun i o h j hj => ?_⟩
  · rw [look_renH hσ] at h
    cases hx : look hl i with
    | none => rw [hx] at h; cases h
    | some x => rw [hx] at h; cases h; exact ⟨x, rfl, .of_ren x⟩
  · exact ⟨o.ren σ, by rw [look_renH hσ, h]; rfl, .of_ren o⟩
  · exact look_mem_key (subset_spec hc j (refsH_mem (look_mem h) j hj))
theorem RenH.b {hl : List (Nat × AObj)} (hc : subset (refsH hl) (keys hl) = true) : RenH σ (look hl) (look (Go.AM.renH σ hl)) := by
  have key : ∀ i, look (Go.AM.renH σ hl) i = (look hl (σ i)).map (AObj.ren σ) := fun i => by
    have := look_renH hσ (σ i) hl
    rwa [hσ] at this
  refine ⟨fun i o h => ⟨o.ren σ, by rw [key, h]; rfl, .to_ren hσ o⟩, fun i o h => ?_, fun i o h j hj => ?_⟩
  · rw [key] at h
    cases hx : look hl (σ i) with
    | none => rw [hx] at h; cases h
    | some x => rw [hx] at h; cases h; exact ⟨x, rfl, .to_ren hσ x⟩
  · rw [key] at h
    cases hx : look hl (σ i) with
    | none => rw [hx] at h; cases h
    | some x =>
      rw [hx] at h; cases h
      rw [AObj.refs_ren] at hj
      obtain ⟨k, hk, rfl⟩ := List.mem_map.1 hj
      obtain ⟨y, hy⟩ := look_mem_key (subset_spec hc k (refsH_mem (look_mem hx) k hk))
      exact ⟨y.ren σ, by rw [key, hσ, hy]; rfl⟩
/-- A CONTRACT under other numbers. -/
theorem ImpC.ren {P : Program} {f : FuncId} {args : List V} {hin hout : List (Nat × AObj)} {res : V} (h : ImpC P f args hin res hout) (h1 : subset (refsH hin) (keys hin) = true) (h2 : subset (V.refsL args) (keys hin) = true) (h3 : subset (refsH hout) (keys hout) = true) (h4 : subset res.refs (keys hout) = true) :
    ImpC P f (V.renL σ args) (Go.AM.renH σ hin) (res.ren σ) (Go.AM.renH σ hout) := by
  intro S μ w vals hI hv
  have ra := RenH.a hσ h1
  have hI' := hI.renH hσ ra ra
  have hF : Foot μ (look (Go.AM.renH σ hin)) = Foot (fun i => μ (σ i)) (look hin) := by
    funext b
    refine propext ⟨?_, ?_⟩
    · rintro ⟨j, o, c, g1, g2⟩
      obtain ⟨o', g3, _⟩ := ra.to (σ j) o (by rw [hσ]; exact g1)
      exact ⟨σ j, o', c, g3, by show μ (σ (σ j)) = _; rw [hσ]; exact g2⟩
    · rintro ⟨j, o, c, g1, g2⟩
      obtain ⟨o', g3, _⟩ := ra.of j o g1
      exact ⟨σ j, o', c, g3, g2⟩
  rw [hF] at hI'
  have hv' : VRelL S (fun i => μ (σ i)) (look hin) args vals := VRelL.ren args vals (fun i hi => ra.good (look_mem_key (subset_spec h2 i hi))) hv
  refine Calls.mono (h S (fun i => μ (σ i)) w vals hI' hv') ?_
  rintro e w' ⟨S', μ', v, g1, g2, g3⟩
  refine ⟨S', fun i => μ' (σ i), v, g1, ?_, ?_⟩
  · have := g2.renH hσ (RenH.b hσ h1) (RenH.b hσ h3)
    dsimp only at this
    rw [hF]
    simpa only [hσ] using this
  · refine VRel.ren (res.ren σ) v (fun i hi => (RenH.b hσ h3).good ?_) (by rw [V.ren_ren hσ]; exact g3)
    rw [V.refs_ren] at hi
    obtain ⟨k, hk, rfl⟩ := List.mem_map.1 hi
    obtain ⟨y, hy⟩ := look_mem_key (subset_spec h4 k hk)
    exact ⟨y.ren σ, by rw [look_renH hσ, hy]; rfl⟩
end
/-- Two numbers for one another. -/
def swp (a b i : Nat) : Nat := bif Nat.beq i a then b else bif Nat.beq i b then a else i
theorem swp_swp (a b i : Nat) : swp a b (swp a b i) = i := by
  have hb : ∀ x y : Nat, (Nat.beq x y = true) ↔ x = y := fun x y => ⟨Nat.eq_of_beq_eq_true, fun h => by subst h; exact Nat.beq_refl _⟩
  unfold swp
  cases h1 : Nat.beq i a <;> cases h2 : Nat.beq i b <;> simp only [cond_true, cond_false]
  · rw [h1, h2]; rfl
  · cases h3 : Nat.beq a a with
    | true => simp only [cond_true]; exact ((hb _ _).1 h2).symm
    | false => rw [Nat.beq_refl] at h3; cases h3
  · cases h3 : Nat.beq b a with
    | true => simp only [cond_true]; rw [(hb _ _).1 h3, (hb _ _).1 h1]
    | false => rw [Nat.beq_refl]; simp only [cond_true, cond_false]; exact ((hb _ _).1 h1).symm
  · have e1 := (hb _ _).1 h1
    have e2 := (hb _ _).1 h2
    have e3 : b = a := by rw [← e2, e1]
    rw [e3, Nat.beq_refl]; simp only [cond_true]; exact e1.symm
theorem ImpC.swap (a b : Nat) {P : Program} {f : FuncId} {args : List V} {hin hout : List (Nat × AObj)} {res : V} (h : ImpC P f args hin res hout) (h1 : subset (refsH hin) (keys hin) = true := by rfl) (h2 : subset (V.refsL args) (keys hin) = true := by rfl) (h3 : subset (refsH hout) (keys hout) = true := by rfl) (h4 : subset res.refs (keys hout) = true := by rfl) :
    ImpC P f (V.renL (swp a b) args) (renH (swp a b) hin) (res.ren (swp a b)) (renH (swp a b) hout) := h.ren (swp_swp a b) h1 h2 h3 h4
end Go.AM

/- A CALL UNDER A GUARD that holds. -/
namespace Go.AM
open Go Go.Proofs
section
variable {P : Program} {n : Nat} {ops : Array Oper} {draw : Bool} {k d : Nat} {st : St} {pre : REs} {Q : St → Prop} {o : Oper} {f : FuncId} {xs : Array Operand} {ts : Array TypeId} {ids : List Nat} {args : List V} {res : V} {hin hout : List (Nat × AObj)}
theorem kcG {j t : Nat} {want b : Bool} (hf : ImpC P f args hin res hout)
    (hk : RunK P n ops draw (k + 1) ⟨upd st.e d (some res), updL st.h (outs hout), st.d⟩ ((⟨t :: operandsR xs.toList, ids ++ keys hin ++ keys hout⟩, ⟨some (d, some res), outs hout⟩) :: pre) Q)
    (hb : bodied P f := by exact bod_ (by kernel_rfl)) (ho : ops[k]? = some o := by rfl) (hg : o.guard = some (j, want) := by rfl) (hj : (ops[j]?).bind (·.dst) = some t := by rfl) (hbv : st.e t = some (.one (.c (.bool b))) := by rfl) (hw : b = want := by first | rfl | assumption) (hop : o.op = .call { callee := .value (.func f), args := xs, argTypes := ts } := by rfl) (hd : o.dst = some d := by rfl) (hdn : Nat.blt d n = true := by rfl)
    (ha : ArgsV st ids xs.toList args := by repeat (first | exact .nil | (apply Go.AM.ArgsV.cons rfl; (first | exact .refl | exact .one (.c .nl .nil) | exact .one (.c .sn .nil) | exact .one (.hs rfl (by first | rfl | simp) (by first | rfl | (simp; done) | (simp [Go.AM.take_map]; done) | exact Go.AM.take_map.symm) .nil) | exact Go.AM.hs_all rfl rfl (by first | rfl | assumption | (simp; done) | (simp; omega)) (by first | rfl | assumption | (simp; done)) | ((first | apply Go.AM.Conv.pa | apply Go.AM.Conv.agg); repeat (first | exact .nil | apply Go.AM.PureL.c .refl | apply Go.AM.PureL.c .nl | apply Go.AM.PureL.c .sn | (apply Go.AM.PureL.hs; rfl; (first | rfl | simp); (first | rfl | (simp; done) | (simp [Go.AM.take_map]; done) | exact Go.AM.take_map.symm))))))))
    (hin' : AllP (fun p => st.h p.1 = some p.2) hin := by repeat (first | exact trivial | refine ⟨rfl, ?_⟩)) (hout' : AllP (fun p => p.1 ∈ keys hin ∨ st.h p.1 = none) hout := by repeat (first | exact trivial | refine ⟨.inr rfl, ?_⟩ | refine ⟨.inl (by decide), ?_⟩ | refine ⟨.inl (by repeat (first | exact List.Mem.head _ | apply List.Mem.tail)), ?_⟩)) (hok : callOk args hin = true := by rfl) : RunK P n ops draw k st pre Q :=
  k_ (GStep.yes ho hg hj hbv hw (r_call hin hout hb hop hd (blt_lt hdn) hf ha hin' hout' hok)) hk
end
end Go.AM

/- SLICES OF SLICES OF INTEGERS that were handed in. -/
namespace Go.AM
open Go

/-- A slice of values of one cell each that was handed in. -/
theorem rep_cells {W : World} {a : Addr} {len cap : Nat} {l : List C} (hs : cap ≠ 0 → a.spot = none) (hl : l.length = len) (hc : len ≤ cap) (hm : cap ≤ maxLen) (hcell : ∀ i c, l[i]? = some c → ∃ v, W.cell? (a.add i) = some v ∧ Rep (memS W) c v) :
    Rep (memS W) (.sl 1 (l.map fun c => [c])) (.slice (some a) len cap) := by
  simp only [Rep]
  refine ⟨some a, len, cap, rfl, by simp [hl], hc, hm, (by intro h; cases h), (by intro ad h; cases h; exact hs), a.block, a.off, (by intro ad h; cases h; exact ⟨rfl, rfl⟩), ?_⟩
  have key : ∀ (r : List C) (k : Nat), (∀ i c, r[i]? = some c → ∃ v, W.cell? (a.add (k + i)) = some v ∧ Rep (memS W) c v) → RepRows (memS W) 1 a.block (r.map fun c => [c]) (a.off + k) := by
    intro r
    induction r with
    | nil => intro k _; simp [RepRows]
    | cons x r ih =>
      intro k hr
      simp only [List.map_cons, RepRows]
      obtain ⟨v0, hv1, hv2⟩ := hr 0 x rfl
      refine ⟨rfl, ⟨[v0], by simp [RepL, hv2], fun i v hi => ?_⟩, ?_⟩
      · have h0 := memS_cell hv1
        have hb : (a.add (k + 0)).block = a.block := by unfold Addr.add; split <;> rfl
        have ho : (a.add (k + 0)).off = a.off + k := by
          unfold Addr.add
          split
          · rename_i h; omega
          · rfl
        rw [hb, ho] at h0
        cases i with
        | zero => simp at hi; subst hi; simpa using h0
        | succ i => simp at hi
      · have := ih (k + 1) fun i c hi => by
          have := hr (i + 1) c (by simpa using hi)
          rw [show k + (i + 1) = k + 1 + i by omega] at this
          exact this
        rw [Nat.add_assoc]
        exact this
  have := key l 0 fun i c hi => by rw [Nat.zero_add]; exact hcell i c hi
  simpa using this
/-- What is read of integers in memory. -/
theorem open_intsV {H : Type} {enc : TypeId × Value → H} {P : Program} {W : World} {t e : TypeId} {v : Value} {fuel : Nat} {y : DataW H × List MemPlace} (ht : P.underlying t = some (.slice e)) (he : P.underlying e = some (.int .i64)) (hc : P.cellsOf e = 1)
    (hf : DataW.trod enc P W 0 (fun _ => true) true fuel t [v] = some y) :
    ∃ l : List Int, Rep (memS W) (.sl 1 (encInts l)) v ∧ (∀ m ∈ l, -9223372036854775808 ≤ m ∧ m ≤ 9223372036854775807) ∧ (∃ x z, (y.1 = .nil ∧ l = []) ∨ (y.1 = .slice x z ∧ x.length = l.length)) := by
  rcases ChangeShapes.open_ints ht he hc hf with ⟨h1, h2⟩ | ⟨a, len, cap, zs, h1, _, h3, h4, h5, h6, h7, h8⟩
  · have hv : v = .slice none 0 0 := by simpa using h1
    subst hv
    exact ⟨[], rep_ints_nil, by simp, [], [], .inl ⟨by rw [h2], rfl⟩⟩
  · have hv : v = .slice (some a) len cap := by simpa using h1
    subst hv
    have hzl : zs.length = cap := by simpa using h5
    have hs : cap ≠ 0 → a.spot = none := fun hcap => by
      have := h7 0 (by omega)
      have e0 : a.add 0 = a := by simp [Addr.add]
      rw [e0] at this
      unfold World.cell? at this
      split at this
      · cases hsp : a.spot with
        | none => rfl
        | some s => simp [hsp] at this
      · cases this
    refine ⟨zs.take len, rep_ints hs (by simp; omega) h3 h4 (fun i hi => ?_), fun m hm => ?_, ChangeShapes.lits .i64 (zs.take len), ChangeShapes.lits .i64 (zs.drop len), .inr ⟨by rw [h6], by simp [ChangeShapes.lits]⟩⟩
    · rw [h7 i (by omega)]
      congr 2
      simp [List.getD_eq_getElem?_getD, hi]
    · have := h8 m (List.mem_of_mem_take hm)
      simp only [Lit.wf, Bool.and_eq_true, decide_eq_true_eq] at this
      exact this
/-- What each is, and what it reads as. -/
theorem each_of {α β : Type} {p : Nat → α → β → Prop} : ∀ (n : Nat) (f : Nat → Option β) (_ : ∀ i, i < n → ∃ y, f i = some y ∧ ∃ x, p i x y), ∃ l : List α, l.length = n ∧ ∀ i x, l[i]? = some x → ∃ y, f i = some y ∧ p i x y
  | 0, _, _ => ⟨[], rfl, fun i x h => by simp at h⟩
  | n + 1, f, h => by
    obtain ⟨l, h1, h2⟩ := each_of n f fun i hi => h i (by omega)
    obtain ⟨y, hy, x, hx⟩ := h n (by omega)
    refine ⟨l ++ [x], by simp [h1], fun i u hi => ?_⟩
    by_cases hin : i < n
    · rw [List.getElem?_append_left (by omega)] at hi
      exact h2 i u hi
    · rw [List.getElem?_append_right (by omega)] at hi
      have : i = n := by
        have := (List.getElem?_eq_some_iff.1 hi).1
        simp at this
        omega
      subst this
      rw [h1] at hi
      simp at hi
      subst hi
      exact ⟨y, hy, hx⟩
def encIntss (l : List (List Int)) : List C := l.map fun x => .sl 1 (encInts x)
theorem open_rowsC {H : Type} {enc : TypeId × Value → H} {P : Program} {W : World} {t e i : TypeId} {v : Value} {d : DataW H} {ps : List MemPlace} {base : Nat} (ht : P.underlying t = some (.slice e)) (he : P.underlying e = some (.slice i)) (hi : P.underlying i = some (.int .i64)) (hce : P.cellsOf e = 1) (hci : P.cellsOf i = 1)
    (hok : Value.okWide P W .any base t v) (h : DataW.Trod enc P W 0 (fun _ => true) true t v d ps) :
    ∃ l : List (List Int), Rep (memS W) (.sl 1 ((encIntss l).map fun c => [c])) v ∧ (∀ x ∈ l, ∀ m ∈ x, -9223372036854775808 ≤ m ∧ m ≤ 9223372036854775807) ∧
      ∃ xs zs : List (DataW H), (d = .nil ∧ l = []) ∨ (d = .slice xs zs ∧ xs.length = l.length ∧ ∀ (k : Nat) (x : List Int), l[k]? = some x → ∃ y : DataW H, xs[k]? = some y ∧ ((y = .nil ∧ x = []) ∨ ∃ u z, y = .slice u z ∧ u.length = x.length)) := by
  obtain ⟨fuel, hf⟩ := h
  obtain ⟨a0, len0, cap0, rfl⟩ := WideShapes.okWide_slice ht hok
  rcases DataW.trod_slice ht hf with ⟨h1, h2⟩ | ⟨a, len, cap, elems, rest, n, _, hcs, hx, _, hl, hm, hlen, hel, _⟩
  · have hv : Value.slice a0 len0 cap0 = .slice none 0 0 := by simpa [Value.cells] using h1
    cases hv
    have hd : d = .nil := by simpa using congrArg Prod.fst h2
    exact ⟨[], rep_ints_nil, by simp, [], [], .inl ⟨hd, rfl⟩⟩
  · have hv : Value.slice a0 len0 cap0 = .slice (some a) len cap := by simpa [Value.cells] using hcs
    cases hv
    have hs : a.spot = none := by
      simp only [Value.okWide, ht, Cell.okWide, Cell.ok] at hok
      exact hok.2.2.2.1
    have hd : d = .slice (elems.map (·.1)) (rest.map (·.1)) := by simpa using congrArg Prod.fst hx
    obtain ⟨l, hll, hlx⟩ := each_of (α := List Int) (β := DataW H × List MemPlace) (p := fun k x y => (∃ v, W.cell? (a.add k) = some v ∧ Rep (memS W) (.sl 1 (encInts x)) v) ∧ (∀ m ∈ x, -9223372036854775808 ≤ m ∧ m ≤ 9223372036854775807) ∧ ((y.1 = .nil ∧ x = []) ∨ ∃ u z, y.1 = .slice u z ∧ u.length = x.length)) len0 (fun k => elems[k]?) (fun k hk => by
      obtain ⟨y, hy⟩ : ∃ y, elems[k]? = some y := ⟨_, List.getElem?_eq_getElem (by omega)⟩
      refine ⟨y, hy, ?_⟩
      have hE := hel k hk
      rw [hce, Nat.mul_one, hy, Option.bind_eq_some_iff] at hE
      obtain ⟨cs', hcs', hy'⟩ := hE
      have hone : ∃ c, cs' = [c] ∧ W.cell? (a.add k) = some c := by
        unfold World.cells? at hcs'
        have e0 : (a.add k).add 0 = a.add k := by simp [Addr.add]
        split at hcs'
        · simp only [List.range_succ, List.range_zero, List.nil_append, List.mapM_cons, List.mapM_nil, e0] at hcs'
          cases hcc : W.cell? (a.add k) with
          | none => simp [hcc] at hcs'
          | some c => simp [hcc] at hcs'; exact ⟨c, hcs'.symm, rfl⟩
        · cases hcs'
      obtain ⟨c, rfl, hcc⟩ := hone
      obtain ⟨x, g1, g2, u, z, g3⟩ := open_intsV he hi hci hy'
      exact ⟨x, ⟨c, hcc, g1⟩, g2, g3.imp id fun g => ⟨u, z, g⟩⟩)
    refine ⟨l, rep_cells (fun _ => hs) (by simp [encIntss, hll]) hl hm (fun k c hk => ?_), fun x hx m hm => ?_, elems.map (·.1), rest.map (·.1), .inr ⟨hd, by simp; omega, fun k x hk => ?_⟩⟩
    · unfold encIntss at hk
      rw [List.getElem?_map] at hk
      cases hx : l[k]? with
      | none => simp [hx] at hk
      | some x =>
        simp [hx] at hk
        subst hk
        obtain ⟨y, _, g, _, _⟩ := hlx k x hx
        exact g
    · obtain ⟨k, hk⟩ := List.getElem?_of_mem hx
      obtain ⟨y, _, _, g, _⟩ := hlx k x hk
      exact g m hm
    · obtain ⟨y, hy, _, _, g⟩ := hlx k x hk
      exact ⟨y.1, by rw [List.getElem?_map, hy]; rfl, g⟩
end Go.AM

/- MARKS THAT GROW: loops over functions within a loop; the list of their marks is a function of the round. -/
namespace Go.AM
open Go

def dm (k i : Nat) : Option AObj := bif Nat.ble 1000 i then (bif Nat.blt i (1000 + k) then some .dfr else none) else none
def mids : Nat → List Nat
  | 0 => []
  | k + 1 => (1000 + k) :: mids k
def markL (k : Nat) : List (Nat × AObj) := (mids k).map fun i => (i, .dfr)
/-- A state with k marks. -/
def mkm (el : List (Nat × V)) (hl : List (Nat × AObj)) (k : Nat) : St := ⟨look el, fun i => match look hl i with | some x => some x | none => dm k i, mids k⟩
theorem look_app {α : Type} : ∀ (a b : List (Nat × α)) (i : Nat), look (a ++ b) i = match look a i with | some x => some x | none => look b i
  | [], _, _ => rfl
  | (k, x) :: a, b, i => by
    simp only [List.cons_append, look]
    cases Nat.beq i k
    · simpa using look_app a b i
    · rfl
theorem look_marks : ∀ (k i : Nat), look (markL k) i = dm k i
  | 0, i => by
    simp only [markL, mids, List.map_nil, look, dm, Nat.add_zero]
    cases h : Nat.ble 1000 i
    · rfl
    · have h1 := Nat.le_of_ble_eq_true h
      have : Nat.blt i 1000 = false := by
        cases hb : Nat.blt i 1000 with
        | false => rfl
        | true => have := Nat.le_of_ble_eq_true hb; omega
      simp [this]
  | k + 1, i => by
    have ih := look_marks k i
    simp only [markL, mids, List.map_cons, look] at ih ⊢
    rw [ih]
    simp only [dm]
    by_cases h1 : i = 1000 + k
    · subst h1
      have h2 : Nat.ble 1000 (1000 + k) = true := Nat.ble_eq_true_of_le (by omega)
      have h3 : Nat.blt (1000 + k) (1000 + (k + 1)) = true := Nat.ble_eq_true_of_le (by omega)
      rw [h2, h3]; simp
    · have h2 : Nat.beq i (1000 + k) = false := by
        cases hb : Nat.beq i (1000 + k) with
        | false => rfl
        | true => exact absurd (Nat.eq_of_beq_eq_true hb) h1
      have h3 : Nat.blt i (1000 + (k + 1)) = Nat.blt i (1000 + k) := by
        cases hb : Nat.blt i (1000 + k) with
        | true => have := Nat.le_of_ble_eq_true hb; exact Nat.ble_eq_true_of_le (by omega)
        | false =>
          cases hc : Nat.blt i (1000 + (k + 1)) with
          | false => rfl
          | true =>
            have := Nat.le_of_ble_eq_true hc
            have : Nat.blt i (1000 + k) = true := Nat.ble_eq_true_of_le (by omega)
            rw [this] at hb; cases hb
      rw [h2, h3]; rfl
theorem mkm_eq (el : List (Nat × V)) (hl : List (Nat × AObj)) (k : Nat) : mkm el hl k = mkd el (hl ++ markL k) (mids k) := by
  unfold mkm mkd
  congr 1
  funext i
  rw [look_app, look_marks]
  cases look hl i <;> rfl
theorem mids_mem : ∀ {k i : Nat}, i ∈ mids k ↔ ∃ j, j < k ∧ i = 1000 + j
  | 0, i => by simp [mids]
  | k + 1, i => by
    simp only [mids, List.mem_cons, mids_mem]
    constructor
    · rintro (rfl | ⟨j, h, rfl⟩)
      · exact ⟨k, by omega, rfl⟩
      · exact ⟨j, by omega, rfl⟩
    · rintro ⟨j, h, rfl⟩
      rcases Nat.lt_or_ge j k with h1 | h1
      · exact .inr ⟨j, h1, rfl⟩
      · exact .inl (by omega)
theorem mids_nodup : ∀ k : Nat, (mids k).Nodup
  | 0 => List.nodup_nil
  | k + 1 => List.nodup_cons.2 ⟨fun h => by obtain ⟨j, h1, h2⟩ := mids_mem.1 h; omega, mids_nodup k⟩
theorem keys_marks (k : Nat) : (markL k).map (·.1) = mids k := by
  unfold markL
  rw [List.map_map]
  exact List.map_id _
theorem refs_marks (k : Nat) : refsH (markL k) = [] := by
  have key : ∀ l : List Nat, refsH (l.map fun i => (i, AObj.dfr)) = [] := by
    intro l
    induction l with
    | nil => rfl
    | cons i l ih => show AObj.refs .dfr ++ _ = _; rw [ih]; rfl
  exact key _
theorem refsH_app : ∀ (a b : List (Nat × AObj)), refsH (a ++ b) = refsH a ++ refsH b
  | [], _ => rfl
  | (k, o) :: a, b => by simp only [List.cons_append, refsH, refsH_app a b, List.append_assoc]
theorem AllP.app {α : Type} {p : α → Prop} : ∀ {a b : List α}, AllP p a → AllP p b → AllP p (a ++ b)
  | [], _, _, h => h
  | _ :: _, _, h, k => ⟨h.1, AllP.app h.2 k⟩
theorem distinct_of : ∀ {l : List Nat}, l.Nodup → distinct l = true
  | [], _ => rfl
  | x :: l, h => by
    obtain ⟨h1, h2⟩ := List.nodup_cons.1 h
    simp only [distinct, distinct_of h2, Bool.and_true]
    simpa using h1
theorem eqL_refl : ∀ l : List Nat, eqL l l = true
  | [] => rfl
  | a :: l => by simp [eqL, eqL_refl l]
theorem subset_of {a b : List Nat} (h : ∀ x ∈ a, x ∈ b) : subset a b = true := by
  simp only [subset, List.all_eq_true]
  exact fun x hx => by simpa using h x hx
/-- A smaller state, the marks as they are. -/
theorem Sub.listM {kf : List Nat} {st1 : St} {el : List (Nat × V)} {hl : List (Nat × AObj)} {k : Nat} (he : AllP (fun p => st1.e p.1 = some (p.2.ren (fun i => i))) el) (hh : AllP (fun p => ∃ o, st1.h p.1 = some o ∧ Ole (fun i => i) o p.2) hl)
    (hd : st1.d = mids k) (hm : ∀ i, i < k → st1.h (1000 + i) = some .dfr) (hok : (mkOk kf (fun i => i) el hl && (hl.all fun p => Nat.blt p.1 1000)) = true) : Sub kf (mkm el hl k) st1 := by
  rw [mkm_eq]
  rw [Bool.and_eq_true] at hok
  obtain ⟨hok, hlt⟩ := hok
  simp only [mkOk, Bool.and_eq_true] at hok
  obtain ⟨⟨⟨⟨h1, h2⟩, h3⟩, h4⟩, h5⟩ := hok
  refine Sub.listD (fun i => i) he (AllP.app hh (AllP.of fun p hp => ?_)) ?_
  · obtain ⟨i, hi, rfl⟩ := List.mem_map.1 hp
    obtain ⟨j, hj, rfl⟩ := mids_mem.1 hi
    exact ⟨_, hm j hj, .dfr⟩
  · have hkeys : List.map (fun p : Nat × AObj => p.1) (hl ++ markL k) = hl.map (·.1) ++ mids k := by rw [List.map_append, keys_marks]
    have hl3 : (List.map (fun p : Nat × AObj => (fun i : Nat => i) p.1) (hl ++ markL k)) = hl.map (·.1) ++ mids k := hkeys
    have app : ∀ {a b : List Nat}, subset a b = true → subset a (b ++ mids k) = true := fun h => subset_of fun x hx => List.mem_append.2 (.inl (subset_spec h x hx))
    simp only [mkOk, Bool.and_eq_true]
    rw [hkeys, refsH_app, refs_marks, List.append_nil]
    refine ⟨⟨⟨⟨⟨app h1, app h2⟩, ?_⟩, app h4⟩, h5⟩, ?_, ?_⟩
    · refine distinct_of ?_
      rw [List.nodup_append]
      refine ⟨distinct_spec h3, mids_nodup k, fun a ha b hb e => ?_⟩
      subst e
      obtain ⟨j, hj, rfl⟩ := mids_mem.1 hb
      obtain ⟨p, hp, hp2⟩ := List.mem_map.1 ha
      have := Nat.le_of_ble_eq_true ((List.all_eq_true.1 hlt) p hp)
      omega
    · rw [hd, List.map_id']; exact eqL_refl _
    · exact subset_of fun x hx => List.mem_append.2 (.inr hx)
theorem updL_far {h : Heap} {l : List (Nat × AObj)} {i : Nat} (hl : (l.all fun p => Nat.blt p.1 1000) = true) : updL h (outs l) (1000 + i) = h (1000 + i) := by
  rw [updL_outs]
  cases hk : look l (1000 + i) with
  | none => rfl
  | some o =>
    have := Nat.le_of_ble_eq_true ((List.all_eq_true.1 hl) _ (look_mem hk))
    omega
theorem mkm_far {el : List (Nat × V)} {hl : List (Nat × AObj)} {k i : Nat} (hl' : (hl.all fun p => Nat.blt p.1 1000) = true) : (mkm el hl k).h (1000 + i) = dm k (1000 + i) := by
  show (match look hl (1000 + i) with | some x => some x | none => dm k (1000 + i)) = _
  cases hk : look hl (1000 + i) with
  | none => rfl
  | some o =>
    have := Nat.le_of_ble_eq_true ((List.all_eq_true.1 hl') _ (look_mem hk))
    omega
theorem dm_in {k i : Nat} (h : i < k) : dm k (1000 + i) = some .dfr := by
  unfold dm
  rw [show Nat.ble 1000 (1000 + i) = true from Nat.ble_eq_true_of_le (by omega), show Nat.blt (1000 + i) (1000 + k) = true from Nat.ble_eq_true_of_le (by omega)]
  rfl
theorem dm_out {k : Nat} : dm k (1000 + k) = none := by
  unfold dm
  have : Nat.blt (1000 + k) (1000 + k) = false := by
    cases hb : Nat.blt (1000 + k) (1000 + k) with
    | false => rfl
    | true => have := Nat.le_of_ble_eq_true hb; omega
  rw [this]
  cases Nat.ble 1000 (1000 + k) <;> rfl
theorem far_upd {h : Heap} {k i : Nat} {x : Option AObj} {y : Option AObj} (hy : h (1000 + i) = y) (hk : Nat.blt k 1000 = true := by rfl) : upd h k x (1000 + i) = y := by
  have := Nat.le_of_ble_eq_true hk
  rw [upd_ne _ _ _ (by omega)]; exact hy
theorem far_updL {h : Heap} {l : List (Nat × Option AObj)} {i : Nat} {y : Option AObj} (hy : h (1000 + i) = y) (hl : (l.all fun p => Nat.blt p.1 1000) = true := by rfl) : updL h l (1000 + i) = y := by
  simp only [updL]
  cases hk : look l (1000 + i) with
  | none => exact hy
  | some o =>
    have := Nat.le_of_ble_eq_true ((List.all_eq_true.1 hl) _ (look_mem hk))
    omega
theorem far_mkm {el : List (Nat × V)} {hl : List (Nat × AObj)} {k i : Nat} {y : Option AObj} (hy : dm k (1000 + i) = y) (hl' : (hl.all fun p => Nat.blt p.1 1000) = true := by rfl) : (mkm el hl k).h (1000 + i) = y := (mkm_far hl').trans hy
theorem far_raw {hl : List (Nat × AObj)} {k i : Nat} {y : Option AObj} (hy : dm k (1000 + i) = y) (hl' : (hl.all fun p => Nat.blt p.1 1000) = true := by rfl) : (match look hl (1000 + i) with | some x => some x | none => dm k (1000 + i)) = y := (mkm_far (el := []) hl').trans hy
theorem far_ok {args : List V} {hin hout : List (Nat × AObj)} {i idl : Nat} (h : callOk args hin = true) (h2 : (hout.all fun p => Nat.blt p.1 1000) = true := by rfl) (h3 : Nat.blt idl 1000 = true := by rfl) : (callOk args hin && (!Nat.beq (1000 + i) idl && !((keys hout).contains (1000 + i)))) = true := by
  have h3 := Nat.le_of_ble_eq_true h3
  have e1 : Nat.beq (1000 + i) idl = false := by
    cases hb : Nat.beq (1000 + i) idl with
    | false => rfl
    | true => have := Nat.eq_of_beq_eq_true hb; omega
  have e2 : (keys hout).contains (1000 + i) = false := by
    cases hb : (keys hout).contains (1000 + i) with
    | false => rfl
    | true =>
      have hm : 1000 + i ∈ keys hout := by simpa using hb
      obtain ⟨p, hp, hp2⟩ := List.mem_map.1 hm
      have := Nat.le_of_ble_eq_true ((List.all_eq_true.1 h2) p hp)
      omega
  rw [h, e1, e2]; rfl
theorem near {h : Heap} {L : List (Nat × Option AObj)} {i id : Nat} {x y : Option AObj} (hy : updL h L id = y) (hid : Nat.blt id 1000 = true := by rfl) : updL (upd h (1000 + i) x) L id = y := by
  have h1 := Nat.le_of_ble_eq_true hid
  subst hy
  simp only [updL]
  rw [upd_ne _ _ _ (by omega)]
/-- Behind a loop over a function: one mark more. -/
theorem Sub.rangeM {kf : List Nat} {e : Nat → Option V} {h : Heap} {d : List Nat} {L : List (Nat × AObj)} {el : List (Nat × V)} {hl : List (Nat × AObj)} {k : Nat} (he : AllP (fun p => e p.1 = some (p.2.ren (fun i => i))) el) (hh : AllP (fun p => ∃ o, updL h (outs L) p.1 = some o ∧ Ole (fun i => i) o p.2) hl)
    (hd : d = mids k) (hm : ∀ i, i < k → h (1000 + i) = some .dfr) (hL : (L.all fun p => Nat.blt p.1 1000) = true) (hok : (mkOk kf (fun i => i) el hl && (hl.all fun p => Nat.blt p.1 1000)) = true) : Sub kf (mkm el hl (k + 1)) ⟨e, updL (upd h (1000 + k) (some .dfr)) (outs L), (1000 + k) :: d⟩ := by
  refine Sub.listM he ?_ (by show (1000 + k) :: d = _; rw [hd]; rfl) (fun j hj => ?_) hok
  · have h2 := hok
    rw [Bool.and_eq_true] at h2
    have key : ∀ l : List (Nat × AObj), (l.all fun p => Nat.blt p.1 1000) = true → AllP (fun p => ∃ o, updL h (outs L) p.1 = some o ∧ Ole (fun i => i) o p.2) l → AllP (fun p => ∃ o, updL (upd h (1000 + k) (some .dfr)) (outs L) p.1 = some o ∧ Ole (fun i => i) o p.2) l := by
      intro l
      induction l with
      | nil => intro _ _; trivial
      | cons p l ih =>
        intro hb hq
        simp only [List.all_cons, Bool.and_eq_true] at hb
        obtain ⟨o, q1, q2⟩ := hq.1
        exact ⟨⟨o, near q1 hb.1, q2⟩, ih hb.2 hq.2⟩
    exact key hl h2.2 hh
  · show updL (upd h (1000 + k) (some .dfr)) (outs L) (1000 + j) = _
    rw [updL_far hL]
    by_cases hji : j = k
    · subst hji; exact upd_same _ _ _
    · rw [upd_ne _ _ _ (by omega)]; exact hm j (by omega)
/-- The row in which the objects are written does not matter. -/
theorem ImpC.row {P : Program} {f : FuncId} {args : List V} {hin hin' hout hout' : List (Nat × AObj)} {res : V} (h : ImpC P f args hin res hout) (h1 : look hin' = look hin) (h2 : look hout' = look hout) : ImpC P f args hin' res hout' := by
  unfold ImpC at h ⊢
  rw [h1, h2]; exact h
theorem RndC.row {P : Program} {id : Nat} {args : List V} {hin hin' hout hout' : List (Nat × AObj)} {go : Bool} (h : RndC P id args hin go hout) (h1 : look hin' = look hin) (h2 : look hout' = look hout) : RndC P id args hin' go hout' := by
  unfold RndC at h ⊢
  rw [h1, h2]; exact h
theorem look_swap {α : Type} {a b : Nat} {x y : α} {l : List (Nat × α)} (h : Nat.beq a b = false := by rfl) : look ((a, x) :: (b, y) :: l) = look ((b, y) :: (a, x) :: l) := by
  funext i
  simp only [look]
  cases h1 : Nat.beq i a <;> cases h2 : Nat.beq i b <;> try rfl
  have e1 := Nat.eq_of_beq_eq_true h1
  have e2 := Nat.eq_of_beq_eq_true h2
  subst e1; subst e2
  rw [h1] at h; cases h
end Go.AM

/- A CELL OF A VARIABLE that holds nil, as an array of references. -/
namespace Go.AM
open Go

section
variable {P : Program} {n : Nat}
/-- A cell of a variable that holds nil, likewise. -/
theorem Sub.ownCellR {kf : List Nat} {st : St} {x k id tv : Nat} {cells : List R} (te es : Nat) (h : st.h x = some (.var tv cells)) (hk : cells[k]? = some (.c .nl)) (hid : st.h id = none) :
    Sub kf ⟨st.e, upd (upd st.h id (some (.rarr te es []))) x (some (.var tv (cells.set k (.ra id 0 0 0)))), st.d⟩ st := by
  intro G n S μ a w _ hs
  obtain ⟨hi, hE⟩ := hs.inv.emptyR te es hid
  have hne : x ≠ id := fun e => by subst e; rw [h] at hid; cases hid
  have hx : upd st.h id (some (.rarr te es [])) x = some (.var tv cells) := by rw [upd_ne _ _ _ hne]; exact h
  obtain ⟨b, vs, g1, g2, g3, g4⟩ := hi.obj x _ hx
  have hE2 : Evolve S (upd μ id none) (upd st.h id (some (.rarr te es []))) S (upd μ id none) (upd (upd st.h id (some (.rarr te es []))) x (some (.var tv (cells.set k (.ra id 0 0 0))))) := ⟨S.le_refl, fun j y hj => by
    by_cases hjx : j = x
    · subst hjx
      rw [hx] at hj; cases hj
      exact ⟨_, upd_same _ _ _, by simp [AObj.succ]⟩
    · exact ⟨y, by rw [upd_ne _ _ _ hjx]; exact hj, y.succ_refl rfl⟩⟩
  have hold : ∀ j y, upd (upd st.h id (some (.rarr te es []))) x (some (.var tv (cells.set k (.ra id 0 0 0)))) j = some y → ∃ y', upd st.h id (some (.rarr te es [])) j = some y' := fun j y hj => by
    by_cases hjx : j = x
    · subst hjx; exact ⟨_, hx⟩
    · rw [upd_ne _ _ _ hjx] at hj; exact ⟨_, hj⟩
  refine ⟨S, upd μ id none, ⟨⟨hi.holds, fun j y hj => ?_, fun i j y y' b c c' hi' hj hm hm' => ?_, fun i y b c hi' hm => ?_, hi.frame, hi.sle, hi.sto, hi.evo.trans hE2⟩, hs.size, hs.defers.evolve (hE.trans hE2), fun s v e => VRel.evolve (hE.trans hE2) v _ (hs.env s v e)⟩⟩
  · by_cases hjx : j = x
    · subst hjx
      have hj' : some (AObj.var tv (cells.set k (.ra id 0 0 0))) = some y := by rw [← hj]; exact (upd_same _ _ _).symm
      cases hj'
      refine ⟨b, vs, g1, g2, ?_, g4⟩
      have h3 := RRelL.evolve hE2 _ _ g3
      obtain ⟨u, hu, hru⟩ := g3.get k _ hk
      simp only [RRel, Rep] at hru
      have hkl : k < cells.length := (List.getElem?_eq_some_iff.1 hk).1
      have hsplit : cells.set k (.ra id 0 0 0) = splice cells k [.ra id 0 0 0] := by
        unfold splice
        rw [List.set_eq_take_append_cons_drop, if_pos hkl]
        simp
      have hvl := g3.length
      have hvs : vs = splice vs k [u] := by
        unfold splice
        apply List.ext_getElem?
        intro i
        simp only [List.getElem?_append, List.length_append, List.length_take, List.length_cons, List.length_nil, List.getElem?_take, List.getElem?_drop]
        have hm : min k vs.length = k := by omega
        rw [hm]
        by_cases c1 : i < k
        · simp [c1, show i < k + 1 by omega]
        · by_cases c2 : i = k
          · subst c2; simp [hu]
          · simp [show ¬ i < k + 1 by omega, show k + 1 + (i - (k + 1)) = i by omega]
      rw [hsplit] at h3 ⊢
      rw [hvs]
      refine splice_rel h3 ?_
      simp only [RRelL, RRel]
      exact ⟨u, [], rfl, ⟨⟨_, _, _, hru⟩, .inr ⟨te, es, [], by rw [upd_ne _ _ _ hne.symm]; exact upd_same _ _ _, Nat.le_refl _, fun _ => ⟨Nat.le_refl _, .inl ⟨upd_same _ _ _, rfl, hru⟩⟩⟩⟩, rfl⟩
    · have hj' : upd st.h id (some (.rarr te es [])) j = some y := by rw [← hj]; exact (upd_ne _ _ _ hjx).symm
      exact (hi.obj j y hj').evolve hE2 rfl fun _ _ _ => ⟨rfl, fun _ => rfl, rfl⟩
  · obtain ⟨_, h1⟩ := hold _ _ hi'
    obtain ⟨_, h2⟩ := hold _ _ hj
    exact hi.inj i j _ _ b c c' h1 h2 hm hm'
  · obtain ⟨_, h1⟩ := hold _ _ hi'
    exact hi.own i _ b c h1 hm

/-- A map's entries, told in other words. -/
theorem Sim.turnMap {G : Ctx} {n : Nat} {S : Sto} {μ : Mu} {st : St} {a : Act} {w : World} {id : Nat} {agg : Bool} {ents ents' : List (List C)} (hs : Sim G n S μ st a w) (hid : st.h id = some (.map agg ents))
    (ho : ∃ b es clk, μ id = some (b, 0, 0) ∧ w.heap[b]? = some (.map es clk) ∧ MapOk S agg ents' es.toList ∧ S.mapo b = none) : Sim G n S μ ⟨st.e, upd st.h id (some (.map agg ents')), st.d⟩ a w := by
  have hE : Evolve S μ st.h S μ (upd st.h id (some (.map agg ents'))) := ⟨S.le_refl, fun j x hj => by
    by_cases hji : j = id
    · subst hji
      rw [hid] at hj; cases hj
      exact ⟨_, upd_same _ _ _, by simp [AObj.succ]⟩
    · exact ⟨x, by rw [upd_ne _ _ _ hji]; exact hj, x.succ_refl rfl⟩⟩
  have hold : ∀ j x, upd st.h id (some (.map agg ents')) j = some x → ∃ x', st.h j = some x' := fun j x hj => by
    by_cases hji : j = id
    · subst hji; exact ⟨_, hid⟩
    · rw [upd_ne _ _ _ hji] at hj; exact ⟨_, hj⟩
  refine ⟨⟨hs.inv.holds, fun j x hj => ?_, fun i j x x' b c c' hi hj hm hm' => ?_, fun i x b c hi hm => ?_, hs.inv.frame, hs.inv.sle, hs.inv.sto, hs.inv.evo.trans hE⟩, hs.size, hs.defers.evolve hE, fun t v ht => VRel.evolve hE v _ (hs.env t v ht)⟩
  · have hj : upd st.h id (some (.map agg ents')) j = some x := hj
    by_cases hji : j = id
    · subst hji
      rw [upd_same] at hj
      cases hj
      exact ho
    · rw [upd_ne _ _ _ hji] at hj
      exact (hs.inv.obj j x hj).evolve hE rfl fun _ _ _ => ⟨rfl, fun _ => rfl, rfl⟩
  · obtain ⟨_, h1⟩ := hold _ _ hi
    obtain ⟨_, h2⟩ := hold _ _ hj
    exact hs.inv.inj i j _ _ b c c' h1 h2 hm hm'
  · obtain ⟨_, h1⟩ := hold _ _ hi
    exact hs.inv.own i _ b c h1 hm

/-! ### Maps of which nobody reads -/
def omap (agg : Bool) : AObj := .map agg [[]]
theorem mput_ne {k : List UInt8} {vs : List C} : ∀ {l : List (List C)}, mstr l → mstr (mput k vs l)
  | [], _ => by simp [mput, mstr]
  | (.str s :: us) :: r, h => by
    simp only [mput]
    simp only [mstr] at h
    split
    · simpa [mstr] using h
    · simpa [mstr] using mput_ne h
/-- The entries of such a map. -/
theorem Sim.reveal {G : Ctx} {n : Nat} {S : Sto} {μ : Mu} {st : St} {a : Act} {w : World} {id : Nat} {agg : Bool} (hs : Sim G n S μ st a w) (hid : st.h id = some (.map agg [[]])) : ∃ ents, mstr ents ∧ Sim G n S μ ⟨st.e, upd st.h id (some (.map agg ents)), st.d⟩ a w := by
  obtain ⟨b, es, clk, h1, h2, h3, h4⟩ := hs.inv.obj id _ hid
  obtain ⟨ents, hm, hr⟩ : ∃ ents, mstr ents ∧ RepEnts S agg ents es.toList := by
    rcases h3 with ⟨_, e', g1, g2⟩ | h3
    · exact ⟨e', g1, g2⟩
    · simp only [RepEnts, RepL] at h3
      obtain ⟨e, es', _, ⟨vs, g, _⟩, _⟩ := h3
      cases g
  exact ⟨ents, hm, hs.turnMap hid ⟨b, es, clk, h1, h2, .inr hr, h4⟩⟩
theorem Sim.forget {G : Ctx} {n : Nat} {S : Sto} {μ : Mu} {st : St} {a : Act} {w : World} {id : Nat} {agg : Bool} {ents : List (List C)} (hs : Sim G n S μ st a w) (hid : st.h id = some (.map agg ents)) (hm : mstr ents) : Sim G n S μ ⟨st.e, upd st.h id (some (.map agg [[]])), st.d⟩ a w := by
  obtain ⟨b, es, clk, h1, h2, h3, h4⟩ := hs.inv.obj id _ hid
  exact hs.turnMap hid ⟨b, es, clk, h1, h2, .inl ⟨rfl, ents, hm, h3.rep hm⟩, h4⟩
/-- A map's literal's entry, into such a map. -/
theorem r_insertO {o : Oper} {st : St} {T : TT} {t kt et : TypeId} {i ki : TI} {x y z : Operand} {id : Nat} {agg : Bool} {k : List UInt8} {v : V} {rs : List R} (hT : Tok P T) (ho : o.op = .insert t x y z) (hd : o.dst = none) (hi : T[t]? = some (some i)) (hk : i.k = .mp kt et)
    (hki : T[kt]? = some (some ki)) (hkk : ki.k = .str) (hx : opv st x = some (.one (.mr id))) (hh : st.h id = some (.map agg [[]])) (hy : opv st y = some (Go.AM.T k))
    (hz : opv st z = some v) (hva : (match v with | .one _ => !agg | .pa _ => agg | .ma _ => agg | _ => false) = true) (hc : cellsV v = some rs) : Step P n o st ⟨opr x ++ opr y ++ opr z, [id]⟩ ⟨none, []⟩ := by
  intro st' ha G S μ a w K Q hs hk'
  have hh' : st'.h id = some (.map agg [[]]) := (ha.2 id (by simp)).trans hh
  obtain ⟨ents, hm, hs2⟩ := hs.reveal hh'
  have hop : ∀ {x : Operand} {u : V}, (∀ s ∈ opr x, st'.e s = st.e s) → opv st x = some u → opv ⟨st'.e, upd st'.h id (some (.map agg ents)), st'.d⟩ x = some u := fun {x u} h e => by
    cases x <;> first | exact e | (exact (h _ (by simp [opr])).trans e)
  refine r_insert (ids := []) (cs := purA rs) hT ho hd hi hk hki hkk (hop (fun s h => ha.1 s (by simp [h])) hx) (upd_same _ _ _) hm (hop (fun s h => ha.1 s (by simp [h])) hy) (hop (fun s h => ha.1 s (by simp [h])) hz) (by cases v <;> first | rfl | exact hva) hc .ofA ⟨st'.e, upd st'.h id (some (.map agg ents)), st'.d⟩ ⟨fun _ _ => rfl, fun _ _ => rfl⟩ G S μ a w K Q hs2 fun S1 μ1 a1 w1 h1 => hk' S1 μ1 a1 w1 ?_
  have h2 := h1.forget (id := id) (agg := agg) (ents := mput k (purA rs) ents) (by show updL (upd st'.h id _) [(id, _)] id = _; rw [updL_one, upd_same]) (mput_ne hm)
  have e : (⟨st'.e, upd (updL (upd st'.h id (some (.map agg ents))) [(id, some (.map agg (mput k (purA rs) ents)))]) id (some (.map agg [[]])), st'.d⟩ : St) = st' := by
    rw [updL_one]
    have : upd (upd (upd st'.h id (some (.map agg ents))) id (some (.map agg (mput k (purA rs) ents)))) id (some (.map agg [[]])) = st'.h := by
      funext j
      by_cases hj : j = id
      · subst hj; rw [upd_same, hh']
      · rw [upd_ne _ _ _ hj, upd_ne _ _ _ hj, upd_ne _ _ _ hj]
    rw [this]
  have h3 : Sim G n S1 μ1 ⟨st'.e, upd (updL (upd st'.h id (some (.map agg ents))) [(id, some (.map agg (mput k (purA rs) ents)))]) id (some (.map agg [[]])), st'.d⟩ a1 w1 := h2
  rw [e] at h3
  exact h3
/-- Such a map is made. -/
theorem r_makeMapO {o : Oper} {st : St} {d : Nat} {t : TypeId} {id : Nat} {agg : Bool} (ho : o.op = .makeMap t none) (hd : o.dst = some d) (hdn : d < n) (hid : st.h id = none) : Step P n o st ⟨[], [id]⟩ ⟨some (d, some (.one (.mr id))), [(id, some (.map agg [[]]))]⟩ := by
  intro st' ha G S μ a w K Q hs hk'
  refine r_makeMap id agg ho hd hdn hid st' ha G S μ a w K Q hs fun S1 μ1 a1 w1 h1 => hk' S1 μ1 a1 w1 ?_
  have h2 := h1.forget (id := id) (agg := agg) (ents := []) (by show updL st'.h [(id, _)] id = _; rw [updL_one, upd_same]) trivial
  have e : (upd (updL st'.h [(id, some (.map agg []))]) id (some (.map agg [[]]))) = updL st'.h [(id, some (.map agg [[]]))] := by
    rw [updL_one, updL_one, upd_upd]
  have h3 : Sim G n S1 μ1 ⟨upd st'.e d (some (.one (.mr id))), upd (updL st'.h [(id, some (.map agg []))]) id (some (.map agg [[]])), st'.d⟩ a1 w1 := h2
  rw [e] at h3
  exact h3
end
end Go.AM

/- AN ARRAY'S ROWS may say an empty slice where nil stands. -/
namespace Go.AM
open Go

inductive CsLe : List C → List C → Prop
  | nil : CsLe [] []
  | cons {c c' : C} {l l' : List C} (h0 : Cle c c') (h : CsLe l l') : CsLe (c :: l) (c' :: l')
inductive RowsLe : List (List C) → List (List C) → Prop
  | nil : RowsLe [] []
  | cons {r r' : List C} {l l' : List (List C)} (h : CsLe r r') (k : RowsLe l l') : RowsLe (r :: l) (r' :: l')
theorem CsLe.refl : ∀ l : List C, CsLe l l
  | [] => .nil
  | _ :: l => .cons .refl (CsLe.refl l)
theorem RowsLe.refl : ∀ l : List (List C), RowsLe l l
  | [] => .nil
  | r :: l => .cons (CsLe.refl r) (RowsLe.refl l)
theorem CsLe.length {l l' : List C} (h : CsLe l l') : l'.length = l.length := by
  induction h with
  | nil => rfl
  | cons h0 h ih => simp [ih]
theorem CsLe.rep {S : Sto} {l l' : List C} (h : CsLe l l') : ∀ {vs : List Value}, RepL S l vs → RepL S l' vs := by
  induction h with
  | nil => exact fun k => k
  | cons h0 h ih =>
    intro vs k
    simp only [RepL] at k ⊢
    obtain ⟨v, vs', rfl, h1, h2⟩ := k
    exact ⟨v, vs', rfl, h0.rep h1, ih h2⟩
theorem CsLe.app {a a' b b' : List C} (h : CsLe a a') (k : CsLe b b') : CsLe (a ++ b) (a' ++ b') := by
  induction h with
  | nil => exact k
  | cons h0 h ih => exact .cons h0 ih
theorem RowsLe.flat {l l' : List (List C)} (h : RowsLe l l') : CsLe l.flatten l'.flatten := by
  induction h with
  | nil => exact .nil
  | cons h k ih => simp only [List.flatten_cons]; exact h.app ih
theorem RowsLe.length {l l' : List (List C)} (h : RowsLe l l') : l'.length = l.length := by
  induction h with
  | nil => rfl
  | cons h k ih => simp [ih]
theorem RowsLe.rows {l l' : List (List C)} (h : RowsLe l l') {n : Nat} : (∀ r ∈ l, r.length = n) → ∀ r ∈ l', r.length = n := by
  induction h with
  | nil => exact fun h => h
  | cons h k ih =>
    intro hl r hr
    rcases List.mem_cons.1 hr with rfl | hr
    · rw [h.length]; exact hl _ List.mem_cons_self
    · exact ih (fun x hx => hl x (List.mem_cons_of_mem _ hx)) r hr
theorem Sub.arrWeak {kf : List Nat} {st : St} {x te es fz : Nat} {rows rows' : List (List C)} (h : st.h x = some (.arr te es rows fz)) (hp : RowsLe rows rows') : Sub kf ⟨st.e, upd st.h x (some (.arr te es rows' fz)), st.d⟩ st := by
  intro G n S μ a w _ hs
  have hi := hs.inv
  have ho := hi.obj x _ h
  have hE2 : Evolve S μ st.h S μ (upd st.h x (some (.arr te es rows' fz))) := ⟨S.le_refl, fun j y hj => by
    by_cases hjx : j = x
    · subst hjx
      rw [h] at hj; cases hj
      exact ⟨_, upd_same _ _ _, by simp [AObj.succ, hp.length]⟩
    · exact ⟨y, by rw [upd_ne _ _ _ hjx]; exact hj, y.succ_refl rfl⟩⟩
  have hold : ∀ j y, upd st.h x (some (.arr te es rows' fz)) j = some y → ∃ y', st.h j = some y' := fun j y hj => by
    by_cases hjx : j = x
    · subst hjx; exact ⟨_, h⟩
    · rw [upd_ne _ _ _ hjx] at hj; exact ⟨_, hj⟩
  refine ⟨S, μ, ⟨⟨hi.holds, fun j y hj => ?_, fun i j y y' b c c' hi' hj hm hm' => ?_, fun i y b c hi' hm => ?_, hi.frame, hi.sle, hi.sto, hi.evo.trans hE2⟩, hs.size, hs.defers.evolve hE2, fun s v e => VRel.evolve hE2 v _ (hs.env s v e)⟩⟩
  · by_cases hjx : j = x
    · subst hjx
      have hj' : some (AObj.arr te es rows' fz) = some y := by rw [← hj]; exact (upd_same _ _ _).symm
      cases hj'
      obtain ⟨g0, g⟩ := ho
      refine ⟨hp.rows g0, ?_⟩
      rcases g with ⟨g1, g2⟩ | ⟨b, base, cap, vs, g1, g2, g3, g4, g5, g6, g7, g8, g9⟩
      · subst g2
        cases hp
        exact .inl ⟨g1, rfl⟩
      · refine .inr ⟨b, base, cap, vs, g1, g2, g3, by rw [hp.length]; exact g4, g5, ?_, g7, ?_, ?_⟩
        · rw [hp.length]; exact hp.flat.rep g6
        · rw [hp.length]; exact g8
        · rw [hp.length]; exact g9
    · have hj' : st.h j = some y := by rw [← hj]; exact (upd_ne _ _ _ hjx).symm
      exact (hi.obj j y hj').evolve hE2 rfl fun _ _ _ => ⟨rfl, fun _ => rfl, rfl⟩
  · obtain ⟨_, h1⟩ := hold _ _ hi'
    obtain ⟨_, h2⟩ := hold _ _ hj
    exact hi.inj i j _ _ b c c' h1 h2 hm hm'
  · obtain ⟨_, h1⟩ := hold _ _ hi'
    exact hi.own i _ b c h1 hm
/-- Likewise, as it is meant. -/
theorem aw {kf : List Nat} {st : St} (x : Nat) {te es fz : Nat} {rows : List (List C)} (rows' : List (List C)) (h : st.h x = some (.arr te es rows fz) := by rfl)
    (hp : RowsLe rows rows' := by repeat (first | exact .nil | apply Go.AM.RowsLe.cons | apply Go.AM.CsLe.cons .refl | apply Go.AM.CsLe.cons .nl)) : Sub kf ⟨st.e, upd st.h x (some (.arr te es rows' fz)), st.d⟩ st := Sub.arrWeak h hp
end Go.AM
