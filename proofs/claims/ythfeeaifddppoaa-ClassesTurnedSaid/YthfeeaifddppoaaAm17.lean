/-
  THE OPERATIONS, ONE BY ONE (9): append onto nil; the rest of an array; max.
-/
import Derived.Test.YthfeeaifddppoaaAm16
namespace Go.AM
open Go

section
variable {P : Program} {n : Nat} {o : Oper} {st : St} {d : Nat} {T : TT}

theorem upd_upd {α : Type} (f : Nat → Option α) (k : Nat) (x y : Option α) : upd (upd f k x) k y = upd f k y := by
  funext i
  simp only [upd]
  split <;> rfl

/-- append, onto nil. -/
theorem r_append0 {t e : TypeId} {i ei : TI} {x y : Operand} {rows : List (List C)} {vy : V} {ids : List Nat} (id : Nat) (hT : Tok P T) (ho : o.op = .call { callee := .builtin .append, args := #[x, y], argTypes := #[t, t] }) (hd : o.dst = some d) (hdn : d < n)
    (hi : T[t]? = some (some i)) (hk : i.k = .sl e) (hei : T[e]? = some (some ei)) (hes : Nat.ble 1 ei.size = true) (heb : Nat.ble 1 ei.bytes = true)
    (hx : opv st x = some (.one (.c .nl))) (hid : st.h id = none) (hy : opv st y = some vy) (hsrc : Src st ei.size ids vy rows)
    (hroom : rows.length * ei.bytes ≤ 140737488355328) :
    Step P n o st ⟨opr x ++ opr y, id :: ids⟩ ⟨some (d, some (.one (.hs id 0 rows.length rows.length))), [(id, some (.arr e ei.size rows 0))]⟩ := by
  intro st' ha G S μ a w K Q hs hk'
  have hid' : st'.h id = none := by rw [ha.2 id (by simp), hid]
  obtain ⟨hi', hE⟩ := hs.inv.empty e ei.size hid'
  have hs2 : Sim G n S (upd μ id none) ⟨st'.e, upd st'.h id (some (.arr e ei.size [] 0)), st'.d⟩ a w := ⟨hi', hs.size, hs.defers.evolve hE, fun t v e => VRel.evolve hE v _ (hs.env t v e)⟩
  have hvx := opv_rel hs hx fun t ht => ha.1 t (by simp [ht])
  have hvy := opv_rel hs hy fun t ht => ha.1 t (by simp [ht])
  simp only [VRel, RRel, Rep] at hvx
  have hvx' : VRel S (upd μ id none) (upd st'.h id (some (.arr e ei.size [] 0))) (.one (.hs id 0 0 0)) (a.eval x) := by
    simp only [VRel, RRel]
    exact ⟨⟨_, _, _, hvx⟩, .inr ⟨e, ei.size, [], 0, upd_same _ _ _, Nat.le_refl _, fun _ => ⟨Nat.le_refl _, .inl ⟨upd_same _ _ _, rfl, hvx⟩⟩⟩⟩
  have hne : ∀ j ∈ ids, j ≠ id := by
    intro j hj e
    subst e
    cases hsrc with
    | hs h1 _ _ => simp at hj; subst hj; rw [hid] at h1; cases h1
    | all h1 _ => simp at hj; subst hj; rw [hid] at h1; cases h1
    | sl => simp at hj
    | nl => simp at hj
    | sn => simp at hj
  have := append_at (fz := 0) (elems := []) (id := id) hT ho hi hk hei hes heb rfl (by simpa using hroom) (upd_same _ _ _) hs2 hvx' (VRel.evolve hE _ _ hvy) hsrc fun j hj => by
    show upd st'.h id (some (.arr e ei.size [] 0)) j = _
    rw [upd_ne _ _ _ (hne j hj)]
    exact ha.2 j (by simp [hj])
  refine grow_at hd hdn (by simp) _ (upd_same _ _ _) hs2 (fun S' μ' a' w' h => hk' S' μ' a' w' ?_) this
  have e1 : Eff.apply ⟨some (d, some (.one (.hs id 0 (([] : List (List C)).length + rows.length) (([] : List (List C)).length + rows.length)))), [(id, some (.arr e ei.size ([] ++ rows) (if 0 = 0 then 0 else 1)))]⟩ ⟨st'.e, upd st'.h id (some (.arr e ei.size [] 0)), st'.d⟩
      = Eff.apply ⟨some (d, some (.one (.hs id 0 rows.length rows.length))), [(id, some (.arr e ei.size rows 0))]⟩ st' := by
    unfold Eff.apply
    rw [updL_one, updL_one, upd_upd]
    simp
  rw [e1] at h
  exact h

/-- A slot read as plain data. -/
theorem Sub.conv {kf ids : List Nat} {t : Nat} {v v' : V} (h : st.e t = some v) (hc : Conv st.h ids v v') : Sub kf ⟨upd st.e t (some v'), st.h, st.d⟩ st := by
  intro G n S μ a w _ hs
  refine ⟨S, μ, ⟨hs.inv, hs.size, hs.defers, fun s u e => ?_⟩⟩
  by_cases hst : s = t
  · subst hst
    have : some v' = some u := by rw [← e]; exact (upd_same _ _ _).symm
    cases this
    exact hc.rel (fun _ _ => rfl) hs.inv.obj (hs.env s _ h)
  · exact hs.env s u (by rw [← e]; exact (upd_ne _ _ _ hst).symm)

/-- '[]T{..}', as plain data. -/
theorem r_sliceC {t e : TypeId} {i ei : TI} {len : Nat} {parts : Array (Nat × Operand)} {ids : List Nat} {rows : List (List C)} (id : Nat) (hT : Tok P T) (ho : o.op = .buildSlice t len parts) (hd : o.dst = some d) (hdn : d < n) (hi : T[t]? = some (some i)) (hk : i.k = .sl e) (hei : T[e]? = some (some ei)) (hrows : RowsV st ei.size 0 ids parts.toList rows) (hlen : Nat.beq len parts.size = true) (hsmall : Nat.ble (len * ei.size) 16777216 = true) (hsm1 : Nat.ble len 16777216 = true) (hid : st.h id = none) :
    Step P n o st ⟨partsR parts.toList, id :: ids⟩ ⟨some (d, some (.one (.c (.sl ei.size rows)))), [(id, some (.arr e ei.size rows 2))]⟩ := by
  intro st' ha G S μ a w K Q hs hk'
  refine r_slice id hT ho hd hdn hi hk hei hrows hlen hsmall hsm1 hid st' ha G S μ a w K Q hs fun S1 μ1 a1 w1 h1 => ?_
  have hlen' : len = rows.length := by rw [hrows.lengths]; simpa using Nat.eq_of_beq_eq_true hlen
  have hh : (Eff.apply ⟨some (d, some (.one (.hs id 0 len len))), [(id, some (.arr e ei.size rows 0))]⟩ st').h id = some (.arr e ei.size rows 0) := by
    show updL st'.h [(id, some (.arr e ei.size rows 0))] id = _
    rw [updL_one, upd_same]
  obtain ⟨S2, μ2, h2⟩ := h1.freeze hh
  refine hk' S2 μ2 a1 w1 ⟨?_, h2.size, ?_, fun s u e1 => ?_⟩
  · have := h2.inv
    show Inv G S2 μ2 (updL st'.h [(id, some (.arr e ei.size rows 2))]) w1
    rw [updL_one]
    have e2 : upd (Eff.apply ⟨some (d, some (.one (.hs id 0 len len))), [(id, some (.arr e ei.size rows 0))]⟩ st').h id (some (.arr e ei.size rows 2)) = upd st'.h id (some (.arr e ei.size rows 2)) := by
      show upd (updL st'.h [(id, some (.arr e ei.size rows 0))]) id _ = _
      rw [updL_one, upd_upd]
    rw [← e2]; exact this
  · have := h2.defers
    show Marks _ μ2 (updL st'.h [(id, some (.arr e ei.size rows 2))]) st'.d a1.defers
    rw [updL_one]
    have e2 : upd (Eff.apply ⟨some (d, some (.one (.hs id 0 len len))), [(id, some (.arr e ei.size rows 0))]⟩ st').h id (some (.arr e ei.size rows 2)) = upd st'.h id (some (.arr e ei.size rows 2)) := by
      show upd (updL st'.h [(id, some (.arr e ei.size rows 0))]) id _ = _
      rw [updL_one, upd_upd]
    rw [← e2]; exact this
  · have e2 : upd (Eff.apply ⟨some (d, some (.one (.hs id 0 len len))), [(id, some (.arr e ei.size rows 0))]⟩ st').h id (some (.arr e ei.size rows 2)) = updL st'.h [(id, some (.arr e ei.size rows 2))] := by
      show upd (updL st'.h [(id, some (.arr e ei.size rows 0))]) id _ = _
      rw [updL_one, updL_one, upd_upd]
    show VRel S2 μ2 (updL st'.h [(id, some (.arr e ei.size rows 2))]) u (a1.tmps.getD s undef)
    by_cases hsd : s = d
    · subst hsd
      have hu : u = .one (.c (.sl ei.size rows)) := by
        have : upd st'.e s (some (.one (.c (.sl ei.size rows)))) s = some u := e1
        rw [upd_same] at this
        cases this; rfl
      subst hu
      have hv := h2.env s (.one (.hs id 0 len len)) (upd_same _ _ _)
      have hO := h2.inv.obj id _ (upd_same _ _ _)
      have := (Conv.one (h := upd (Eff.apply ⟨some (s, some (.one (.hs id 0 len len))), [(id, some (.arr e ei.size rows 0))]⟩ st').h id (some (.arr e ei.size rows 2))) (PureL.hs (e := rows) (upd_same _ _ _) hlen' (by rw [hlen']; simp) .nil)).rel (fun _ _ => rfl) h2.inv.obj hv
      rw [← e2]
      exact this
    · have : upd st'.e d (some (.one (.c (.sl ei.size rows)))) s = some u := e1
      rw [upd_ne _ _ _ hsd] at this
      have hv := h2.env s u (by show upd st'.e d _ s = some u; rw [upd_ne _ _ _ hsd]; exact this)
      rw [← e2]
      exact hv

/-! ### Arithmetic of numbers that are no less than 0 -/
theorem r_addN {tx ty : TypeId} {x y : Operand} {a b : Nat} (ho : o.op = .binOp .add tx x y ty) (hd : o.dst = some d) (hdn : d < n) (hx : opv st x = some (I .i64 (a : Nat))) (hy : opv st y = some (I .i64 (b : Nat))) (hr : a + b ≤ 9223372036854775807) :
    Step P n o st ⟨opr x ++ opr y, []⟩ ⟨some (d, some (I .i64 ((a + b : Nat) : Int))), []⟩ := r_add ho hd hdn hx hy (by rw [← Int.natCast_add]; exact IntWalk.i64_in _ (by omega))
theorem r_mulN {tx ty : TypeId} {x y : Operand} {a b : Nat} (ho : o.op = .binOp .mul tx x y ty) (hd : o.dst = some d) (hdn : d < n) (hx : opv st x = some (I .i64 (a : Nat))) (hy : opv st y = some (I .i64 (b : Nat))) (hr : a * b ≤ 9223372036854775807) :
    Step P n o st ⟨opr x ++ opr y, []⟩ ⟨some (d, some (I .i64 ((a * b : Nat) : Int))), []⟩ := r_mul ho hd hdn hx hy (by rw [← Int.natCast_mul]; exact IntWalk.i64_in _ (by omega))
theorem r_subN {tx ty : TypeId} {x y : Operand} {a b : Nat} (ho : o.op = .binOp .sub tx x y ty) (hd : o.dst = some d) (hdn : d < n) (hx : opv st x = some (I .i64 (a : Nat))) (hy : opv st y = some (I .i64 (b : Nat))) (hr : b ≤ a ∧ a ≤ 9223372036854775807) :
    Step P n o st ⟨opr x ++ opr y, []⟩ ⟨some (d, some (I .i64 ((a - b : Nat) : Int))), []⟩ := r_sub ho hd hdn hx hy (by rw [show (a : Int) - b = ((a - b : Nat) : Int) by omega]; exact IntWalk.i64_in _ (by omega))
theorem r_quoN {tx ty : TypeId} {x y : Operand} {a b : Nat} (ho : o.op = .binOp .quo tx x y ty) (hd : o.dst = some d) (hdn : d < n) (hx : opv st x = some (I .i64 (a : Nat))) (hy : opv st y = some (I .i64 (b : Nat))) (hr : a ≤ 9223372036854775807 ∧ 1 ≤ b) :
    Step P n o st ⟨opr x ++ opr y, []⟩ ⟨some (d, some (I .i64 ((a / b : Nat) : Int))), []⟩ := by
  have := r_quoI (P := P) (n := n) ho hd hdn hx hy (by omega)
  rwa [← Int.natCast_ediv] at this
theorem r_remN {tx ty : TypeId} {x y : Operand} {a b : Nat} (ho : o.op = .binOp .rem tx x y ty) (hd : o.dst = some d) (hdn : d < n) (hx : opv st x = some (I .i64 (a : Nat))) (hy : opv st y = some (I .i64 (b : Nat))) (hr : 1 ≤ b) :
    Step P n o st ⟨opr x ++ opr y, []⟩ ⟨some (d, some (I .i64 ((a % b : Nat) : Int))), []⟩ := by
  have := r_remI (P := P) (n := n) ho hd hdn hx hy (by omega)
  rwa [← Int.natCast_emod] at this

/-- The greater one. -/
theorem r_max {t1 t2 : TypeId} {x y : Operand} {k : IntKind} {a b r : Int} (ho : o.op = .call { callee := .builtin .max, args := #[x, y], argTypes := #[t1, t2] }) (hd : o.dst = some d) (hdn : d < n) (hx : opv st x = some (I k a)) (hy : opv st y = some (I k b)) (hr : (if b > a then b else a) = r) :
    Step P n o st ⟨opr x ++ opr y, []⟩ ⟨some (d, some (I k r)), []⟩ := by
  refine Step.value hd hdn fun st' ha G S μ ac w hs => ?_
  have h1 := one_int (opv_rel hs hx fun t h => ha.1 t (by simp [h]))
  have h2 := one_int (opv_rel hs hy fun t h => ha.1 t (by simp [h]))
  refine ⟨.int k r, ?_, by simp [VRel, RRel, Rep]⟩
  simp only [execOp, ho, resolve, List.map_toArray, List.map_cons, List.map_nil, h1, h2, Sem.run_bind, Sem.run_pure, Result.andThen_ok, invoke, builtin, Builtin.max_, List.foldlM_cons, List.foldlM_nil, Builtin.max2, hr]
end
end Go.AM
