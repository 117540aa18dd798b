/-
  CALLS: what a function does to what it is handed ('ImpC'); a call by such a contract; a function's body.
-/
import Derived.Test.YthfeeaifddppoaaAm11
namespace Go.AM
open Go

def Foot (μ : Mu) (h : Heap) : Nat → Prop := fun b => ∃ id o c, h id = some o ∧ μ id = some (b, c)

/-- THE CONTRACT: called with such arguments, where such objects lie, the function returns such a result and leaves such objects; nothing else has turned. -/
def ImpC (P : Program) (f : FuncId) (args : List V) (hin : List (Nat × AObj)) (res : V) (hout : List (Nat × AObj)) : Prop :=
  ∀ S μ w vals, Inv ⟨w, S, Foot μ (look hin), μ, look hin⟩ S μ (look hin) w → VRelL S μ (look hin) args vals →
    Calls P f ⟨vals⟩ w fun e w' => ∃ S' μ' v, e = .returned v ∧ Inv ⟨w, S, Foot μ (look hin), μ, look hin⟩ S' μ' (look hout) w' ∧ VRel S' μ' (look hout) res v

mutual
theorem R.ren_id : ∀ r : R, r.ren (fun i => i) = r
  | .c _ => rfl
  | .hs .. => rfl
  | .tl .. => rfl
  | .vp .. => rfl
  | .ep .. => rfl
  | .mr .. => rfl
  | .clo f caps => by simp only [R.ren, R.renL_id caps]
  | .mth _ _ => rfl
  | .yl _ => rfl
  | .ra _ _ _ _ => rfl
theorem R.renL_id : ∀ r : List R, R.renL (fun i => i) r = r
  | [] => rfl
  | r :: rs => by simp only [R.renL, R.ren_id r, R.renL_id rs]
end
mutual
theorem V.ren_id : ∀ r : V, r.ren (fun i => i) = r
  | .one r => by simp only [V.ren, R.ren_id r]
  | .pa _ => rfl
  | .ma l => by simp only [V.ren, R.renL_id l]
  | .tup l => by simp only [V.ren, V.renL_id l]
theorem V.renL_id : ∀ r : List V, V.renL (fun i => i) r = r
  | [] => rfl
  | r :: rs => by simp only [V.renL, V.ren_id r, V.renL_id rs]
end
theorem renE_id : ∀ l : List (Nat × V), renE (fun i => i) l = l
  | [] => rfl
  | (t, v) :: l => by simp only [renE, V.ren_id v, renE_id l]
theorem renR_id : ∀ l : List (List R), renR (fun i => i) l = l
  | [] => rfl
  | r :: l => by simp only [renR, R.renL_id r, renR_id l]
theorem Ole.refl_id {o : AObj} (h : o ≠ .dead) : Ole (fun i => i) o o := by
  cases o with
  | var t cells => exact .var (R.renL_id cells).symm
  | arr => exact .arr
  | map => exact .map
  | dead => exact absurd rfl h
  | lp st j i e => exact .lp (renE_id e).symm
  | dfr => exact .dfr
  | rarr te es l => exact .rarr (renR_id l).symm

/-- An argument as it is handed on: as it is, or as plain data. -/
inductive Conv (h : Heap) : List Nat → V → V → Prop
  | refl {v} : Conv h [] v v
  | one {ids r c} : PureL h ids [r] [c] → Conv h ids (.one r) (.one (.c c))
  | agg {ids rs cs} : PureL h ids rs cs → Conv h ids (.ma rs) (.pa cs)
  | pa {ids l cs} : PureL h ids (l.map R.c) cs → Conv h ids (.pa l) (.pa cs)
inductive ArgsV (st : St) : List Nat → List Operand → List V → Prop
  | nil : ArgsV st [] [] []
  | cons {ids ids' x xs v v' vs} : opv st x = some v → Conv st.h ids v v' → ArgsV st ids' xs vs → ArgsV st (ids ++ ids') (x :: xs) (v' :: vs)

theorem Conv.rel {S : Sto} {μ : Mu} {H H0 : Heap} {w : World} {ids : List Nat} {v v' : V} {u : Value} (h : Conv H0 ids v v') (hi : ∀ i ∈ ids, H i = H0 i) (hO : ∀ id o, H id = some o → ORel S μ H w id o) (hv : VRel S μ H v u) : VRel S μ H v' u := by
  cases h with
  | refl => exact hv
  | @one _ r c h =>
    simp only [VRel, RRel] at hv ⊢
    have := h.rel hi hO (vs := [u]) (by simp only [RRelL]; exact ⟨u, [], rfl, hv, rfl⟩)
    simp only [RepL] at this
    obtain ⟨v, vs', h1, h2, h3⟩ := this
    cases h1
    exact h2
  | @agg _ rs cs h =>
    simp only [VRel] at hv ⊢
    obtain ⟨vs, h1, h2⟩ := hv
    exact ⟨vs, h1, h.rel hi hO h2⟩
  | @pa _ l cs h =>
    simp only [VRel] at hv ⊢
    obtain ⟨vs, h1, h2⟩ := hv
    exact ⟨vs, h1, h.rel hi hO h2.toR⟩

def operandsR : List Operand → List Nat
  | [] => []
  | x :: xs => opr x ++ operandsR xs

theorem ArgsV.rel {G : Ctx} {n : Nat} {S : Sto} {μ : Mu} {st st' : St} {a : Act} {w : World} (hs : Sim G n S μ st' a w) : ∀ {ids : List Nat} {xs : List Operand} {vs : List V}, ArgsV st ids xs vs → (∀ t ∈ operandsR xs, st'.e t = st.e t) → (∀ i ∈ ids, st'.h i = st.h i) → VRelL S μ st'.h vs (xs.map a.eval) := by
  intro ids xs vs h
  induction h with
  | nil => intro _ _; simp [VRelL]
  | cons hx hc _ ih =>
    intro ht hi
    simp only [List.map_cons, VRelL]
    refine ⟨_, _, rfl, ?_, ih (fun t h => ht t (by simp [operandsR, h])) fun i h => hi i (by simp [h])⟩
    exact hc.rel (fun i h => hi i (by simp [h])) hs.inv.obj (opv_rel hs hx fun t h => ht t (by simp [operandsR, h]))

/-- The objects handed on, as the callee finds them. -/
theorem Inv.hand {G : Ctx} {S : Sto} {μ : Mu} {H : Heap} {w : World} {hin : List (Nat × AObj)} (h : Inv G S μ H w) (hh : ∀ id o, look hin id = some o → H id = some o ∧ o ≠ .dead) (hc : subset (refsH hin) (hin.map (·.1)) = true) :
    Inv ⟨w, S, Foot μ (look hin), μ, look hin⟩ S μ (look hin) w := by
  have hgood : ∀ i ∈ hin.map (·.1), Good H (look hin) (fun i => i) i := by
    intro i hi
    obtain ⟨o, ho⟩ := look_some hi
    obtain ⟨h1, h2⟩ := hh i o ho
    exact ⟨o, o, h1, ho, .refl_id h2⟩
  refine ⟨h.holds, fun id o ho => ?_, fun i j o o' b c c' hi hj hm hm' => h.inj i j o o' b c c' (hh _ _ hi).1 (hh _ _ hj).1 hm hm', fun i o b c hi hm => .inr ⟨i, o, c, hi, hm⟩, FrameW.refl _ _, S.le_refl, fun b _ _ => ⟨fun _ => rfl, rfl⟩, Evolve.refl _ _ _⟩
  obtain ⟨h1, h2⟩ := hh id o ho
  exact (h.obj id o h1).ren (.refl_id h2) fun i hi => hgood i (subset_spec hc i (refsH_mem (look_mem ho) i hi))

def outs (l : List (Nat × AObj)) : List (Nat × Option AObj) := l.map fun p => (p.1, some p.2)
theorem look_outs : ∀ (l : List (Nat × AObj)) (i : Nat), look (outs l) i = (look l i).map some
  | [], _ => rfl
  | (k, o) :: l, i => by
    simp only [outs, List.map_cons, look]
    cases Nat.beq i k
    · have := look_outs l i
      unfold outs at this
      simpa using this
    · rfl
theorem updL_outs (H : Heap) (l : List (Nat × AObj)) (i : Nat) : updL H (outs l) i = match look l i with | some o => some o | none => H i := by
  simp only [updL, look_outs]
  cases look l i <;> rfl

/-- Behind a call. -/
theorem Inv.back {G : Ctx} {S S' : Sto} {μ μ' : Mu} {H : Heap} {w w' : World} {hin hout : List (Nat × AObj)} (h : Inv G S μ H w) (hh : ∀ id o, look hin id = some o → H id = some o)
    (hnew : ∀ id o, look hout id = some o → (∃ o', look hin id = some o') ∨ H id = none)
    (h' : Inv ⟨w, S, Foot μ (look hin), μ, look hin⟩ S' μ' (look hout) w') :
    ∃ μ2 : Mu, (∀ id o, look hout id = some o → μ2 id = μ' id) ∧ Inv G S' μ2 (updL H (outs hout)) w' ∧ Evolve S μ H S' μ2 (updL H (outs hout)) ∧ Evolve S' μ' (look hout) S' μ2 (updL H (outs hout)) := by
  have hE : Evolve S μ (look hin) S' μ' (look hout) := h'.evo
  let μ2 : Mu := fun id => match look hout id with | some _ => μ' id | none => μ id
  have hμ1 : ∀ id o, look hout id = some o → μ2 id = μ' id := fun id o ho => by simp only [μ2, ho]
  have hμ2 : ∀ id, look hout id = none → μ2 id = μ id := fun id ho => by simp only [μ2, ho]
  have hH1 : ∀ id o, look hout id = some o → updL H (outs hout) id = some o := fun id o ho => by rw [updL_outs, ho]
  have hH2 : ∀ id, look hout id = none → updL H (outs hout) id = H id := fun id ho => by rw [updL_outs, ho]
  have hin_out : ∀ id o, look hin id = some o → ∃ o', look hout id = some o' := fun id o ho => by
    obtain ⟨o', h1, _⟩ := hE.obj id o ho
    exact ⟨o', h1⟩
  have hE1 : Evolve S μ H S' μ2 (updL H (outs hout)) := by
    refine ⟨hE.le, fun id o ho => ?_⟩
    cases hq : look hout id with
    | none => exact ⟨o, by rw [hH2 id hq, ho], o.succ_refl (hμ2 id hq)⟩
    | some o2 =>
      rcases hnew id o2 hq with ⟨o', hi⟩ | hi
      · have := hh id o' hi
        rw [ho] at this; cases this
        obtain ⟨o3, h1, h2⟩ := hE.obj id o hi
        rw [hq] at h1; cases h1
        exact ⟨o2, hH1 id o2 hq, by rw [hμ1 id o2 hq]; exact h2⟩
      · rw [ho] at hi; cases hi
  have hE2 : Evolve S' μ' (look hout) S' μ2 (updL H (outs hout)) := ⟨S'.le_refl, fun id o ho => ⟨o, hH1 id o ho, o.succ_refl (hμ1 id o ho)⟩⟩
  -- an object that was not handed on: its block stands
  have hrest : ∀ id o, H id = some o → look hout id = none → ∀ b c, μ id = some (b, c) → b < w.heap.size ∧ ¬ Foot μ (look hin) b := by
    intro id o ho hq b c hm
    refine ⟨(h.obj id o ho).lt hm, ?_⟩
    rintro ⟨id', o', c', h1, h2⟩
    have := h.inj id id' o o' b c c' ho (hh _ _ h1) hm h2
    subst this
    obtain ⟨o2, h3⟩ := hin_out id o' h1
    rw [hq] at h3; cases h3
  have hblock : ∀ id o b c, look hout id = some o → μ' id = some (b, c) → w.heap.size ≤ b ∨ Foot μ (look hin) b := fun id o b c ho hm => h'.own id o b c ho hm
  refine ⟨μ2, hμ1, ⟨h'.holds, fun id o ho => ?_, fun i j o o' b c c' hi hj hm hm' => ?_, fun i o b c hi hm => ?_, ?_, Sto.le_trans h.sle hE.le, fun b hb hF => ?_, h.evo.trans hE1⟩, hE1, hE2⟩
  · cases hq : look hout id with
    | some o2 =>
      rw [hH1 id o2 hq] at ho; cases ho
      exact (h'.obj id _ hq).evolve hE2 (hμ1 id _ hq) fun b c hm => ⟨rfl, fun _ => rfl, rfl⟩
    | none =>
      rw [hH2 id hq] at ho
      refine (h.obj id o ho).evolve hE1 (hμ2 id hq) fun b c hm => ?_
      obtain ⟨h1, h2⟩ := hrest id o ho hq b c hm
      exact ⟨h'.frame.block b h1 h2, (h'.sto b h1 h2).1, (h'.sto b h1 h2).2⟩
  · cases hqi : look hout i with
    | some oi =>
      rw [hμ1 i oi hqi] at hm
      cases hqj : look hout j with
      | some oj =>
        rw [hμ1 j oj hqj] at hm'
        exact h'.inj i j oi oj b c c' hqi hqj hm hm'
      | none =>
        rw [hμ2 j hqj] at hm'
        rw [hH2 j hqj] at hj
        obtain ⟨h1, h2⟩ := hrest j o' hj hqj b c' hm'
        rcases hblock i oi b c hqi hm with h3 | h3
        · omega
        · exact absurd h3 h2
    | none =>
      rw [hμ2 i hqi] at hm
      rw [hH2 i hqi] at hi
      obtain ⟨h1, h2⟩ := hrest i o hi hqi b c hm
      cases hqj : look hout j with
      | some oj =>
        rw [hμ1 j oj hqj] at hm'
        rcases hblock j oj b c' hqj hm' with h3 | h3
        · omega
        · exact absurd h3 h2
      | none =>
        rw [hμ2 j hqj] at hm'
        rw [hH2 j hqj] at hj
        exact h.inj i j o o' b c c' hi hj hm hm'
  · cases hq : look hout i with
    | some o2 =>
      rw [hμ1 i o2 hq] at hm
      rcases hblock i o2 b c hq hm with h3 | ⟨id', o', c', h3, h4⟩
      · exact .inl (Nat.le_trans h.frame.size h3)
      · exact h.own id' o' b c' (hh _ _ h3) h4
    | none =>
      rw [hμ2 i hq] at hm
      rw [hH2 i hq] at hi
      exact h.own i o b c hi hm
  · refine ⟨h'.frame.os.trans h.frame.os, h'.frame.tape.trans h.frame.tape, h'.frame.output.trans h.frame.output, Nat.le_trans h.frame.size h'.frame.size, fun k hk hF => ?_⟩
    rw [h'.frame.block k (Nat.lt_of_lt_of_le hk h.frame.size) ?_, h.frame.block k hk hF]
    rintro ⟨id', o', c', h3, h4⟩
    rcases h.own id' o' k c' (hh _ _ h3) h4 with h5 | h5
    · omega
    · exact hF h5
  · have hnf : ¬ Foot μ (look hin) b := by
      rintro ⟨id', o', c', h3, h4⟩
      rcases h.own id' o' b c' (hh _ _ h3) h4 with h5 | h5
      · omega
      · exact hF h5
    have h1 := h'.sto b (Nat.lt_of_lt_of_le hb h.frame.size) hnf
    have h2 := h.sto b hb hF
    exact ⟨fun o => (h1.1 o).trans (h2.1 o), h1.2.trans h2.2⟩

section
variable {P : Program} {n : Nat} {o : Oper} {st : St} {d : Nat}

def keys {α : Type} (l : List (Nat × α)) : List Nat := l.map (·.1)
def AObj.live : AObj → Bool
  | .dead => false
  | _ => true
def callOk (args : List V) (hin : List (Nat × AObj)) : Bool := subset (V.refsL args) (keys hin) && subset (refsH hin) (keys hin) && (hin.all fun p => p.2.live)

/-- The core of a call by contract. -/
theorem Step.call {f : FuncId} {ids slots : List Nat} {args : List V} {hin hout : List (Nat × AObj)} {res : V} (hd : o.dst = some d) (hdn : d < n) (hf : ImpC P f args hin res hout)
    (hin' : AllP (fun p => st.h p.1 = some p.2) hin) (hout' : AllP (fun p => p.1 ∈ keys hin ∨ st.h p.1 = none) hout) (hok : callOk args hin = true)
    (hrun : ∀ st', Agree ⟨slots, ids ++ keys hin ++ keys hout⟩ st st' → ∀ G S μ a w, Sim G n S μ st' a w → ∃ vals, (execOp a.eval o).run P w = .ok (.enter f ⟨vals⟩) w ∧ VRelL S μ st'.h args vals) :
    Step P n o st ⟨slots, ids ++ keys hin ++ keys hout⟩ ⟨some (d, some res), outs hout⟩ := by
  intro st' ha G S μ a w K Q hs hk
  obtain ⟨vals, hr, hv⟩ := hrun st' ha G S μ a w hs
  simp only [callOk, Bool.and_eq_true] at hok
  obtain ⟨⟨k1, k2⟩, k3⟩ := hok
  have hh : ∀ id o, look hin id = some o → st'.h id = some o ∧ o ≠ .dead := by
    intro id o ho
    have hm := look_mem ho
    have h1 := hin'.mem _ hm
    refine ⟨by rw [ha.2 id (by simp only [List.mem_append]; exact .inl (.inr (List.mem_map.2 ⟨_, hm, rfl⟩)))]; exact h1, ?_⟩
    have := (List.all_eq_true.1 k3) _ hm
    rintro rfl
    simp [AObj.live] at this
  have hnew : ∀ id o, look hout id = some o → (∃ o', look hin id = some o') ∨ st'.h id = none := by
    intro id o ho
    have hm := look_mem ho
    rcases hout'.mem _ hm with h1 | h1
    · exact .inl (look_some h1)
    · exact .inr (by rw [ha.2 id (by simp only [List.mem_append]; exact .inr (List.mem_map.2 ⟨_, hm, rfl⟩))]; exact h1)
  have hI := hs.inv.hand hh k2
  have hgood : ∀ i ∈ keys hin, Good st'.h (look hin) (fun i => i) i := by
    intro i hi
    obtain ⟨o, ho⟩ := look_some hi
    obtain ⟨h1, h2⟩ := hh i o ho
    exact ⟨o, o, h1, ho, .refl_id h2⟩
  have hv' : VRelL S μ (look hin) args vals := by
    have := VRelL.ren (H := st'.h) (H' := look hin) (σ := fun i => i) args vals (fun i hi => hgood i (subset_spec k1 i hi)) (by rw [V.renL_id]; exact hv)
    exact this
  have hc := hf S μ w vals hI hv'
  refine fun ro => wpIn_of_enter hr ?_
  refine hc.mono fun e w' ⟨S', μ', v, he, hI', hres⟩ => ?_
  subst he
  obtain ⟨μ2, q1, q2, q3, q4⟩ := hs.inv.back (fun id o ho => (hh id o ho).1) hnew hI'
  show K (a.put o.dst v) w'
  rw [hd]
  refine hk S' μ2 _ _ ?_
  exact hs.put q2 q3 hdn (x := some res) fun z hz => by cases hz; exact VRel.evolve q4 _ _ hres

/-- A function of the program's own, with a body. -/
def bodied (P : Program) (f : FuncId) : Prop := ∃ fn, P.funcs[f]? = some fn ∧ (fn.name == "runtime.NumGoroutine") = false ∧ fn.body.isNone = false

theorem run_callFunc {f : FuncId} (hb : bodied P f) (args : Array Value) (w : World) : (callFunc f args).run P w = .ok (.enter f args) w := by
  obtain ⟨fn, h1, h2, h3⟩ := hb
  have hp : (program : Sem Program).run P w = .ok P w := rfl
  simp only [callFunc, Sem.run_bind, hp, Result.andThen_ok, h1, h2, h3, Bool.false_eq_true, if_false, Sem.run_pure]

/-- A call of a function that is named. -/
theorem r_call {f : FuncId} {xs : Array Operand} {ts : Array TypeId} {ids : List Nat} {args : List V} {res : V} (hin hout : List (Nat × AObj)) (hb : bodied P f) (ho : o.op = .call { callee := .value (.func f), args := xs, argTypes := ts }) (hd : o.dst = some d) (hdn : d < n)
    (hf : ImpC P f args hin res hout) (ha : ArgsV st ids xs.toList args) (hin' : AllP (fun p => st.h p.1 = some p.2) hin) (hout' : AllP (fun p => p.1 ∈ keys hin ∨ st.h p.1 = none) hout) (hok : callOk args hin = true) :
    Step P n o st ⟨operandsR xs.toList, ids ++ keys hin ++ keys hout⟩ ⟨some (d, some res), outs hout⟩ := by
  refine Step.call hd hdn hf hin' hout' hok fun st' hag G S μ a w hs => ⟨xs.toList.map a.eval, ?_, ha.rel hs hag.1 fun i h => hag.2 i (by simp [h])⟩
  simp only [execOp, ho, resolve, Deferred.ofValue, Act.eval, Sem.run_bind, Sem.run_pure, Result.andThen_ok, invoke, run_callFunc hb]
  congr 2
  apply Array.ext'
  simp

/-- A call of a closure. -/
theorem r_callv {f : FuncId} {x : Operand} {caps : List R} {xs : Array Operand} {ts : Array TypeId} {ids : List Nat} {args : List V} {res : V} (hin hout : List (Nat × AObj)) (hb : bodied P f) (ho : o.op = .call { callee := .value x, args := xs, argTypes := ts }) (hd : o.dst = some d) (hdn : d < n)
    (hx : opv st x = some (.one (.clo f caps))) (hf : ImpC P f (args ++ caps.map V.one) hin res hout) (ha : ArgsV st ids xs.toList args) (hin' : AllP (fun p => st.h p.1 = some p.2) hin) (hout' : AllP (fun p => p.1 ∈ keys hin ∨ st.h p.1 = none) hout) (hok : callOk (args ++ caps.map V.one) hin = true) :
    Step P n o st ⟨opr x ++ operandsR xs.toList, ids ++ keys hin ++ keys hout⟩ ⟨some (d, some res), outs hout⟩ := by
  refine Step.call hd hdn hf hin' hout' hok fun st' hag G S μ a w hs => ?_
  have hv := opv_rel hs hx fun t ht => hag.1 t (by simp [ht])
  simp only [VRel, RRel] at hv
  obtain ⟨vs, h1, h2⟩ := hv
  refine ⟨xs.toList.map a.eval ++ vs, ?_, ?_⟩
  · simp only [execOp, ho, resolve, h1, Deferred.ofValue, Sem.run_bind, Sem.run_pure, Result.andThen_ok, invoke, run_callFunc hb]
    congr 2
    apply Array.ext'
    simp
  · have hap : ∀ (l : List V) (us : List Value) (rs : List R) (vs : List Value), VRelL S μ st'.h l us → RRelL S μ st'.h rs vs → VRelL S μ st'.h (l ++ rs.map V.one) (us ++ vs) := by
      intro l
      induction l with
      | nil =>
        intro us rs vs h k
        simp only [VRelL] at h
        subst h
        simp only [List.nil_append]
        induction rs generalizing vs with
        | nil => simp only [RRelL] at k; subst k; simp [VRelL]
        | cons r rs ih =>
          simp only [RRelL] at k
          obtain ⟨v, vs', rfl, k1, k2⟩ := k
          simp only [List.map_cons, VRelL]
          exact ⟨v, vs', rfl, by simpa [VRel] using k1, ih vs' k2⟩
      | cons x l ih =>
        intro us rs vs h k
        simp only [VRelL] at h
        obtain ⟨v, vs', rfl, k1, k2⟩ := h
        simp only [List.cons_append, VRelL]
        exact ⟨v, _, rfl, k1, ih vs' rs vs k2 k⟩
    exact hap _ _ _ _ (ha.rel hs (fun t ht => hag.1 t (by simp [ht])) fun i h => hag.2 i (by simp [h])) h2

/-- A call of a method that holds its receiver. -/
theorem r_callm {f : FuncId} {x : Operand} {recv : C} {xs : Array Operand} {ts : Array TypeId} {ids : List Nat} {args : List V} {res : V} (hin hout : List (Nat × AObj)) (hb : bodied P f) (ho : o.op = .call { callee := .value x, args := xs, argTypes := ts }) (hd : o.dst = some d) (hdn : d < n)
    (hx : opv st x = some (.one (.mth f recv))) (hf : ImpC P f (.one (.c recv) :: args) hin res hout) (ha : ArgsV st ids xs.toList args) (hin' : AllP (fun p => st.h p.1 = some p.2) hin) (hout' : AllP (fun p => p.1 ∈ keys hin ∨ st.h p.1 = none) hout) (hok : callOk (.one (.c recv) :: args) hin = true) :
    Step P n o st ⟨opr x ++ operandsR xs.toList, ids ++ keys hin ++ keys hout⟩ ⟨some (d, some res), outs hout⟩ := by
  refine Step.call hd hdn hf hin' hout' hok fun st' hag G S μ a w hs => ?_
  have hv := opv_rel hs hx fun t ht => hag.1 t (by simp [ht])
  simp only [VRel, RRel] at hv
  obtain ⟨u, h1, h2⟩ := hv
  refine ⟨u :: xs.toList.map a.eval, ?_, ?_⟩
  · simp only [execOp, ho, resolve, h1, Deferred.ofValue, Sem.run_bind, Sem.run_pure, Result.andThen_ok, invoke, run_callFunc hb]
    congr 2
    apply Array.ext'
    simp
  · simp only [VRelL, VRel, RRel]
    exact ⟨u, _, rfl, h2, ha.rel hs (fun t ht => hag.1 t (by simp [ht])) fun i h => hag.2 i (by simp [h])⟩
end
end Go.AM
