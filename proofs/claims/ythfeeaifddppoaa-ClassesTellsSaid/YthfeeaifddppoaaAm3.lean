/-
  ONE OPERATION, AND A REGION IN WHATEVER ORDER: what an operation reads and what it does ('Rd', 'Eff'), that it does so wherever it reads the same ('Step', 'GStep'), and that a region whose operations do not disturb one another comes, in every order, to the one state of the order of the text.
-/
import Derived.Test.YthfeeaifddppoaaAm2
import Derived.OrdersIn
namespace Go.AM
open Go

structure Rd where
  e : List Nat
  h : List Nat

structure Eff where
  d : Option (Nat × Option V)
  h : List (Nat × Option AObj)

def look {α : Type} : List (Nat × α) → Nat → Option α
  | [], _ => none
  | (k, x) :: l, i => if Nat.beq i k then some x else look l i

def updL (f : Heap) (l : List (Nat × Option AObj)) : Heap := fun i => match look l i with | some o => o | none => f i
theorem updL_nil (f : Heap) : updL f [] = f := rfl
theorem updL_one (f : Heap) (id : Nat) (x : Option AObj) : updL f [(id, x)] = upd f id x := by
  funext i
  simp only [look, upd, updL]
  cases Nat.beq i id <;> rfl

def Eff.apply (f : Eff) (st : St) : St :=
  { e := match f.d with | some (t, v) => upd st.e t v | none => st.e
    h := updL st.h f.h
    d := st.d }

def Eff.we (f : Eff) : List Nat := (f.d.map (·.1)).toList
def Eff.wh (f : Eff) : List Nat := f.h.map (·.1)

def Agree (rd : Rd) (st st' : St) : Prop := (∀ t ∈ rd.e, st'.e t = st.e t) ∧ (∀ i ∈ rd.h, st'.h i = st.h i)
theorem Agree.refl (rd : Rd) (st : St) : Agree rd st st := ⟨fun _ _ => rfl, fun _ _ => rfl⟩

/-- All functions, calls as deep as they go; in a round of a loop over a function, or in none. -/
def Wd (ro : Option Nat) : Fence := { fn := fun _ => True, depth := none, alive := false, round := ro }
theorem Wd.fenced (P : Program) (ro : Option Nat) (m : Machine) : m.fenced P (Wd ro) := fenced_wide P m
theorem Wd.room (ro : Option Nat) (k : Nat) : (Wd ro).room k := fun _ h => by simp [Wd] at h
theorem Wd.steps {ro : Option Nat} {P : Program} {m m' : Machine} : StepsIn (Machine.fenced P (Wd ro)) P m m' ↔ Steps P m m' :=
  ⟨StepsIn.steps, fun h => (StepsIn.of_steps h).mono fun m _ => Wd.fenced P ro m⟩
theorem Wd.comes {ro : Option Nat} {P : Program} {m m' : Machine} {e : Ending} : ComesIn (Machine.fenced P (Wd ro)) P m m' e ↔ Comes P m m' e := by
  cases e with
  | returned v => exact Wd.steps
  | panicked chain => exact Wd.steps
  | outgrown => exact Iff.rfl
theorem Wd.calls {ro : Option Nat} {n : Nat} {P : Program} {f : FuncId} {args : Array Value} {w : World} {R : Ending → World → Prop} : CallsIn (Wd ro) n P f args w R ↔ Calls P f args w R :=
  ⟨fun h cs => let ⟨e, w', fr, r, s, x⟩ := h.2 cs (Wd.room _ _); ⟨e, w', fr, r, Wd.comes.1 s, x⟩,
   fun h => ⟨trivial, fun cs _ => let ⟨e, w', fr, r, s, x⟩ := h cs; ⟨e, w', fr, r, Wd.comes.2 s, x⟩⟩⟩
theorem Wd.wp {n : Nat} {P : Program} {c : Code} {Q : Exit → Act → World → Prop} {a : Act} {w : World} : c.wpIn (Wd none) n P Q a w ↔ c.wp P Q a w := wpIn_wide
theorem semAt_of_ok {P : Program} {o : Oper} {ro : Option Nat} {ρ : Operand → Value} {w w' : World} {r : Next} (h : (execOp ρ o).run P w = .ok r w') (hr : ∀ d, r ≠ .defer d) : (o.semAt ro ρ).run P w = .ok r w' := by
  rw [Oper.semAt_eq]
  · exact h
  · intro c hc
    rw [execOp, hc] at h
    simp only [Sem.run_bind] at h
    cases hq : (resolve ρ c o.type).run P w with
    | ok d w1 =>
      rw [hq] at h
      simp only [Result.andThen, Sem.run_pure] at h
      cases h
      exact hr _ rfl
    | halt x w1 => rw [hq] at h; simp [Result.andThen] at h
section
variable {P : Program} {o : Oper} {ro : Option Nat} {a : Act} {w w' : World} {K : Act → World → Prop} {Q : Exit → Act → World → Prop}
theorem wpIn_of_value {v : Value} (hr : (execOp a.eval o).run P w = .ok (.value v) w') (h : K (a.put o.dst v) w') : o.wpIn (Wd ro) 0 P a w K Q := by
  refine ⟨fun _ _ => trivial, ?_⟩
  rw [semAt_of_ok hr (by simp), Oper.uponIn_value]
  exact h
theorem wpIn_of_skip (hr : (execOp a.eval o).run P w = .ok .skip w') (h : K (a.put o.dst undef) w') : o.wpIn (Wd ro) 0 P a w K Q := by
  refine ⟨fun _ _ => trivial, ?_⟩
  rw [semAt_of_ok hr (by simp), Oper.uponIn_skip]
  exact h
theorem wpIn_of_enter {f : FuncId} {args : Array Value} (hr : (execOp a.eval o).run P w = .ok (.enter f args) w')
    (h : Calls P f args w' fun
      | .returned v, w'' => K (a.put o.dst v) w''
      | .panicked chain, w'' => Q (.panic chain) a w''
      | .outgrown, _ => LetsOut Q) : o.wpIn (Wd ro) 0 P a w K Q := by
  refine ⟨fun _ _ => trivial, ?_⟩
  rw [semAt_of_ok hr (by simp), Oper.uponIn_enter]
  exact ⟨fun h => by simp [Wd] at h, Wd.calls.2 h⟩
end

/-- WHAT AN OPERATION DOES: wherever the state is as read, its run goes on with the effect. -/
def Step (P : Program) (n : Nat) (o : Oper) (st : St) (rd : Rd) (f : Eff) : Prop :=
  ∀ st', Agree rd st st' → ∀ G S μ a w (K : Act → World → Prop) (Q : Exit → Act → World → Prop), Sim G n S μ st' a w →
    (∀ S' μ' a' w', Sim G n S' μ' (f.apply st') a' w' → K a' w') → ∀ ro, o.wpIn (Wd ro) 0 P a w K Q

/-- An operation in its region: guarded or not. -/
def GStep (P : Program) (n : Nat) (ops : Array Oper) (i : Nat) (st : St) (rd : Rd) (f : Eff) : Prop :=
  ∀ st', Agree rd st st' → ∀ G S μ a w (K : Act → World → Prop) (Q : Exit → Act → World → Prop), Sim G n S μ st' a w →
    (∀ S' μ' a' w', Sim G n S' μ' (f.apply st') a' w' → K a' w') → ∀ ro, wpOpIn (Wd ro) 0 P ops Q i K a w

theorem GStep.plain {P : Program} {n : Nat} {ops : Array Oper} {i : Nat} {o : Oper} {st : St} {rd : Rd} {f : Eff} (ho : ops[i]? = some o) (hg : o.guard = none) (h : Step P n o st rd f) : GStep P n ops i st rd f := by
  intro st' ha G S μ a w K Q hs hk ro
  unfold wpOpIn
  simp only [ho]
  rw [if_pos (by simp [Region.wanted, hg])]
  exact h st' ha G S μ a w K Q hs hk ro

theorem getElem?_of_getD {ts : Array Value} {t : Nat} {b : Bool} (h : ts.getD t undef = .bool b) : ts[t]? = some (.bool b) := by
  rw [Array.getD_eq_getD_getElem?] at h
  cases hq : ts[t]? with
  | none => simp [hq, undef] at h
  | some v => simp [hq] at h; rw [h]

theorem GStep.yes {P : Program} {n : Nat} {ops : Array Oper} {i j t : Nat} {want b : Bool} {o : Oper} {st : St} {rd : Rd} {f : Eff} (ho : ops[i]? = some o) (hg : o.guard = some (j, want)) (hj : (ops[j]?).bind (·.dst) = some t)
    (hb : st.e t = some (.one (.c (.bool b)))) (hw : b = want) (h : Step P n o st rd f) : GStep P n ops i st ⟨t :: rd.e, rd.h⟩ f := by
  intro st' ha G S μ a w K Q hs hk ro
  have hb' : st'.e t = some (.one (.c (.bool b))) := by rw [ha.1 t (by simp), hb]
  have hv := hs.env t _ hb'
  simp only [VRel, RRel, Rep] at hv
  have hv' := getElem?_of_getD hv
  unfold wpOpIn
  simp only [ho]
  rw [if_pos (by simp [Region.wanted, hg, yielded, hj, hv', hw])]
  exact h st' ⟨fun t ht => ha.1 t (by simp [ht]), ha.2⟩ G S μ a w K Q hs hk ro

theorem GStep.no {P : Program} {n : Nat} {ops : Array Oper} {i j t d : Nat} {want b : Bool} {o : Oper} {st : St} (ho : ops[i]? = some o) (hg : o.guard = some (j, want)) (hd : o.dst = some d) (hdn : d < n) (hj : (ops[j]?).bind (·.dst) = some t)
    {nw : Bool} (hb : st.e t = some (.one (.c (.bool b)))) (hw' : b = nw) (hn : nw = !want) : GStep P n ops i st ⟨[t], []⟩ ⟨some (d, some (.tup [])), []⟩ := by
  have hw : b = !want := hw'.trans hn
  intro st' ha G S μ a w K Q hs hk ro
  have hb' : st'.e t = some (.one (.c (.bool b))) := by rw [ha.1 t (by simp), hb]
  have hv := hs.env t _ hb'
  simp only [VRel, RRel, Rep] at hv
  have hv' := getElem?_of_getD hv
  unfold wpOpIn
  simp only [ho]
  rw [if_neg (by simp [Region.wanted, hg, yielded, hj, hv', hw])]
  rw [hd]
  refine ⟨fun _ _ => trivial, hk S μ _ _ ?_⟩
  exact hs.put hs.inv (Evolve.refl _ _ _) hdn (fun y hy => by cases hy; simp only [VRel]; exact ⟨[], rfl, by simp [VRelL]⟩)

/-- A guard that was not come to. -/
theorem GStep.un {P : Program} {n : Nat} {ops : Array Oper} {i j t d : Nat} {want : Bool} {o : Oper} {st : St} (ho : ops[i]? = some o) (hg : o.guard = some (j, want)) (hd : o.dst = some d) (hdn : d < n) (hj : (ops[j]?).bind (·.dst) = some t)
    (hb : st.e t = some (.tup [])) : GStep P n ops i st ⟨[t], []⟩ ⟨some (d, some (.tup [])), []⟩ := by
  intro st' ha G S μ a w K Q hs hk ro
  have hb' : st'.e t = some (.tup []) := by rw [ha.1 t (by simp), hb]
  have hv := hs.env t _ hb'
  simp only [VRel] at hv
  obtain ⟨vs, hv, hvs⟩ := hv
  simp only [VRelL] at hvs
  subst hvs
  have hny : yielded ops a.tmps j = none := by
    unfold yielded
    rw [hj]
    simp only [Option.bind_some]
    rw [Array.getD_eq_getD_getElem?] at hv
    cases hq : a.tmps[t]? with
    | none => rfl
    | some v => rw [hq] at hv; simp at hv; subst hv; rfl
  unfold wpOpIn
  simp only [ho]
  rw [if_neg (by simp [Region.wanted, hg, hny])]
  rw [hd]
  refine ⟨fun _ _ => trivial, hk S μ _ _ ?_⟩
  exact hs.put hs.inv (Evolve.refl _ _ _) hdn (fun y hy => by cases hy; simp only [VRel]; exact ⟨[], rfl, by simp [VRelL]⟩)

/-! ### The order of the text, and any other -/

abbrev REs := List (Rd × Eff)

/-- The state behind those operations that are chosen. -/
def foldL (L : Nat → Bool) : Nat → REs → St → St
  | _, [], st => st
  | k, x :: xs, st => foldL L (k + 1) xs (bif L k then x.2.apply st else st)

inductive Run (P : Program) (n : Nat) (ops : Array Oper) : Nat → St → REs → St → Prop
  | nil {k st} : Run P n ops k st [] st
  | cons {k st rd f xs st'} : GStep P n ops k st rd f → Run P n ops (k + 1) (f.apply st) xs st' → Run P n ops k st ((rd, f) :: xs) st'

theorem Run.final {P : Program} {n : Nat} {ops : Array Oper} {k : Nat} {st st' : St} {xs : REs} (h : Run P n ops k st xs st') : ∀ L : Nat → Bool, (∀ j, k ≤ j → L j = true) → foldL L k xs st = st' := by
  induction h with
  | nil => intro L _; rfl
  | cons _ _ ih =>
    intro L hL
    simp only [foldL, hL _ (Nat.le_refl _), cond_true]
    exact ih L fun j hj => hL j (by omega)

theorem Run.at {P : Program} {n : Nat} {ops : Array Oper} {k : Nat} {st st' : St} {xs : REs} (h : Run P n ops k st xs st') : ∀ (i : Nat) (x : Rd × Eff), xs[i]? = some x →
    GStep P n ops (k + i) (foldL (fun j => decide (j < k + i)) k xs st) x.1 x.2 := by
  induction h with
  | nil => intro i x hx; simp at hx
  | @cons k st rd f xs st' hg hr ih =>
    intro i x hx
    cases i with
    | zero =>
      simp at hx
      subst hx
      have hz : ∀ (ys : REs) (m : Nat) (s : St), k < m → foldL (fun j => decide (j < k + 0)) m ys s = s := by
        intro ys
        induction ys with
        | nil => intro m s _; rfl
        | cons y ys ih =>
          intro m s hm
          simp only [foldL]
          have : decide (m < k + 0) = false := by simp; omega
          rw [this, cond_false]
          exact ih (m + 1) _ (by omega)
      simp only [foldL]
      have : decide (k < k + 0) = false := by simp
      rw [this, cond_false]
      rw [hz xs (k + 1) st (by omega)]
      exact hg
    | succ i =>
      simp at hx
      have := ih i x hx
      simp only [foldL]
      have hlt : decide (k < k + (i + 1)) = true := by simp
      rw [hlt, cond_true]
      rw [show k + (i + 1) = k + 1 + i by omega]
      exact this

theorem foldL_d (L : Nat → Bool) : ∀ (xs : REs) (k : Nat) (st : St), (foldL L k xs st).d = st.d
  | [], _, _ => rfl
  | x :: xs, k, st => by
    rw [foldL, foldL_d L xs]
    cases L k <;> rfl
theorem apply_e_ne (f : Eff) (st : St) {t : Nat} (h : t ∉ f.we) : (f.apply st).e t = st.e t := by
  unfold Eff.apply Eff.we at *
  cases hd : f.d with
  | none => rfl
  | some p =>
    obtain ⟨k, v⟩ := p
    simp only [hd] at h ⊢
    exact upd_ne _ _ _ (by simpa using h)
theorem look_none {α : Type} : ∀ {l : List (Nat × α)} {i : Nat}, i ∉ l.map (·.1) → look l i = none
  | [], _, _ => rfl
  | (k, x) :: l, i, h => by
    simp at h
    have hb : Nat.beq i k = false := by
      cases hb : Nat.beq i k with
      | false => rfl
      | true => exact absurd (Nat.eq_of_beq_eq_true hb) h.1
    simp only [look, hb, Bool.false_eq_true, if_false]
    exact look_none (by simpa using h.2)
theorem look_some {α : Type} : ∀ {l : List (Nat × α)} {i : Nat}, i ∈ l.map (·.1) → ∃ x, look l i = some x
  | [], _, h => by simp at h
  | (k, x) :: l, i, h => by
    by_cases hb : Nat.beq i k = true
    · exact ⟨x, by simp [look, hb]⟩
    · have hne : i ≠ k := fun e => hb (by subst e; simp)
      simp at hb
      simp only [look]
      obtain ⟨y, hy⟩ := look_some (l := l) (i := i) (by simpa [hne] using h)
      exact ⟨y, by simp [hb, hy]⟩
theorem apply_h_ne (f : Eff) (st : St) {i : Nat} (h : i ∉ f.wh) : (f.apply st).h i = st.h i := by
  unfold Eff.apply Eff.wh at *
  simp only [updL, look_none h]
theorem apply_e_in (f : Eff) (st st' : St) {t : Nat} (h : t ∈ f.we) : (f.apply st).e t = (f.apply st').e t := by
  unfold Eff.apply Eff.we at *
  cases hd : f.d with
  | none => simp [hd] at h
  | some p =>
    obtain ⟨k, v⟩ := p
    simp only [hd] at h ⊢
    simp at h
    subst h
    simp [upd_same]
theorem apply_h_in (f : Eff) (st st' : St) {i : Nat} (h : i ∈ f.wh) : (f.apply st).h i = (f.apply st').h i := by
  unfold Eff.apply Eff.wh at *
  obtain ⟨x, hx⟩ := look_some h
  simp only [updL, hx]

theorem foldL_e_eq (t : Nat) : ∀ (xs : REs) (k : Nat) (L L' : Nat → Bool) (st st' : St), st.e t = st'.e t → (∀ i x, xs[i]? = some x → L (k + i) ≠ L' (k + i) → t ∉ x.2.we) → (foldL L k xs st).e t = (foldL L' k xs st').e t := by
  intro xs
  induction xs with
  | nil => intro k L L' st st' h _; exact h
  | cons x xs ih =>
    intro k L L' st st' h hx
    simp only [foldL]
    refine ih (k + 1) L L' _ _ ?_ fun i y hy hne => hx (i + 1) y (by simpa using hy) (by rwa [show k + (i + 1) = k + 1 + i by omega])
    have h0 := hx 0 x rfl
    simp only [Nat.add_zero] at h0
    by_cases hL : L k = L' k
    · rw [hL]
      cases L' k
      · exact h
      · by_cases hw : t ∈ x.2.we
        · exact apply_e_in _ _ _ hw
        · simp only [cond_true]
          rw [apply_e_ne _ _ hw, apply_e_ne _ _ hw, h]
    · have hw := h0 hL
      cases L k <;> cases L' k <;> simp only [cond_true, cond_false, apply_e_ne _ _ hw, h]
theorem foldL_h_eq (t : Nat) : ∀ (xs : REs) (k : Nat) (L L' : Nat → Bool) (st st' : St), st.h t = st'.h t → (∀ i x, xs[i]? = some x → L (k + i) ≠ L' (k + i) → t ∉ x.2.wh) → (foldL L k xs st).h t = (foldL L' k xs st').h t := by
  intro xs
  induction xs with
  | nil => intro k L L' st st' h _; exact h
  | cons x xs ih =>
    intro k L L' st st' h hx
    simp only [foldL]
    refine ih (k + 1) L L' _ _ ?_ fun i y hy hne => hx (i + 1) y (by simpa using hy) (by rwa [show k + (i + 1) = k + 1 + i by omega])
    have h0 := hx 0 x rfl
    simp only [Nat.add_zero] at h0
    by_cases hL : L k = L' k
    · rw [hL]
      cases L' k
      · exact h
      · by_cases hw : t ∈ x.2.wh
        · exact apply_h_in _ _ _ hw
        · simp only [cond_true]
          rw [apply_h_ne _ _ hw, apply_h_ne _ _ hw, h]
    · have hw := h0 hL
      cases L k <;> cases L' k <;> simp only [cond_true, cond_false, apply_h_ne _ _ hw, h]

/-- One more operation, that those behind it in the text do not disturb. -/
theorem foldL_add (L : Nat → Bool) (m : Nat) (f : Eff) : ∀ (xs : REs) (k : Nat) (rd : Rd) (st : St), k ≤ m → xs[m - k]? = some (rd, f) → L m = false →
    (∀ i x, xs[i]? = some x → L (k + i) = true → m < k + i → (∀ t ∈ f.we, t ∉ x.2.we) ∧ (∀ t ∈ f.wh, t ∉ x.2.wh)) →
    foldL (fun j => L j || Nat.beq j m) k xs st = f.apply (foldL L k xs st) := by
  have tail : ∀ (xs : REs) (k : Nat) (st : St), m < k → (∀ i x, xs[i]? = some x → L (k + i) = true → (∀ t ∈ f.we, t ∉ x.2.we) ∧ (∀ t ∈ f.wh, t ∉ x.2.wh)) →
      foldL (fun j => L j || Nat.beq j m) k xs (f.apply st) = f.apply (foldL L k xs st) := by
    intro xs
    induction xs with
    | nil => intro k st _ _; rfl
    | cons x xs ih =>
      intro k st hk hx
      simp only [foldL]
      have hb : Nat.beq k m = false := by
        cases hb : Nat.beq k m with
        | false => rfl
        | true => have := Nat.eq_of_beq_eq_true hb; omega
      rw [hb, Bool.or_false]
      have h0 := hx 0 x rfl
      simp only [Nat.add_zero] at h0
      have hrest : ∀ i y, xs[i]? = some y → L (k + 1 + i) = true → (∀ t ∈ f.we, t ∉ y.2.we) ∧ (∀ t ∈ f.wh, t ∉ y.2.wh) := fun i y hy hl => hx (i + 1) y (by simpa using hy) (by rwa [show k + (i + 1) = k + 1 + i by omega])
      cases hL : L k with
      | false => simp only [cond_false]; exact ih (k + 1) st (by omega) hrest
      | true =>
        simp only [cond_true]
        obtain ⟨h1, h2⟩ := h0 hL
        have hc : x.2.apply (f.apply st) = f.apply (x.2.apply st) := by
          have he : (x.2.apply (f.apply st)).e = (f.apply (x.2.apply st)).e := funext fun t => by
            by_cases ht : t ∈ f.we
            · rw [apply_e_ne _ _ (h1 t ht)]; exact apply_e_in _ _ _ ht
            · rw [apply_e_ne f _ ht]
              by_cases ht' : t ∈ x.2.we
              · exact apply_e_in _ _ _ ht'
              · rw [apply_e_ne _ _ ht', apply_e_ne _ _ ht', apply_e_ne _ _ ht]
          have hh : (x.2.apply (f.apply st)).h = (f.apply (x.2.apply st)).h := funext fun t => by
            by_cases ht : t ∈ f.wh
            · rw [apply_h_ne _ _ (h2 t ht)]; exact apply_h_in _ _ _ ht
            · rw [apply_h_ne f _ ht]
              by_cases ht' : t ∈ x.2.wh
              · exact apply_h_in _ _ _ ht'
              · rw [apply_h_ne _ _ ht', apply_h_ne _ _ ht', apply_h_ne _ _ ht]
          cases hA : x.2.apply (f.apply st)
          cases hB : f.apply (x.2.apply st)
          have hd : (x.2.apply (f.apply st)).d = (f.apply (x.2.apply st)).d := rfl
          simp only [hA, hB] at he hh hd
          rw [he, hh, hd]
        rw [hc]
        exact ih (k + 1) _ (by omega) hrest
  intro xs
  induction xs with
  | nil => intro k rd st _ hx; simp at hx
  | cons x xs ih =>
    intro k rd st hk hx hm hd
    simp only [foldL]
    by_cases hkm : k = m
    · subst hkm
      simp at hx
      subst hx
      have hb : Nat.beq k k = true := by simp
      rw [hb, hm, Bool.or_true]
      simp only [cond_true, cond_false]
      exact tail xs (k + 1) st (by omega) fun i y hy hl => hd (i + 1) y (by simpa using hy) (by rwa [show k + (i + 1) = k + 1 + i by omega]) (by omega)
    · have hb : Nat.beq k m = false := by
        cases hb : Nat.beq k m with
        | false => rfl
        | true => exact absurd (Nat.eq_of_beq_eq_true hb) hkm
      rw [hb, Bool.or_false]
      have hx' : xs[m - (k + 1)]? = some (rd, f) := by
        rw [show m - k = (m - (k + 1)) + 1 by omega] at hx
        simpa using hx
      exact ih (k + 1) rd _ (by omega) hx' hm fun i y hy hl hlt => hd (i + 1) y (by simpa using hy) (by rwa [show k + (i + 1) = k + 1 + i by omega]) (by omega)

/-- Each number once. -/
def ddGo : List Nat → List Nat → List Nat
  | [], acc => acc
  | x :: l, acc => if acc.any (Nat.beq x) then ddGo l acc else ddGo l (x :: acc)
def dd (l : List Nat) : List Nat := ddGo l []
theorem ddGo_mem : ∀ (l acc : List Nat) (x : Nat), x ∈ ddGo l acc → x ∈ l ∨ x ∈ acc
  | [], _, _, h => .inr h
  | y :: l, acc, x, h => by
    simp only [ddGo] at h
    split at h
    · rcases ddGo_mem l acc x h with h | h
      · exact .inl (by simp [h])
      · exact .inr h
    · rcases ddGo_mem l (y :: acc) x h with h | h
      · exact .inl (by simp [h])
      · rcases List.mem_cons.1 h with rfl | h
        · exact .inl (by simp)
        · exact .inr h
theorem dd_mem {l : List Nat} {x : Nat} (h : x ∈ dd l) : x ∈ l := (ddGo_mem l [] x h).resolve_right (by simp)
/-- What must be ahead of an operation, through others too. -/
def predsGo : List Oper → List (List Nat) → List (List Nat)
  | [], acc => acc
  | o :: os, acc => predsGo os (acc ++ [dd (o.after.toList.flatMap fun e => if Region.binds .any e then e.on :: (acc.getD e.on []) else [])])
def preds (ops : Array Oper) : List (List Nat) := predsGo ops.toList []

def disj (a b : List Nat) : Bool := a.all fun x => !(b.contains x)
def indep (x y : Rd × Eff) : Bool := disj x.2.we (y.1.e ++ y.2.we) && disj x.2.wh (y.1.h ++ y.2.wh) && disj y.2.we x.1.e && disj y.2.wh x.1.h

/-- The check: of two operations the one must be ahead of the other, or they don't disturb one another. -/
def apartRow (ps : List Nat) (y : Rd × Eff) : Nat → REs → Bool
  | _, [] => true
  | i, x :: xs => (ps.contains i || indep x y) && apartRow ps y (i + 1) xs
def apartGo : List (List Nat) → REs → REs → Bool
  | p :: ps, y :: ys, done => apartRow p y 0 done && apartGo ps ys (done ++ [y])
  | _, [], _ => true
  | [], _ :: _, _ => false
def edgesOk (ops : Array Oper) : Bool := ops.toList.zipIdx.all fun (o, i) => o.after.toList.all fun e => !Region.binds .any e || decide (e.on < i)

theorem disj_spec {a b : List Nat} (h : disj a b = true) : ∀ t ∈ a, t ∉ b := by
  intro t ht hb
  have := List.all_eq_true.1 h t ht
  simp at this
  exact this hb

theorem apartRow_spec {ps : List Nat} {y : Rd × Eff} : ∀ (xs : REs) (k : Nat), apartRow ps y k xs = true → ∀ i x, xs[i]? = some x → k + i ∈ ps ∨ indep x y = true := by
  intro xs
  induction xs with
  | nil => intro k _ i x hx; simp at hx
  | cons z xs ih =>
    intro k h i x hx
    simp only [apartRow, Bool.and_eq_true, Bool.or_eq_true] at h
    cases i with
    | zero => simp at hx; subst hx; simpa using h.1
    | succ i =>
      simp at hx
      have := ih (k + 1) h.2 i x hx
      rwa [show k + (i + 1) = k + 1 + i by omega]

theorem apartGo_spec : ∀ (ps : List (List Nat)) (ys done : REs), apartGo ps ys done = true → ∀ j y, ys[j]? = some y → ∃ p, ps[j]? = some p ∧ ∀ i x, i < done.length + j → (done ++ ys)[i]? = some x → i ∈ p ∨ indep x y = true := by
  intro ps
  induction ps with
  | nil =>
    intro ys done h j y hy
    cases ys with
    | nil => simp at hy
    | cons _ _ => simp [apartGo] at h
  | cons p ps ih =>
    intro ys done h j y hy
    cases ys with
    | nil => simp at hy
    | cons z ys =>
      simp only [apartGo, Bool.and_eq_true] at h
      cases j with
      | zero =>
        simp at hy
        subst hy
        refine ⟨p, rfl, fun i x hi hx => ?_⟩
        have hi' : i < done.length := by omega
        rw [List.getElem?_append_left hi'] at hx
        simpa using apartRow_spec done 0 h.1 i x hx
      | succ j =>
        simp at hy
        obtain ⟨q, hq, hspec⟩ := ih ys (done ++ [z]) h.2 j y hy
        refine ⟨q, by simpa using hq, fun i x hi hx => hspec i x (by simp; omega) (by simpa using hx)⟩

theorem predsGo_spec (L : Nat → Bool) : ∀ (os : List Oper) (acc : List (List Nat)), (∀ i p, acc[i]? = some p → L i = true → ∀ j ∈ p, L j = true) →
    (∀ i o, os[i]? = some o → L (acc.length + i) = true → ∀ e ∈ o.after.toList, Region.binds .any e = true → L e.on = true) →
    ∀ i p, (predsGo os acc)[i]? = some p → L i = true → ∀ j ∈ p, L j = true := by
  intro os
  induction os with
  | nil => intro acc h _; exact h
  | cons o os ih =>
    intro acc h ho
    refine ih _ ?_ ?_
    · intro i p hp hl j hj
      by_cases hi : i < acc.length
      · rw [List.getElem?_append_left hi] at hp
        exact h i p hp hl j hj
      · rw [List.getElem?_append_right (by omega)] at hp
        have hi0 : i - acc.length = 0 := by
          rcases Nat.eq_zero_or_pos (i - acc.length) with h0 | h0
          · exact h0
          · rw [List.getElem?_eq_none (by simp; omega)] at hp; cases hp
        have hie : i = acc.length := by omega
        rw [hi0] at hp
        simp at hp
        subst hp
        have hj := dd_mem hj
        simp only [List.mem_flatMap] at hj
        obtain ⟨e, he, hje⟩ := hj
        split at hje
        · rename_i hb
          have hon := ho 0 o rfl (by simpa [hie] using hl) e he hb
          simp only [List.mem_cons] at hje
          rcases hje with rfl | hje
          · exact hon
          · cases hq : acc[e.on]? with
            | none => simp [hq] at hje
            | some q =>
              simp [hq] at hje
              exact h e.on q hq hon j hje
        · simp at hje
    · intro i o' ho' hl
      exact ho (i + 1) o' (by simpa using ho') (by simpa [Nat.add_assoc, Nat.add_comm 1 i] using hl)

/-- What has been done is closed: with an operation all that must be ahead of it. -/
def Closed (ops : Array Oper) (listed : Array Bool) : Prop := ∀ (i : Nat) (o : Oper), ops[i]? = some o → listed.getD i false = true → ∀ e ∈ o.after.toList, Region.binds .any e = true → listed.getD e.on false = true

theorem getD_true_false {l : Array Bool} {i : Nat} (h : i < l.size) : l.getD i true = l.getD i false := by simp [Array.getD_eq_getD_getElem?, h]

theorem ready_spec {ops : Array Oper} {listed : Array Bool} (hl : listed.size = ops.size) {i : Nat} (h : i ∈ Region.ready .any ops listed) :
    i < ops.size ∧ listed.getD i false = false ∧ ∀ o, ops[i]? = some o → ∀ e ∈ o.after.toList, Region.binds .any e = true → listed.getD e.on false = true := by
  simp only [Region.ready, List.mem_filter, List.mem_range, Bool.and_eq_true, Bool.not_eq_true'] at h
  obtain ⟨h1, h2, h3⟩ := h
  refine ⟨h1, by rwa [← getD_true_false (by omega)], fun o ho e he hb => ?_⟩
  simp only [ho, Option.map_some, Option.getD_some] at h3
  have := (Array.all_eq_true_iff_forall_mem.1 h3) e (by simpa using he)
  simpa [hb] using this

/-- THE REGION, IN WHATEVER ORDER. -/
theorem run_any {P : Program} {n : Nat} {ops : Array Oper} {G : Ctx} {st st' : St} {xs : REs} {Q : Exit → Act → World → Prop} (hr : Run P n ops 0 st xs st') (hlen : xs.length = ops.size)
    (hap : apartGo (preds ops) xs [] = true) (hed : edgesOk ops = true)
    (hQ : ∀ S' μ' a' w', Sim G n S' μ' st' a' w' → Q .normal a' w') :
    ∀ (fuel : Nat) (listed : Array Bool), listed.size = ops.size → ((List.range ops.size).filter fun i => !listed.getD i false).length = fuel → Closed ops listed →
      ∀ S μ a w, Sim G n S μ (foldL (fun j => listed.getD j false) 0 xs st) a w → ∀ ro, wpAnyIn (Wd ro) 0 P .any ops Q fuel listed a w := by
  -- behind all of them
  have hfin : ∀ (listed : Array Bool), listed.size = ops.size → Region.ready .any ops listed = [] → ∀ S μ a w, Sim G n S μ (foldL (fun j => listed.getD j false) 0 xs st) a w → Q .normal a w := by
    intro listed hl hre S μ a w hs
    have hall : ∀ i, i < ops.size → listed.getD i false = true := by
      intro i
      induction i using Nat.strongRecOn with
      | _ i ih =>
        intro hi
        cases hc : listed.getD i false with
        | true => rfl
        | false =>
          exfalso
          have : i ∈ Region.ready .any ops listed := by
            simp only [Region.ready, List.mem_filter, List.mem_range, Bool.and_eq_true, Bool.not_eq_true']
            refine ⟨hi, by rw [getD_true_false (by omega)]; exact hc, ?_⟩
            have ho : ops[i]? = some ops[i] := by simp [hi]
            simp only [ho, Option.map_some, Option.getD_some]
            refine Array.all_eq_true_iff_forall_mem.2 fun e he => ?_
            have hlt := (List.all_eq_true.1 hed) (ops[i], i) (by
              rw [List.mem_iff_getElem?]
              exact ⟨i, by simp [hi]⟩)
            have hlt' := (List.all_eq_true.1 hlt) e (by simpa using he)
            simp only [Bool.or_eq_true, Bool.not_eq_true', decide_eq_true_eq] at hlt' ⊢
            rcases hlt' with hlt' | hlt'
            · exact .inl hlt'
            · exact .inr (ih e.on hlt' (by omega))
          rw [hre] at this
          simp at this
    have he : foldL (fun j => listed.getD j false) 0 xs st = st' := by
      rw [← hr.final (fun _ => true) (fun _ _ => rfl)]
      have key : ∀ i x, xs[i]? = some x → listed.getD (0 + i) false ≠ true → False := by
        intro i x hx hne
        have hi : i < xs.length := (List.getElem?_eq_some_iff.1 hx).1
        exact hne (by rw [Nat.zero_add]; exact hall i (by omega))
      have e1 : (foldL (fun j => listed.getD j false) 0 xs st).e = (foldL (fun _ => true) 0 xs st).e := funext fun t => foldL_e_eq t xs 0 _ _ _ _ rfl fun i x hx hne => (key i x hx hne).elim
      have e2 : (foldL (fun j => listed.getD j false) 0 xs st).h = (foldL (fun _ => true) 0 xs st).h := funext fun t => foldL_h_eq t xs 0 _ _ _ _ rfl fun i x hx hne => (key i x hx hne).elim
      cases hA : foldL (fun j => listed.getD j false) 0 xs st
      cases hB : foldL (fun _ => true) 0 xs st
      simp only [hA, hB] at e1 e2
      have e3 : (foldL (fun j => listed.getD j false) 0 xs st).d = (foldL (fun _ => true) 0 xs st).d := by rw [foldL_d, foldL_d]
      simp only [hA, hB] at e3
      rw [e1, e2, e3]
    rw [he] at hs
    exact hQ S μ a w hs
  intro fuel
  induction fuel with
  | zero =>
    intro listed hl hf _ S μ a w hs
    have hre : Region.ready .any ops listed = [] := by
      rw [List.eq_nil_iff_forall_not_mem]
      intro i hi
      obtain ⟨h1, h2, _⟩ := ready_spec hl hi
      have : i ∈ (List.range ops.size).filter fun i => !listed.getD i false := by simp only [List.mem_filter, List.mem_range, Bool.not_eq_true']; exact ⟨h1, h2⟩
      rw [List.eq_nil_of_length_eq_zero hf] at this
      simp at this
    exact fun _ => ⟨hre, hfin listed hl hre S μ a w hs⟩
  | succ fuel ih =>
    intro listed hl hf hcl S μ a w hs ro
    refine ⟨fun hre => hfin listed hl hre S μ a w hs, fun i hi => ?_⟩
    obtain ⟨h1, h2, h3⟩ := ready_spec hl hi
    have hx : xs[i]? = some xs[i] := by simp [hlen, h1]
    have ho : ops[i]? = some ops[i] := by simp [h1]
    have hcl' : Closed ops (listed.setIfInBounds i true) := by
      intro j o hj hlj e he hb
      simp only [Array.getD_eq_getD_getElem?, Array.getElem?_setIfInBounds] at hlj ⊢
      have hmon : listed.getD e.on false = true → (if i = e.on then if i < listed.size then some true else none else listed[e.on]?).getD false = true := by
        intro hh
        split
        · simp [hl, h1]
        · rwa [Array.getD_eq_getD_getElem?] at hh
      by_cases hij : i = j
      · subst hij
        exact hmon (h3 o hj e he hb)
      · rw [if_neg hij] at hlj
        exact hmon (hcl j o hj (by rwa [Array.getD_eq_getD_getElem?]) e he hb)
    -- who must be ahead of i is done; whom i must be ahead of is not
    have hpd : ∀ (L : Array Bool), Closed ops L → ∀ k p, (preds ops)[k]? = some p → L.getD k false = true → ∀ j ∈ p, L.getD j false = true := by
      intro L hL k p hp hk
      refine predsGo_spec (fun j => L.getD j false) ops.toList [] (by simp) ?_ k p hp hk
      intro k' o ho' hl' e he hb
      exact hL k' o (by simpa using ho') (by simpa using hl') e he hb
    have hself : (listed.setIfInBounds i true).getD i false = true := by simp [Array.getD_eq_getD_getElem?, hl, h1]
    have hold : ∀ j, j ≠ i → (listed.setIfInBounds i true).getD j false = listed.getD j false := by
      intro j hj
      simp only [Array.getD_eq_getD_getElem?, Array.getElem?_setIfInBounds]
      rw [if_neg (fun e => hj e.symm)]
    have hdis1 : ∀ j y, xs[j]? = some y → j < i → listed.getD j false = false → indep y xs[i] = true := by
      intro j y hy hji hlj
      obtain ⟨p, hp, hspec⟩ := apartGo_spec _ _ _ hap i _ hx
      rcases hspec j y (by simpa using hji) (by simpa using hy) with hm | hm
      · have := hpd _ hcl' i p hp hself j hm
        rw [hold j (by omega)] at this
        rw [this] at hlj
        cases hlj
      · exact hm
    have hdis2 : ∀ j y, xs[j]? = some y → i < j → listed.getD j false = true → indep xs[i] y = true := by
      intro j y hy hij hlj
      obtain ⟨p, hp, hspec⟩ := apartGo_spec _ _ _ hap j _ hy
      rcases hspec i xs[i] (by simpa using hij) (by simp) with hm | hm
      · have := hpd _ hcl j p hp hlj i hm
        rw [this] at h2
        cases h2
      · exact hm
    have hg := hr.at i _ hx
    simp only [Nat.zero_add] at hg
    have hag : Agree xs[i].1 (foldL (fun j => decide (j < i)) 0 xs st) (foldL (fun j => listed.getD j false) 0 xs st) := by
      have key : ∀ k x, xs[k]? = some x → listed.getD (0 + k) false ≠ decide (0 + k < i) → (∀ t ∈ xs[i].1.e, t ∉ x.2.we) ∧ (∀ t ∈ xs[i].1.h, t ∉ x.2.wh) := by
        intro k x hk hne
        rw [Nat.zero_add] at hne
        by_cases hki : k < i
        · have hlk : listed.getD k false = false := by
            cases hc : listed.getD k false with
            | false => rfl
            | true => simp [hc, hki] at hne
          have hd := hdis1 k x hk hki hlk
          simp only [indep, Bool.and_eq_true] at hd
          obtain ⟨⟨⟨d1, d2⟩, d3⟩, d4⟩ := hd
          exact ⟨fun t ht hw => disj_spec d1 t hw (by simp [ht]), fun t ht hw => disj_spec d2 t hw (by simp [ht])⟩
        · by_cases hke : k = i
          · subst hke
            rw [h2] at hne
            simp at hne
          · have hlk : listed.getD k false = true := by
              cases hc : listed.getD k false with
              | true => rfl
              | false => simp [hc, hki] at hne
            have hd := hdis2 k x hk (by omega) hlk
            simp only [indep, Bool.and_eq_true] at hd
            obtain ⟨⟨⟨d1, d2⟩, d3⟩, d4⟩ := hd
            exact ⟨fun t ht hw => disj_spec d3 t hw ht, fun t ht hw => disj_spec d4 t hw ht⟩
      exact ⟨fun t ht => foldL_e_eq t xs 0 _ _ _ _ rfl fun k x hk hne => (key k x hk hne).1 t ht, fun t ht => foldL_h_eq t xs 0 _ _ _ _ rfl fun k x hk hne => (key k x hk hne).2 t ht⟩
    refine hg _ hag G S μ a w _ Q hs (fun S' μ' a' w' hs' => ?_) ro
    refine ih (listed.setIfInBounds i true) (by simp [hl]) ?_ hcl' S' μ' a' w' ?_ ro
    · -- one fewer is left
      have : ∀ (l : List Nat), l.Nodup → i ∈ l → ((l.filter fun j => !listed.getD j false).length = ((l.filter fun j => !(listed.setIfInBounds i true).getD j false).length) + 1) := by
        intro l
        induction l with
        | nil => intro _ h; simp at h
        | cons b l ihl =>
          intro hnd hmem
          have hnd' := (List.nodup_cons.1 hnd)
          by_cases hb : b = i
          · subst hb
            have hno : ∀ j ∈ l, (!(listed.setIfInBounds b true).getD j false) = (!listed.getD j false) := fun j hj => by rw [hold j (fun e => hnd'.1 (e ▸ hj))]
            rw [List.filter_cons, List.filter_cons, h2, hself]
            simp only [Bool.not_false, if_true, Bool.not_true, Bool.false_eq_true, if_false, List.length_cons]
            rw [List.filter_congr hno]
          · have hm' : i ∈ l := (List.mem_cons.1 hmem).resolve_left fun e => hb e.symm
            have := ihl hnd'.2 hm'
            rw [List.filter_cons, List.filter_cons, hold b hb]
            split
            · simp only [List.length_cons]; omega
            · exact this
      have := this (List.range ops.size) List.nodup_range (by simpa using h1)
      omega
    · have hadd := foldL_add (fun j => listed.getD j false) i xs[i].2 xs 0 xs[i].1 st (Nat.zero_le _) (by rw [Nat.sub_zero, hx]) h2 (by
        intro k x hk hlk hik
        rw [Nat.zero_add] at hlk hik
        have hd := hdis2 k x hk hik hlk
        simp only [indep, Bool.and_eq_true] at hd
        obtain ⟨⟨⟨d1, d2⟩, d3⟩, d4⟩ := hd
        exact ⟨fun t ht hw => disj_spec d1 t ht (by simp [hw]), fun t ht hw => disj_spec d2 t ht (by simp [hw])⟩)
      rw [← hadd] at hs'
      have hfe : (fun j => (listed.setIfInBounds i true).getD j false) = fun j => listed.getD j false || Nat.beq j i := funext fun j => by
        by_cases hj : j = i
        · subst hj
          rw [hself]
          simp
        · rw [hold j hj]
          have hb : Nat.beq j i = false := by
            cases hb : Nat.beq j i with
            | false => rfl
            | true => exact absurd (Nat.eq_of_beq_eq_true hb) hj
          rw [hb, Bool.or_false]
      rw [hfe]
      exact hs'
end Go.AM
