/-
  A REGION STEP BY STEP; integers within their range; more operations.
-/
import Derived.Test.YthfeeaifddppoaaAm14
import Derived.IntWalk
import Derived.Laws.StructEq
namespace Go.AM
open Go

/-! ### A region, step by step -/
def RunK (P : Program) (n : Nat) (ops : Array Oper) (draw : Bool) (k : Nat) (st : St) (pre : REs) (Q : St → Prop) : Prop :=
  ∃ xs st', Run P n ops k st xs st' ∧ Nat.beq (k + xs.length) ops.size = true ∧ (!draw || (apartGo (preds ops) (pre.reverse ++ xs) [] && edgesOk ops)) = true ∧ Q st'
section
variable {ro : Option Nat} {P : Program} {n : Nat} {ops : Array Oper} {draw : Bool} {k : Nat} {st : St} {pre : REs} {Q : St → Prop}
theorem k_ {rd : Rd} {f : Eff} (h : GStep P n ops k st rd f) (hk : RunK P n ops draw (k + 1) (f.apply st) ((rd, f) :: pre) Q) : RunK P n ops draw k st pre Q := by
  obtain ⟨xs, st', h1, h2, h3, h4⟩ := hk
  refine ⟨(rd, f) :: xs, st', .cons h h1, ?_, ?_, h4⟩
  · rw [List.length_cons, show k + (xs.length + 1) = k + 1 + xs.length by omega]
    exact h2
  · rw [List.reverse_cons, List.append_assoc] at h3
    exact h3
theorem z_ (h1 : Nat.beq k ops.size = true) (h2 : (!draw || (apartGo (preds ops) pre.reverse [] && edgesOk ops)) = true) (hq : Q st) : RunK P n ops draw k st pre Q :=
  ⟨[], st, .nil, h1, by rw [List.append_nil]; exact h2, hq⟩
theorem awp_rg {kf : List Nat} {id : Nat} {Q : Exit → St → Prop} (hm : P.follows .mixedOrders = true) (h : RunK P n ops draw 0 st [] (fun st' => Q .normal st')) : AWp ro P n kf (.region id ops draw) st Q := by
  obtain ⟨xs, st', h1, h2, h4, h3⟩ := h
  rw [Nat.zero_add] at h2
  exact awp_region hm h1 h2 h4 h3
/-- With a state behind it that says less. -/
theorem awp_rgw {kf : List Nat} {id : Nat} {Q : Exit → St → Prop} (st2 : St) (hm : P.follows .mixedOrders = true) (h : RunK P n ops draw 0 st [] (fun st' => Sub kf st2 st')) (hq : Q .normal st2) : AWp ro P n kf (.region id ops draw) st Q := by
  obtain ⟨xs, st', h1, h2, h4, h3⟩ := h
  rw [Nat.zero_add] at h2
  refine AWp.post (Q := fun ex s => ex = .normal ∧ Sub kf st2 s) (awp_region hm h1 h2 h4 ⟨rfl, h3⟩) ?_
  rintro ex s ⟨rfl, hs⟩
  exact ⟨st2, hs, hq⟩
theorem g_ {i : Nat} {o : Oper} {rd : Rd} {f : Eff} (ho : ops[i]? = some o) (hg : o.guard = none) (h : Step P n o st rd f) : GStep P n ops i st rd f := GStep.plain ho hg h
/-- A cut: behind it the state says less. -/
theorem AWp.cut {kf : List Nat} {c : Code} {Q : Exit → St → Prop} (st2 : St) (h : AWp ro P n kf c st (fun ex s => match ex with | .normal => Sub kf st2 s | ex => Q ex s)) (hq : Q .normal st2) : AWp ro P n kf c st Q := by
  refine AWp.post h ?_
  intro ex s hs
  cases ex with
  | normal => exact ⟨st2, hs, hq⟩
  | _ => exact ⟨s, Sub.refl _ _, hs⟩
/-- One of two states. -/
theorem AWp.split {kf : List Nat} {c : Code} {Q : Exit → St → Prop} {st1 st2 : St} (h : ∀ G n S μ a w, Sim G n S μ st a w → Sim G n S μ st1 a w ∨ Sim G n S μ st2 a w) (h1 : AWp ro P n kf c st1 Q) (h2 : AWp ro P n kf c st2 Q) : AWp ro P n kf c st Q := fun G S μ a w Q' hg hs hQ => by
  rcases h G n S μ a w hs with h | h
  · exact h1 G S μ a w Q' hg h hQ
  · exact h2 G S μ a w Q' hg h hQ
end

/-- A slice is nil, or it isn't. -/
theorem split_nil {st : St} {t es : Nat} {l : List (List C)} (h : st.e t = some (.one (.c (.sl es l)))) : ∀ G n S μ a w, Sim G n S μ st a w → (Sim G n S μ ⟨upd st.e t (some (.one (.c .nl))), st.h, st.d⟩ a w ∧ l = []) ∨ Sim G n S μ ⟨upd st.e t (some (.one (.c (.sn es l)))), st.h, st.d⟩ a w := by
  intro G n S μ a w hs
  have hv := hs.env t _ h
  simp only [VRel, RRel, Rep] at hv
  obtain ⟨ad, len, cap, h1, h2, h3, h4, h5, h6, b, off, h7, h8⟩ := hv
  have key : ∀ v : V, VRel S μ st.h v (a.tmps.getD t undef) → Sim G n S μ ⟨upd st.e t (some v), st.h, st.d⟩ a w := fun v hv => by
    refine ⟨hs.inv, hs.size, hs.defers, fun s u e => ?_⟩
    by_cases hst : s = t
    · subst hst
      have : some v = some u := by rw [← e]; exact (upd_same _ _ _).symm
      cases this
      exact hv
    · exact hs.env s u (by rw [← e]; exact (upd_ne _ _ _ hst).symm)
  cases ad with
  | none =>
    obtain ⟨hl0, hc0⟩ := h5 rfl
    refine .inl ⟨key _ (by simp only [VRel, RRel, Rep]; rw [h1, hl0, hc0]), List.eq_nil_of_length_eq_zero (by omega)⟩
  | some ad =>
    obtain ⟨h9, h10⟩ := h7 ad rfl
    have h11 := h6 ad rfl
    have had : ad = ⟨b, off, none⟩ := by cases ad; simp_all
    subst had
    exact .inr (key _ (by simp only [VRel, RRel, Rep]; exact ⟨b, off, len, cap, h1, h2, h3, h4, h8⟩))

section
variable {P : Program} {n : Nat} {o : Oper} {st : St} {d : Nat} {T : TT}

/-! ### Integers within their range -/
theorem r_addI {tx ty : TypeId} {x y : Operand} {a b : Int} (ho : o.op = .binOp .add tx x y ty) (hd : o.dst = some d) (hdn : d < n) (hx : opv st x = some (I .i64 a)) (hy : opv st y = some (I .i64 b)) (hr : -9223372036854775808 ≤ a + b ∧ a + b ≤ 9223372036854775807) :
    Step P n o st ⟨opr x ++ opr y, []⟩ ⟨some (d, some (I .i64 (a + b))), []⟩ := r_add ho hd hdn hx hy (IntWalk.i64_in _ hr)
theorem r_subI {tx ty : TypeId} {x y : Operand} {a b : Int} (ho : o.op = .binOp .sub tx x y ty) (hd : o.dst = some d) (hdn : d < n) (hx : opv st x = some (I .i64 a)) (hy : opv st y = some (I .i64 b)) (hr : -9223372036854775808 ≤ a - b ∧ a - b ≤ 9223372036854775807) :
    Step P n o st ⟨opr x ++ opr y, []⟩ ⟨some (d, some (I .i64 (a - b))), []⟩ := r_sub ho hd hdn hx hy (IntWalk.i64_in _ hr)
theorem r_mulI {tx ty : TypeId} {x y : Operand} {a b : Int} (ho : o.op = .binOp .mul tx x y ty) (hd : o.dst = some d) (hdn : d < n) (hx : opv st x = some (I .i64 a)) (hy : opv st y = some (I .i64 b)) (hr : -9223372036854775808 ≤ a * b ∧ a * b ≤ 9223372036854775807) :
    Step P n o st ⟨opr x ++ opr y, []⟩ ⟨some (d, some (I .i64 (a * b))), []⟩ := r_mul ho hd hdn hx hy (IntWalk.i64_in _ hr)
theorem r_quoI {tx ty : TypeId} {x y : Operand} {a b : Int} (ho : o.op = .binOp .quo tx x y ty) (hd : o.dst = some d) (hdn : d < n) (hx : opv st x = some (I .i64 a)) (hy : opv st y = some (I .i64 b)) (hr : 0 ≤ a ∧ a ≤ 9223372036854775807 ∧ 1 ≤ b) :
    Step P n o st ⟨opr x ++ opr y, []⟩ ⟨some (d, some (I .i64 (a / b))), []⟩ := r_quo ho hd hdn hx hy (by omega) (by
      have h1 : a.tdiv b = a / b := Int.tdiv_eq_ediv_of_nonneg hr.1
      rw [h1]
      refine IntWalk.i64_in _ ⟨?_, ?_⟩
      · have := Int.ediv_nonneg hr.1 (show (0 : Int) ≤ b by omega); omega
      · have := Int.ediv_le_self b hr.1; omega)
theorem r_remI {tx ty : TypeId} {x y : Operand} {k : IntKind} {a b : Int} (ho : o.op = .binOp .rem tx x y ty) (hd : o.dst = some d) (hdn : d < n) (hx : opv st x = some (I k a)) (hy : opv st y = some (I k b)) (hr : 0 ≤ a ∧ 1 ≤ b) :
    Step P n o st ⟨opr x ++ opr y, []⟩ ⟨some (d, some (I k (a % b))), []⟩ := r_rem ho hd hdn hx hy (by omega) (Int.tmod_eq_emod_of_nonneg hr.1)

/-! ### Equality -/
theorem eqGuard_run (op : BinOp) (t : TypeId) (x y : Operand) (u v : Value) (w : World) (h1 : (match u with | .agg _ => true | .nilIface => true | _ => false) = false) : (eqGuard op t x y u v).run P w = .ok () w := by
  unfold eqGuard
  cases u <;> simp at h1 <;> (split <;> rfl)

theorem run_eqBool {t : TypeId} (hu : P.underlying t = some .bool) (d : Nat) (a b : Bool) (w : World) : (Op.equalIn (d + 1) t (.bool a) (.bool b)).run P w = .ok (a == b) w := by
  simp only [Op.equalIn, Sem.run_bind, run_underlying hu w, Result.andThen_ok, Sem.run_pure]
theorem run_eqPtr {t e : TypeId} (hu : P.underlying t = some (.pointer e)) (d : Nat) (p : Option Addr) (w : World) : (Op.equalIn (d + 1) t (.pointer p) (.pointer none)).run P w = .ok p.isNone w := by
  cases p <;> simp only [Op.equalIn, Sem.run_bind, run_underlying hu w, Result.andThen_ok, Sem.run_pure] <;> rfl
theorem run_eqSl {t e : TypeId} (hu : P.underlying t = some (.slice e)) (d : Nat) (p : Option Addr) (l c : Nat) (w : World) : (Op.equalIn (d + 1) t (.slice p l c) (.slice none 0 0)).run P w = .ok p.isNone w := by
  cases p <;> simp only [Op.equalIn, Sem.run_bind, run_underlying hu w, Result.andThen_ok, Sem.run_pure] <;> rfl
theorem run_eql {tx ty : TypeId} {x y : Operand} {a : Act} {w : World} {u v : Value} {b : Bool} (ho : o.op = .binOp .eql tx x y ty) (hx : a.eval x = u) (hy : a.eval y = v) (hg : (eqGuard .eql tx x y u v).run P w = .ok () w)
    (hb : binOp .eql tx u v = (do pure (.bool (← Op.equal tx u v)))) (hr : (Op.equalIn (9999 + 1) tx u v).run P w = .ok b w) : (execOp a.eval o).run P w = .ok (.value (.bool b)) w := by
  have hr' : (Op.equal tx u v).run P w = .ok b w := hr
  simp only [execOp, ho, hx, hy, Sem.run_bind, hg, Result.andThen_ok, hb, hr', Sem.run_pure]
theorem run_neq {tx ty : TypeId} {x y : Operand} {a : Act} {w : World} {u v : Value} {b : Bool} (ho : o.op = .binOp .neq tx x y ty) (hx : a.eval x = u) (hy : a.eval y = v) (hg : (eqGuard .neq tx x y u v).run P w = .ok () w)
    (hb : binOp .neq tx u v = (do pure (.bool (!(← Op.equal tx u v))))) (hr : (Op.equalIn (9999 + 1) tx u v).run P w = .ok b w) : (execOp a.eval o).run P w = .ok (.value (.bool (!b))) w := by
  have hr' : (Op.equal tx u v).run P w = .ok b w := hr
  simp only [execOp, ho, hx, hy, Sem.run_bind, hg, Result.andThen_ok, hb, hr', Sem.run_pure]

theorem r_beql {tx ty : TypeId} {i : TI} {x y : Operand} {a b : Bool} (hT : Tok P T) (ho : o.op = .binOp .eql tx x y ty) (hd : o.dst = some d) (hdn : d < n) (hi : T[tx]? = some (some i)) (hk : i.k = .bool) (hx : opv st x = some (B a)) (hy : opv st y = some (B b)) :
    Step P n o st ⟨opr x ++ opr y, []⟩ ⟨some (d, some (B (a == b))), []⟩ := by
  refine Step.value hd hdn fun _ ha _ _ _ ac w hs => ?_
  have h1 := one_bool (opv_rel hs hx (agree2 ha).1)
  have h2 := one_bool (opv_rel hs hy (agree2 ha).2)
  exact ⟨.bool (a == b), run_eql ho h1 h2 (eqGuard_run _ _ _ _ _ _ _ rfl) rfl (run_eqBool ((hT.get hi).bool hk) _ _ _ _), by simp [VRel, RRel, Rep]⟩
theorem r_bneq {tx ty : TypeId} {i : TI} {x y : Operand} {a b : Bool} (hT : Tok P T) (ho : o.op = .binOp .neq tx x y ty) (hd : o.dst = some d) (hdn : d < n) (hi : T[tx]? = some (some i)) (hk : i.k = .bool) (hx : opv st x = some (B a)) (hy : opv st y = some (B b)) :
    Step P n o st ⟨opr x ++ opr y, []⟩ ⟨some (d, some (B (!(a == b)))), []⟩ := by
  refine Step.value hd hdn fun _ ha _ _ _ ac w hs => ?_
  have h1 := one_bool (opv_rel hs hx (agree2 ha).1)
  have h2 := one_bool (opv_rel hs hy (agree2 ha).2)
  exact ⟨.bool (!(a == b)), run_neq ho h1 h2 (eqGuard_run _ _ _ _ _ _ _ rfl) rfl (run_eqBool ((hT.get hi).bool hk) _ _ _ _), by simp [VRel, RRel, Rep]⟩

/-- A pointer against nil. -/
def ptrNil : V → Option Bool
  | .one (.c .np) => some true
  | .one (.c (.pt _)) => some false
  | .one (.vp _ _) => some false
  | _ => none
theorem ptrNil_rel {S : Sto} {μ : Mu} {H : Heap} {v : V} {u : Value} {b : Bool} (h : VRel S μ H v u) (hb : ptrNil v = some b) : ∃ p, u = .pointer p ∧ p.isNone = b := by
  unfold ptrNil at hb
  split at hb
  · cases hb; simp only [VRel, RRel, Rep] at h; exact ⟨none, h, rfl⟩
  · cases hb; simp only [VRel, RRel, Rep] at h; obtain ⟨b, o, h, _⟩ := h; exact ⟨_, h, rfl⟩
  · cases hb; simp only [VRel, RRel] at h; obtain ⟨t, cells, b, c, _, _, h⟩ := h; exact ⟨_, h, rfl⟩
  · cases hb
theorem r_peql {tx ty e : TypeId} {i : TI} {x y : Operand} {v : V} {b : Bool} (hT : Tok P T) (ho : o.op = .binOp .eql tx x y ty) (hd : o.dst = some d) (hdn : d < n) (hi : T[tx]? = some (some i)) (hk : i.k = .pt e) (hx : opv st x = some v) (hv : ptrNil v = some b) (hy : opv st y = some (.one (.c .np))) :
    Step P n o st ⟨opr x ++ opr y, []⟩ ⟨some (d, some (B b)), []⟩ := by
  refine Step.value hd hdn fun _ ha _ _ _ ac w hs => ?_
  obtain ⟨p, h1, hp⟩ := ptrNil_rel (opv_rel hs hx (agree2 ha).1) hv
  have h2 := opv_rel hs hy (agree2 ha).2
  simp only [VRel, RRel, Rep] at h2
  subst hp
  exact ⟨.bool p.isNone, run_eql ho h1 h2 (eqGuard_run _ _ _ _ _ _ _ rfl) (by cases p <;> rfl) (run_eqPtr ((hT.get hi).ptr hk) _ _ _), by simp [VRel, RRel, Rep]⟩
theorem r_pneq {tx ty e : TypeId} {i : TI} {x y : Operand} {v : V} {b : Bool} (hT : Tok P T) (ho : o.op = .binOp .neq tx x y ty) (hd : o.dst = some d) (hdn : d < n) (hi : T[tx]? = some (some i)) (hk : i.k = .pt e) (hx : opv st x = some v) (hv : ptrNil v = some b) (hy : opv st y = some (.one (.c .np))) :
    Step P n o st ⟨opr x ++ opr y, []⟩ ⟨some (d, some (B (!b))), []⟩ := by
  refine Step.value hd hdn fun _ ha _ _ _ ac w hs => ?_
  obtain ⟨p, h1, hp⟩ := ptrNil_rel (opv_rel hs hx (agree2 ha).1) hv
  have h2 := opv_rel hs hy (agree2 ha).2
  simp only [VRel, RRel, Rep] at h2
  subst hp
  exact ⟨.bool (!p.isNone), run_neq ho h1 h2 (eqGuard_run _ _ _ _ _ _ _ rfl) (by cases p <;> rfl) (run_eqPtr ((hT.get hi).ptr hk) _ _ _), by simp [VRel, RRel, Rep]⟩

/-- A slice against nil. -/
def slNil : V → Option Bool
  | .one (.c .nl) => some true
  | .one (.c (.sn _ _)) => some false
  | _ => none
theorem slNil_rel {S : Sto} {μ : Mu} {H : Heap} {v : V} {u : Value} {b : Bool} (h : VRel S μ H v u) (hb : slNil v = some b) : ∃ p l c, u = .slice p l c ∧ p.isNone = b := by
  unfold slNil at hb
  split at hb
  · cases hb; simp only [VRel, RRel, Rep] at h; exact ⟨none, _, _, h, rfl⟩
  · cases hb; simp only [VRel, RRel, Rep] at h; obtain ⟨b, o, l, c, h, _⟩ := h; exact ⟨_, _, _, h, rfl⟩
  · cases hb
theorem r_sleql {tx ty e : TypeId} {i : TI} {x y : Operand} {v : V} {b : Bool} (hT : Tok P T) (ho : o.op = .binOp .eql tx x y ty) (hd : o.dst = some d) (hdn : d < n) (hi : T[tx]? = some (some i)) (hk : i.k = .sl e) (hx : opv st x = some v) (hv : slNil v = some b) (hy : opv st y = some (.one (.c .nl))) :
    Step P n o st ⟨opr x ++ opr y, []⟩ ⟨some (d, some (B b)), []⟩ := by
  refine Step.value hd hdn fun _ ha _ _ _ ac w hs => ?_
  obtain ⟨p, l, c, h1, hp⟩ := slNil_rel (opv_rel hs hx (agree2 ha).1) hv
  have h2 := opv_rel hs hy (agree2 ha).2
  simp only [VRel, RRel, Rep] at h2
  subst hp
  exact ⟨.bool p.isNone, run_eql ho h1 h2 (eqGuard_run _ _ _ _ _ _ _ rfl) (by cases p <;> rfl) (run_eqSl ((hT.get hi).slice hk) _ _ _ _ _), by simp [VRel, RRel, Rep]⟩

/-! ### Structs of scalars against one another -/
def ceq : C → C → Bool
  | .int _ a, .int _ b => decide (a = b)
  | .str a, .str b => decide (a = b)
  | .bool a, .bool b => a == b
  | _, _ => false
def ceqL : List C → List C → Bool
  | a :: as, b :: bs => ceq a b && ceqL as bs
  | _, _ => true
def scalar : TK → C → C → Bool
  | .int k, .int k1 _, .int k2 _ => k == k1 && k == k2
  | .str, .str _, .str _ => true
  | .bool, .bool _, .bool _ => true
  | _, _, _ => false
/-- Fields that are scalars, one behind the other. -/
def scalars (T : TT) : Nat → List (Nat × TypeId) → List C → List C → Bool
  | _, [], [], [] => true
  | k, (off, t) :: fs, a :: as, b :: bs => Nat.beq off k && (match T[t]? with | some (some i) => scalar i.k a b | _ => false) && scalars T (k + 1) fs as bs
  | _, _, _, _ => false
def EqOk.check (P : Program) (t : TypeId) : Bool := (match P.underlying t with | some (.struct fs) => fs.toList.all fun f => f.name != "_" | _ => false) && !P.stoodInHeld t && !P.eqGuardType P.depth t
def EqOk (P : Program) (t : TypeId) : Prop := EqOk.check P t = true

theorem run_eqScalar {t : TypeId} {i : TI} {a b : C} {u v : Value} (hi : TIok P t i) (h : scalar i.k a b = true) {S : Sto} (ha : Rep S a u) (hb : Rep S b v) (d : Nat) (w : World) : (Op.equalIn (d + 1) t u v).run P w = .ok (ceq a b) w := by
  cases hk : i.k <;> rw [hk] at h <;> cases a <;> cases b <;> simp only [scalar] at h <;> try (cases h; done)
  · simp only [Rep] at ha hb; subst ha; subst hb
    rw [run_eqBool (hi.bool hk)]; rfl
  · rename_i k k1 m1 k2 m2
    simp only [Bool.and_eq_true, beq_iff_eq] at h
    obtain ⟨rfl, rfl⟩ := h
    simp only [Rep] at ha hb; subst ha; subst hb
    simp only [Op.equalIn, Sem.run_bind, run_underlying (hi.int hk) w, Result.andThen_ok, if_true, Sem.run_pure, ceq]
    congr 1
  · simp only [Rep] at ha hb; subst ha; subst hb
    simp only [Op.equalIn, Sem.run_bind, run_underlying (hi.str hk) w, Result.andThen_ok, Sem.run_pure, ceq]
    congr 1
    rw [beq_toListBytes, mk_toList, mk_toList]
    exact Bool.beq_eq_decide_eq _ _
theorem scalar_agg {k : TK} {a b : C} (h : scalar k a b = true) : k.agg = false := by cases k <;> first | rfl | (cases a <;> cases b <;> cases h)

theorem run_eqFields (hT : Tok P T) {S : Sto} (xs ys : Array Value) (d : Nat) (w : World) : ∀ (fields : List Field) (k : Nat) (as bs : List C), scalars T k (fields.map fun f => (f.offset, f.type)) as bs = true → (∀ f ∈ fields, f.name ≠ "_") →
    RepL S as (xs.toList.drop k) → RepL S bs (ys.toList.drop k) → (Op.eqFields (d + 1) xs ys fields).run P w = .ok (ceqL as bs) w := by
  intro fields
  induction fields with
  | nil =>
    intro k as bs h _ _ _
    cases as <;> cases bs <;> simp [scalars] at h
    rfl
  | cons f fields ih =>
    intro k as bs h hn hx hy
    cases as with
    | nil => cases bs <;> simp [scalars] at h
    | cons a as =>
      cases bs with
      | nil => simp [scalars] at h
      | cons b bs =>
        simp only [List.map_cons, scalars, Bool.and_eq_true] at h
        obtain ⟨⟨h1, h2⟩, h3⟩ := h
        have hoff := Nat.eq_of_beq_eq_true h1
        split at h2
        · rename_i i hi
          simp only [RepL] at hx hy
          obtain ⟨u, us, hu1, hu2, hu3⟩ := hx
          obtain ⟨v, vs, hv1, hv2, hv3⟩ := hy
          have e1 : xs[k]? = some u := by
            have := congrArg (fun l => l[0]?) hu1
            simpa using this
          have e2 : ys[k]? = some v := by
            have := congrArg (fun l => l[0]?) hv1
            simpa using this
          have e3 : xs.toList.drop (k + 1) = us := by rw [← List.drop_drop, hu1]; rfl
          have e4 : ys.toList.drop (k + 1) = vs := by rw [← List.drop_drop, hv1]; rfl
          have hag := (hT.get hi).agg_run w
          rw [scalar_agg h2] at hag
          have p1 : (part f.type xs f.offset).run P w = .ok u w := by
            simp only [part, Sem.run_bind, hag, Result.andThen_ok, Bool.false_eq_true, if_false, hoff, e1, Sem.run_pure]
          have p2 : (part f.type ys f.offset).run P w = .ok v w := by
            simp only [part, Sem.run_bind, hag, Result.andThen_ok, Bool.false_eq_true, if_false, hoff, e2, Sem.run_pure]
          have hrest := ih (k + 1) as bs h3 (fun g hg => hn g (by simp [hg])) (by rw [e3]; exact hu3) (by rw [e4]; exact hv3)
          simp only [Op.eqFields]
          rw [if_pos (hn f (by simp))]
          simp only [Sem.run_bind, p1, p2, Result.andThen_ok, run_eqScalar (hT.get hi) h2 hu2 hv2]
          cases hc : ceq a b with
          | true => simp [hrest, ceqL, hc]
          | false => simp [ceqL, hc]
        · cases h2

theorem r_steql {tx ty : TypeId} {i : TI} {fs : List (Nat × TypeId)} {x y : Operand} {as bs : List C} (hT : Tok P T) (hq : EqOk P tx) (ho : o.op = .binOp .eql tx x y ty) (hd : o.dst = some d) (hdn : d < n) (hi : T[tx]? = some (some i)) (hk : i.k = .st fs)
    (hx : opv st x = some (.pa as)) (hy : opv st y = some (.pa bs)) (hs : scalars T 0 fs as bs = true) : Step P n o st ⟨opr x ++ opr y, []⟩ ⟨some (d, some (B (ceqL as bs))), []⟩ := by
  refine Step.value hd hdn fun _ ha _ S μ ac w hsim => ?_
  have h1 := opv_rel hsim hx (agree2 ha).1
  have h2 := opv_rel hsim hy (agree2 ha).2
  simp only [VRel] at h1 h2
  obtain ⟨us, h1, h3⟩ := h1
  obtain ⟨vs, h2, h4⟩ := h2
  obtain ⟨fields, hu, hf⟩ := (hT.get hi).struct hk
  unfold EqOk EqOk.check at hq
  simp only [hu, Bool.and_eq_true, Bool.not_eq_true'] at hq
  obtain ⟨⟨q1, q2⟩, q3⟩ := hq
  have hfo : P.fieldsOf tx = fields := by simp [Program.fieldsOf, hu]
  have hn : ∀ f ∈ fields.toList, f.name ≠ "_" := fun f hf => by
    have := (List.all_eq_true.1 q1) f hf
    simpa using this
  refine ⟨.bool (ceqL as bs), run_eql ho h1 h2 ?_ rfl ?_, by simp [VRel, RRel, Rep]⟩
  · have hp : (program : Sem Program).run P w = .ok P w := rfl
    simp only [eqGuard]
    simp [hp, q3]
  · rw [run_equalIn_struct w 9999 tx _ _ (by rw [hfo, hu]) q2, hfo]
    exact run_eqFields hT ⟨us⟩ ⟨vs⟩ 9998 w fields.toList 0 as bs (by rw [← hf]; exact hs) hn (by simpa using h3) (by simpa using h4)
end
theorem take_map {α β : Type} {f : α → β} {l : List α} : (l.map f).take l.length = l.map f := List.take_of_length_le (by simp)
theorem hs_len {id a b : Nat} (h : a = b) : some (V.one (.hs id 0 a a)) = some (V.one (.hs id 0 b b)) := by rw [h]
theorem Ole.arrE {σ : Nat → Nat} {te es fz : Nat} {e e' : List (List C)} (h : e = e') : Ole σ (.arr te es e fz) (.arr te es e' 1) := by subst h; exact .arr1
theorem int_eq {k : IntKind} {a b : Int} (h : a = b) : some (I k a) = some (I k b) := by rw [h]
theorem bool_eq {a b : Bool} (h : a = b) : some (B a) = some (B b) := by rw [h]
/-- One of two states, and what the first one tells. -/
theorem AWp.split' {ro : Option Nat} {P : Program} {n : Nat} {st : St} {kf : List Nat} {c : Code} {Q : Exit → St → Prop} {st1 st2 : St} {p : Prop} (h : ∀ G n S μ a w, Sim G n S μ st a w → (Sim G n S μ st1 a w ∧ p) ∨ Sim G n S μ st2 a w) (h1 : p → AWp ro P n kf c st1 Q) (h2 : AWp ro P n kf c st2 Q) : AWp ro P n kf c st Q := fun G S μ a w Q' hg hs hQ => by
  rcases h G n S μ a w hs with ⟨h, hp⟩ | h
  · exact h1 hp G S μ a w Q' hg h hQ
  · exact h2 G S μ a w Q' hg h hQ
theorem Ole.arr0 {σ : Nat → Nat} {te es fz : Nat} {e e' : List (List C)} (h : e = e') : Ole σ (.arr te es e fz) (.arr te es e' fz) := by subst h; exact .arr
end Go.AM
