/-
  THE OPERATIONS, ONE BY ONE (1): slots, numbers, strings, tests.
-/
import Derived.Test.YthfeeaifddppoaaAm3
namespace Go.AM
open Go

/-- What a constant is. -/
def constV : Value → Option V
  | .int k n => some (.one (.c (.int k n)))
  | .bool b => some (.one (.c (.bool b)))
  | .string s => some (.one (.c (.str s.data.toList)))
  | .slice none 0 0 => some (.one (.c .nl))
  | .pointer none => some (.one (.c .np))
  | .map none => some (.one (.c (.zv 0)))
  | .nilFunc => some (.one (.c (.zv 1)))
  | .nilIface => some (.one (.c (.zv 2)))
  | _ => none

def opv (st : St) : Operand → Option V
  | .tmp t => st.e t
  | .const v => constV v
  | .func f => some (.one (.clo f []))
  | .global _ => none
def opr : Operand → List Nat
  | .tmp t => [t]
  | _ => []

theorem constV_rel {S : Sto} {μ : Mu} {H : Heap} {v : Value} {x : V} (h : constV v = some x) : VRel S μ H x v := by
  unfold constV at h
  split at h <;> first | (cases h; simp [VRel, RRel, Rep, zval]; done) | cases h

theorem opv_rel {G : Ctx} {n : Nat} {S : Sto} {μ : Mu} {st st' : St} {a : Act} {w : World} {x : Operand} {v : V} (hs : Sim G n S μ st' a w) (h : opv st x = some v) (ha : ∀ t ∈ opr x, st'.e t = st.e t) : VRel S μ st'.h v (a.eval x) := by
  cases x with
  | tmp t => exact hs.env t v (by rw [ha t (by simp [opr])]; exact h)
  | const u => exact constV_rel h
  | func f => simp [opv] at h; subst h; simp [VRel, RRel, RRelL, Act.eval]
  | global g => simp [opv] at h

section
variable {P : Program} {n : Nat} {o : Oper} {st : St} {d : Nat}

/-- A value comes, the world stands. -/
theorem Step.value {rd : Rd} {y : V} (hd : o.dst = some d) (hdn : d < n)
    (h : ∀ st', Agree rd st st' → ∀ G S μ a w, Sim G n S μ st' a w → ∃ v, (execOp a.eval o).run P w = .ok (.value v) w ∧ VRel S μ st'.h y v) : Step P n o st rd ⟨some (d, some y), []⟩ := by
  intro st' ha G S μ a w K Q hs hk
  obtain ⟨v, hr, hv⟩ := h st' ha G S μ a w hs
  refine fun ro => wpIn_of_value hr ?_
  rw [hd]
  exact hk S μ _ _ (hs.put hs.inv (Evolve.refl _ _ _) hdn fun z hz => by cases hz; exact hv)

theorem r_move {x : Operand} {y : V} (ho : o.op = .move x) (hd : o.dst = some d) (hdn : d < n) (hx : opv st x = some y) : Step P n o st ⟨opr x, []⟩ ⟨some (d, some y), []⟩ :=
  Step.value hd hdn fun _ ha _ _ _ a _ hs => ⟨a.eval x, by simp [execOp, ho], opv_rel hs hx ha.1⟩
theorem r_assign {x : Operand} {y : V} (ho : o.op = .assign x) (hd : o.dst = some d) (hdn : d < n) (hx : opv st x = some y) : Step P n o st ⟨opr x, []⟩ ⟨some (d, some y), []⟩ :=
  Step.value hd hdn fun _ ha _ _ _ a _ hs => ⟨a.eval x, by simp [execOp, ho], opv_rel hs hx ha.1⟩

theorem one_int {S : Sto} {μ : Mu} {H : Heap} {k : IntKind} {m : Int} {v : Value} (h : VRel S μ H (.one (.c (.int k m))) v) : v = .int k m := by simpa [VRel, RRel, Rep] using h
theorem one_bool {S : Sto} {μ : Mu} {H : Heap} {b : Bool} {v : Value} (h : VRel S μ H (.one (.c (.bool b))) v) : v = .bool b := by simpa [VRel, RRel, Rep] using h
theorem one_str {S : Sto} {μ : Mu} {H : Heap} {b : List UInt8} {v : Value} (h : VRel S μ H (.one (.c (.str b))) v) : v = .string ⟨⟨b⟩⟩ := by simpa [VRel, RRel, Rep] using h

abbrev I (k : IntKind) (m : Int) : V := .one (.c (.int k m))
abbrev B (b : Bool) : V := .one (.c (.bool b))
abbrev T (s : List UInt8) : V := .one (.c (.str s))

theorem agree2 {x y : Operand} {st' : St} (ha : Agree ⟨opr x ++ opr y, []⟩ st st') : (∀ t ∈ opr x, st'.e t = st.e t) ∧ (∀ t ∈ opr y, st'.e t = st.e t) :=
  ⟨fun t h => ha.1 t (by simp [h]), fun t h => ha.1 t (by simp [h])⟩

/-- Two operands that are integers of one kind. -/
theorem r_bin_int {op : BinOp} {tx ty : TypeId} {x y : Operand} {k : IntKind} {a b : Int} {z : V} (ho : o.op = .binOp op tx x y ty) (hd : o.dst = some d) (hdn : d < n) (hx : opv st x = some (I k a)) (hy : opv st y = some (I k b))
    (hr : ∀ w : World, ∃ v, (binOp op tx (.int k a) (.int k b)).run P w = .ok v w ∧ ∀ S μ H, VRel S μ H z v) : Step P n o st ⟨opr x ++ opr y, []⟩ ⟨some (d, some z), []⟩ := by
  refine Step.value hd hdn fun _ ha _ _ _ ac w hs => ?_
  have h1 := one_int (opv_rel hs hx (agree2 ha).1)
  have h2 := one_int (opv_rel hs hy (agree2 ha).2)
  obtain ⟨v, h3, h4⟩ := hr w
  refine ⟨v, ?_, h4 _ _ _⟩
  simp only [execOp, ho, h1, h2, Sem.run_bind]
  have : (eqGuard op tx x y (.int k a) (.int k b)).run P w = .ok () w := by
    unfold eqGuard
    split <;> rfl
  rw [this]
  simp only [Result.andThen_ok, h3, Sem.run_pure]

theorem r_add {tx ty : TypeId} {x y : Operand} {k : IntKind} {a b r : Int} (ho : o.op = .binOp .add tx x y ty) (hd : o.dst = some d) (hdn : d < n) (hx : opv st x = some (I k a)) (hy : opv st y = some (I k b)) (hr : k.wrap (a + b) = r) :
    Step P n o st ⟨opr x ++ opr y, []⟩ ⟨some (d, some (I k r)), []⟩ :=
  r_bin_int ho hd hdn hx hy fun w => ⟨.int k r, by simp [binOp, Op.intArith, hr], fun _ _ _ => by simp [VRel, RRel, Rep]⟩
theorem r_sub {tx ty : TypeId} {x y : Operand} {k : IntKind} {a b r : Int} (ho : o.op = .binOp .sub tx x y ty) (hd : o.dst = some d) (hdn : d < n) (hx : opv st x = some (I k a)) (hy : opv st y = some (I k b)) (hr : k.wrap (a - b) = r) :
    Step P n o st ⟨opr x ++ opr y, []⟩ ⟨some (d, some (I k r)), []⟩ :=
  r_bin_int ho hd hdn hx hy fun w => ⟨.int k r, by simp [binOp, Op.intArith, hr], fun _ _ _ => by simp [VRel, RRel, Rep]⟩
theorem r_mul {tx ty : TypeId} {x y : Operand} {k : IntKind} {a b r : Int} (ho : o.op = .binOp .mul tx x y ty) (hd : o.dst = some d) (hdn : d < n) (hx : opv st x = some (I k a)) (hy : opv st y = some (I k b)) (hr : k.wrap (a * b) = r) :
    Step P n o st ⟨opr x ++ opr y, []⟩ ⟨some (d, some (I k r)), []⟩ :=
  r_bin_int ho hd hdn hx hy fun w => ⟨.int k r, by simp [binOp, Op.intArith, hr], fun _ _ _ => by simp [VRel, RRel, Rep]⟩
theorem r_quo {tx ty : TypeId} {x y : Operand} {k : IntKind} {a b r : Int} (ho : o.op = .binOp .quo tx x y ty) (hd : o.dst = some d) (hdn : d < n) (hx : opv st x = some (I k a)) (hy : opv st y = some (I k b)) (hb : b ≠ 0) (hr : k.wrap (a.tdiv b) = r) :
    Step P n o st ⟨opr x ++ opr y, []⟩ ⟨some (d, some (I k r)), []⟩ :=
  r_bin_int ho hd hdn hx hy fun w => ⟨.int k r, by simp [binOp, Op.intDiv, hb, hr], fun _ _ _ => by simp [VRel, RRel, Rep]⟩
theorem r_rem {tx ty : TypeId} {x y : Operand} {k : IntKind} {a b r : Int} (ho : o.op = .binOp .rem tx x y ty) (hd : o.dst = some d) (hdn : d < n) (hx : opv st x = some (I k a)) (hy : opv st y = some (I k b)) (hb : b ≠ 0) (hr : a.tmod b = r) :
    Step P n o st ⟨opr x ++ opr y, []⟩ ⟨some (d, some (I k r)), []⟩ :=
  r_bin_int ho hd hdn hx hy fun w => ⟨.int k r, by simp [binOp, Op.intDiv, hb, hr], fun _ _ _ => by simp [VRel, RRel, Rep]⟩
theorem r_lss {tx ty : TypeId} {x y : Operand} {k : IntKind} {a b : Int} (ho : o.op = .binOp .lss tx x y ty) (hd : o.dst = some d) (hdn : d < n) (hx : opv st x = some (I k a)) (hy : opv st y = some (I k b)) :
    Step P n o st ⟨opr x ++ opr y, []⟩ ⟨some (d, some (B (decide (a < b)))), []⟩ :=
  r_bin_int ho hd hdn hx hy fun w => ⟨.bool (decide (a < b)), by simp [binOp, Op.intCmp], fun _ _ _ => by simp [VRel, RRel, Rep]⟩
theorem r_leq {tx ty : TypeId} {x y : Operand} {k : IntKind} {a b : Int} (ho : o.op = .binOp .leq tx x y ty) (hd : o.dst = some d) (hdn : d < n) (hx : opv st x = some (I k a)) (hy : opv st y = some (I k b)) :
    Step P n o st ⟨opr x ++ opr y, []⟩ ⟨some (d, some (B (decide (a ≤ b)))), []⟩ :=
  r_bin_int ho hd hdn hx hy fun w => ⟨.bool (decide (a ≤ b)), by simp [binOp, Op.intCmp], fun _ _ _ => by simp [VRel, RRel, Rep]⟩
theorem r_gtr {tx ty : TypeId} {x y : Operand} {k : IntKind} {a b : Int} (ho : o.op = .binOp .gtr tx x y ty) (hd : o.dst = some d) (hdn : d < n) (hx : opv st x = some (I k a)) (hy : opv st y = some (I k b)) :
    Step P n o st ⟨opr x ++ opr y, []⟩ ⟨some (d, some (B (decide (b < a)))), []⟩ :=
  r_bin_int ho hd hdn hx hy fun w => ⟨.bool (decide (b < a)), by simp [binOp, Op.intCmp], fun _ _ _ => by simp [VRel, RRel, Rep]⟩
theorem r_geq {tx ty : TypeId} {x y : Operand} {k : IntKind} {a b : Int} (ho : o.op = .binOp .geq tx x y ty) (hd : o.dst = some d) (hdn : d < n) (hx : opv st x = some (I k a)) (hy : opv st y = some (I k b)) :
    Step P n o st ⟨opr x ++ opr y, []⟩ ⟨some (d, some (B (decide (b ≤ a)))), []⟩ :=
  r_bin_int ho hd hdn hx hy fun w => ⟨.bool (decide (b ≤ a)), by simp [binOp, Op.intCmp], fun _ _ _ => by simp [VRel, RRel, Rep]⟩
theorem r_eql {tx ty : TypeId} {x y : Operand} {k : IntKind} {a b : Int} (ho : o.op = .binOp .eql tx x y ty) (hd : o.dst = some d) (hdn : d < n) (hx : opv st x = some (I k a)) (hy : opv st y = some (I k b)) :
    Step P n o st ⟨opr x ++ opr y, []⟩ ⟨some (d, some (B (decide (a = b)))), []⟩ :=
  r_bin_int ho hd hdn hx hy fun w => ⟨.bool (decide (a = b)), by simp [binOp, Op.intCmp]; rfl, fun _ _ _ => by simp [VRel, RRel, Rep]⟩
theorem r_neq {tx ty : TypeId} {x y : Operand} {k : IntKind} {a b : Int} (ho : o.op = .binOp .neq tx x y ty) (hd : o.dst = some d) (hdn : d < n) (hx : opv st x = some (I k a)) (hy : opv st y = some (I k b)) :
    Step P n o st ⟨opr x ++ opr y, []⟩ ⟨some (d, some (B (!decide (a = b)))), []⟩ :=
  r_bin_int ho hd hdn hx hy fun w => ⟨.bool (!decide (a = b)), by simp [binOp, Op.intCmp]; rfl, fun _ _ _ => by simp [VRel, RRel, Rep]⟩

theorem r_bin_str {op : BinOp} {tx ty : TypeId} {x y : Operand} {a b : List UInt8} {z : V} (ho : o.op = .binOp op tx x y ty) (hd : o.dst = some d) (hdn : d < n) (hx : opv st x = some (T a)) (hy : opv st y = some (T b))
    (hr : ∀ w : World, ∃ v, (Op.stringOp op ⟨⟨a⟩⟩ ⟨⟨b⟩⟩).run P w = .ok v w ∧ ∀ S μ H, VRel S μ H z v) (hop : ∀ w : World, (binOp op tx (.string ⟨⟨a⟩⟩) (.string ⟨⟨b⟩⟩)).run P w = (Op.stringOp op ⟨⟨a⟩⟩ ⟨⟨b⟩⟩).run P w) : Step P n o st ⟨opr x ++ opr y, []⟩ ⟨some (d, some z), []⟩ := by
  refine Step.value hd hdn fun _ ha _ _ _ ac w hs => ?_
  have h1 := one_str (opv_rel hs hx (agree2 ha).1)
  have h2 := one_str (opv_rel hs hy (agree2 ha).2)
  obtain ⟨v, h3, h4⟩ := hr w
  refine ⟨v, ?_, h4 _ _ _⟩
  simp only [execOp, ho, h1, h2, Sem.run_bind]
  have : (eqGuard op tx x y (.string ⟨⟨a⟩⟩) (.string ⟨⟨b⟩⟩)).run P w = .ok () w := by
    unfold eqGuard
    split <;> rfl
  rw [this]
  simp only [Result.andThen_ok, hop, h3, Sem.run_pure]

theorem mk_toList (a : List UInt8) : (ByteArray.mk ⟨a⟩).toList = a := by rw [ByteArray.toList_eq]

theorem r_seql {tx ty : TypeId} {x y : Operand} {a b : List UInt8} (ho : o.op = .binOp .eql tx x y ty) (hd : o.dst = some d) (hdn : d < n) (hx : opv st x = some (T a)) (hy : opv st y = some (T b)) :
    Step P n o st ⟨opr x ++ opr y, []⟩ ⟨some (d, some (B (decide (a = b)))), []⟩ :=
  r_bin_str ho hd hdn hx hy (fun w => ⟨.bool (decide (a = b)), by simp only [Op.stringOp, mk_toList, Sem.run_pure]; congr 2; exact (Bool.beq_eq_decide_eq a b), fun _ _ _ => by simp [VRel, RRel, Rep]⟩) fun _ => rfl
theorem r_sneq {tx ty : TypeId} {x y : Operand} {a b : List UInt8} (ho : o.op = .binOp .neq tx x y ty) (hd : o.dst = some d) (hdn : d < n) (hx : opv st x = some (T a)) (hy : opv st y = some (T b)) :
    Step P n o st ⟨opr x ++ opr y, []⟩ ⟨some (d, some (B (!decide (a = b)))), []⟩ :=
  r_bin_str ho hd hdn hx hy (fun w => ⟨.bool (!decide (a = b)), by simp only [Op.stringOp, mk_toList, Sem.run_pure]; rw [Bool.beq_eq_decide_eq a b], fun _ _ _ => by simp [VRel, RRel, Rep]⟩) fun _ => rfl
theorem r_sadd {tx ty : TypeId} {x y : Operand} {a b : List UInt8} (ho : o.op = .binOp .add tx x y ty) (hd : o.dst = some d) (hdn : d < n) (hx : opv st x = some (T a)) (hy : opv st y = some (T b)) (hl : a.length + b.length ≤ maxLen) :
    Step P n o st ⟨opr x ++ opr y, []⟩ ⟨some (d, some (T (a ++ b))), []⟩ :=
  r_bin_str ho hd hdn hx hy (fun w => ⟨.string ⟨⟨a ++ b⟩⟩, by
    have h1 : (ByteArray.mk ⟨a⟩).size = a.length := rfl
    have h2 : (ByteArray.mk ⟨b⟩).size = b.length := rfl
    have h3 : ¬ (((ByteArray.mk ⟨a⟩).size + (ByteArray.mk ⟨b⟩).size : Nat) : Int) > IntKind.i64.max := by
      rw [h1, h2]
      simp only [IntKind.max, IntKind.signed]
      unfold maxLen at hl
      simp [IntKind.bits]
      omega
    have h4 : (ByteArray.mk ⟨a⟩) ++ (ByteArray.mk ⟨b⟩) = (⟨⟨a ++ b⟩⟩ : ByteArray) := by
      apply ByteArray.ext
      simp
    simp only [Op.stringOp]
    rw [if_neg h3, h4]
    rfl, fun _ _ _ => by simp [VRel, RRel, Rep]⟩) fun _ => rfl
theorem r_slss {tx ty : TypeId} {x y : Operand} {a b : List UInt8} (ho : o.op = .binOp .lss tx x y ty) (hd : o.dst = some d) (hdn : d < n) (hx : opv st x = some (T a)) (hy : opv st y = some (T b)) :
    Step P n o st ⟨opr x ++ opr y, []⟩ ⟨some (d, some (B (Op.bytesLess a b))), []⟩ :=
  r_bin_str ho hd hdn hx hy (fun w => ⟨.bool (Op.bytesLess a b), by simp only [Op.stringOp, mk_toList, Sem.run_pure], fun _ _ _ => by simp [VRel, RRel, Rep]⟩) fun _ => rfl

theorem r_not {t : TypeId} {x : Operand} {b : Bool} (ho : o.op = .unOp .not t x) (hd : o.dst = some d) (hdn : d < n) (hx : opv st x = some (B b)) : Step P n o st ⟨opr x, []⟩ ⟨some (d, some (B (!b))), []⟩ := by
  refine Step.value hd hdn fun _ ha _ _ _ ac w hs => ?_
  have h1 := one_bool (opv_rel hs hx ha.1)
  exact ⟨.bool (!b), by simp [execOp, ho, h1, Op.unary], by simp [VRel, RRel, Rep]⟩
theorem r_neg {t : TypeId} {x : Operand} {k : IntKind} {a r : Int} (ho : o.op = .unOp .neg t x) (hd : o.dst = some d) (hdn : d < n) (hx : opv st x = some (I k a)) (hr : k.wrap (0 - a) = r) : Step P n o st ⟨opr x, []⟩ ⟨some (d, some (I k r)), []⟩ := by
  refine Step.value hd hdn fun _ ha _ _ _ ac w hs => ?_
  have h1 := one_int (opv_rel hs hx ha.1)
  refine ⟨.int k r, ?_, by simp [VRel, RRel, Rep]⟩
  simp only [Int.zero_sub] at hr
  simp [execOp, ho, h1, Op.unary, Op.intArith, hr]

theorem r_pick_t {c x y : Operand} {b : Bool} {z : V} (ho : o.op = .pick c x y) (hd : o.dst = some d) (hdn : d < n) (hc : opv st c = some (B b)) (hb : b = true) (hx : opv st x = some z) : Step P n o st ⟨opr c ++ opr x, []⟩ ⟨some (d, some z), []⟩ := by
  refine Step.value hd hdn fun _ ha _ _ _ ac w hs => ?_
  have h1 := one_bool (opv_rel hs hc (agree2 ha).1)
  subst hb
  exact ⟨ac.eval x, by simp [execOp, ho, h1, asBool], opv_rel hs hx (agree2 ha).2⟩
theorem r_pick_f {c x y : Operand} {b : Bool} {z : V} (ho : o.op = .pick c x y) (hd : o.dst = some d) (hdn : d < n) (hc : opv st c = some (B b)) (hb : b = false) (hy : opv st y = some z) : Step P n o st ⟨opr c ++ opr y, []⟩ ⟨some (d, some z), []⟩ := by
  refine Step.value hd hdn fun _ ha _ _ _ ac w hs => ?_
  have h1 := one_bool (opv_rel hs hc (agree2 ha).1)
  subst hb
  exact ⟨ac.eval y, by simp [execOp, ho, h1, asBool], opv_rel hs hy (agree2 ha).2⟩

theorem r_extract {x : Operand} {i : Nat} {l : List V} {z : V} (ho : o.op = .extract x i) (hd : o.dst = some d) (hdn : d < n) (hx : opv st x = some (.tup l)) (hi : l[i]? = some z) : Step P n o st ⟨opr x, []⟩ ⟨some (d, some z), []⟩ := by
  refine Step.value hd hdn fun st' ha _ S μ ac w hs => ?_
  have h1 := opv_rel hs hx ha.1
  simp only [VRel] at h1
  obtain ⟨vs, h1, h2⟩ := h1
  have : ∀ (l : List V) (vs : List Value) (i : Nat), VRelL S μ st'.h l vs → l[i]? = some z → ∃ v, vs[i]? = some v ∧ VRel S μ st'.h z v := by
    intro l
    induction l with
    | nil => intro vs i _ h; simp at h
    | cons r rs ih =>
      intro vs i h hi
      simp only [VRelL] at h
      obtain ⟨v, vs', rfl, h1, h2⟩ := h
      cases i with
      | zero => simp at hi; subst hi; exact ⟨v, rfl, h1⟩
      | succ i => simp at hi; simpa using ih vs' i h2 hi
  obtain ⟨v, h3, h4⟩ := this l vs i h2 hi
  refine ⟨v, ?_, h4⟩
  simp [execOp, ho, h1, Instr.extract, h3]
end
end Go.AM
