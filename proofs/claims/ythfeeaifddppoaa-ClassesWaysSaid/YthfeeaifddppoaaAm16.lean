/-
  MORE OPERATIONS: closures; maps whose keys are strings; pieces of slices and strings.
-/
import Derived.Test.YthfeeaifddppoaaAm15
namespace Go.AM
open Go

section
variable {P : Program} {n : Nat} {o : Oper} {st : St} {d : Nat} {T : TT}

/-- What a closure has captured. -/
def capsV (st : St) : List Operand → Option (List R)
  | [] => some []
  | x :: xs => match opv st x with
    | some (.one r) => match capsV st xs with | some l => some (r :: l) | none => none
    | _ => none
theorem capsV_rel {G : Ctx} {S : Sto} {μ : Mu} {st' : St} {a : Act} {w : World} (hs : Sim G n S μ st' a w) : ∀ (xs : List Operand) (l : List R), capsV st xs = some l → (∀ t ∈ operandsR xs, st'.e t = st.e t) → RRelL S μ st'.h l (xs.map a.eval)
  | [], l, h, _ => by simp [capsV] at h; subst h; simp [RRelL]
  | x :: xs, l, h, ht => by
    simp only [capsV] at h
    split at h
    · rename_i r hr
      split at h
      · rename_i l' hl'
        cases h
        have h1 := opv_rel hs hr fun t h => ht t (by simp [operandsR, h])
        simp only [VRel] at h1
        simp only [List.map_cons, RRelL]
        exact ⟨_, _, rfl, h1, capsV_rel hs xs l' hl' fun t h => ht t (by simp [operandsR, h])⟩
      · cases h
    · cases h
theorem r_makeFunc {f : FuncId} {caps : Array Operand} {l : List R} (ho : o.op = .makeFunc (.func f) #[] caps) (hd : o.dst = some d) (hdn : d < n) (hc : capsV st caps.toList = some l) : Step P n o st ⟨operandsR caps.toList, []⟩ ⟨some (d, some (.one (.clo f l))), []⟩ := by
  refine Step.value hd hdn fun st' ha _ S μ ac w hs => ?_
  have h := capsV_rel hs _ _ hc ha.1
  refine ⟨.func (.func f) #[] (caps.map ac.eval), by simp [execOp, ho, Instr.makeFunc], ?_⟩
  simp only [VRel, RRel]
  refine ⟨caps.toList.map ac.eval, ?_, h⟩
  congr 1
  apply Array.ext'
  simp

/-- A method that holds its receiver. -/
theorem r_makeMethod {f : FuncId} {x : Operand} {c : C} (ho : o.op = .makeFunc (.func f) #[x] #[]) (hd : o.dst = some d) (hdn : d < n) (hx : opv st x = some (.one (.c c))) : Step P n o st ⟨opr x, []⟩ ⟨some (d, some (.one (.mth f c))), []⟩ := by
  refine Step.value hd hdn fun st' ha _ S μ ac w hs => ?_
  have h := opv_rel hs hx ha.1
  refine ⟨.func (.func f) #[ac.eval x] #[], by simp [execOp, ho, Instr.makeFunc], ?_⟩
  simp only [VRel, RRel] at h ⊢
  exact ⟨_, rfl, h⟩
/-! ### Maps with string keys -/
def mfind (k : List UInt8) : List (List C) → Option (List C)
  | [] => none
  | (.str s :: vs) :: r => if s = k then some vs else mfind k r
  | _ :: r => mfind k r
/-- All keys are strings. -/
def mstr : List (List C) → Prop
  | [] => True
  | (.str _ :: _) :: r => mstr r
  | _ :: _ => False
def mput (k : List UInt8) (vs : List C) : List (List C) → List (List C)
  | [] => [.str k :: vs]
  | (.str s :: us) :: r => if s = k then (.str k :: vs) :: r else (.str s :: us) :: mput k vs r
  | x :: r => x :: mput k vs r

theorem beq_mk (a b : List UInt8) : ((ByteArray.mk ⟨a⟩) == (ByteArray.mk ⟨b⟩)) = decide (b = a) := by
  rw [beq_toListBytes, mk_toList, mk_toList, Bool.beq_eq_decide_eq]
  by_cases h : a = b
  · subst h; simp
  · have h' : ¬ b = a := fun e => h e.symm
    simp [h, h']

theorem findNow_rel {S : Sto} {agg : Bool} {k : List UInt8} : ∀ (l : List (List C)) (es : List MapEntry) (i : Nat), RepEnts S agg l es → mstr l →
    (∀ vs, mfind k l = some vs → ∃ j e, Instr.findNow .string (.string ⟨⟨k⟩⟩) es i = some (some (i + j, e.val)) ∧ es[j]? = some e ∧ (∃ us, RepL S vs us ∧ e.val = (if agg then .agg ⟨us⟩ else us.headD undef) ∧ (agg = false → us.length = 1)) ∧ e.key = .string ⟨⟨k⟩⟩ ∧ j < es.length ∧
      ∀ ws, mput k ws l = (l.take j) ++ (.str k :: ws) :: l.drop (j + 1)) ∧
    (mfind k l = none → Instr.findNow .string (.string ⟨⟨k⟩⟩) es i = some none ∧ ∀ ws, mput k ws l = l ++ [.str k :: ws])
  | [], es, i, h, _ => by
    simp only [RepEnts] at h
    subst h
    exact ⟨fun vs hv => by simp [mfind] at hv, fun _ => ⟨rfl, fun ws => rfl⟩⟩
  | r :: l, es, i, h, hm => by
    simp only [RepEnts] at h
    obtain ⟨e, es', rfl, ⟨vs, h1, h2, h3⟩, h4⟩ := h
    match r, h1, hm with
    | .str s :: us, h1, hm =>
      simp only [mstr] at hm
      simp only [RepL] at h1
      obtain ⟨v, vs', hv, h5, h6⟩ := h1
      simp only [Rep] at h5
      injection hv with hv1 hv2
      subst hv2
      have hkey : e.key = .string ⟨⟨s⟩⟩ := by rw [hv1, h5]
      have ih := findNow_rel (k := k) l es' (i + 1) h4 hm
      by_cases hs : s = k
      · subst hs
        refine ⟨fun ws hw => ?_, fun hn => by simp [mfind] at hn⟩
        simp only [mfind, if_true, Option.some.injEq] at hw
        subst hw
        refine ⟨0, e, ?_, rfl, ⟨vs, h6, h2, h3⟩, hkey, by simp, fun ws => by simp [mput]⟩
        simp only [Instr.findNow, hkey, Instr.sameNow]
        rw [beq_mk]
        simp
      · have hfn : Instr.findNow .string (.string ⟨⟨k⟩⟩) (e :: es') i = Instr.findNow .string (.string ⟨⟨k⟩⟩) es' (i + 1) := by
          simp only [Instr.findNow, hkey, Instr.sameNow]
          rw [beq_mk]
          simp [hs]
        refine ⟨fun ws hw => ?_, fun hn => ?_⟩
        · simp only [mfind, hs, if_false] at hw
          obtain ⟨j, e', q1, q2, q3, q4, q5, q6⟩ := ih.1 ws hw
          refine ⟨j + 1, e', ?_, by simpa using q2, q3, q4, by simpa using q5, fun ws => ?_⟩
          · rw [hfn, q1, show i + 1 + j = i + (j + 1) by omega]
          · simp only [mput, hs, if_false, q6 ws]
            simp
        · simp only [mfind, hs, if_false] at hn
          obtain ⟨q1, q2⟩ := ih.2 hn
          exact ⟨by rw [hfn, q1], fun ws => by simp only [mput, hs, if_false, q2 ws]; simp⟩
    | [], h1, _ => simp only [RepL] at h1; cases h1
    | .int _ _ :: _, _, hm => simp [mstr] at hm
    | .bool _ :: _, _, hm => simp [mstr] at hm
    | .nl :: _, _, hm => simp [mstr] at hm
    | .sl _ _ :: _, _, hm => simp [mstr] at hm
    | .sn _ _ :: _, _, hm => simp [mstr] at hm
    | .np :: _, _, hm => simp [mstr] at hm
    | .pt _ :: _, _, hm => simp [mstr] at hm
    | .mp _ _ :: _, _, hm => simp [mstr] at hm
    | .zv _ :: _, _, hm => simp [mstr] at hm

theorem checkKey_str {t : TypeId} (hu : P.underlying t = some .string) (b : Bool) (d : Nat) (s : ByteArray) (w : World) : (Instr.checkKey b (d + 1) t (.string s)).run P w = .ok () w := by
  simp only [Instr.checkKey, Sem.run_bind, run_underlying hu w, Result.andThen_ok, Sem.run_pure]

/-- The entries of a map that is read. -/
inductive MapE (st : St) : List Nat → V → Bool → List (List C) → Prop
  | mr {id agg ents} : st.h id = some (.map agg ents) → MapE st [id] (.one (.mr id)) agg ents
  | mp {agg ents} : MapE st [] (.one (.c (.mp agg ents))) agg ents
  | nil {agg} : MapE st [] (.one (.c (.zv 0))) agg []

theorem MapE.rel {G : Ctx} {S : Sto} {μ : Mu} {st' : St} {a : Act} {w : World} {ids : List Nat} {v : V} {agg : Bool} {ents : List (List C)} {u : Value} (hs : Sim G n S μ st' a w) (h : MapE st ids v agg ents) (hi : ∀ i ∈ ids, st'.h i = st.h i) (hv : VRel S μ st'.h v u) :
    ∃ es : Array MapEntry, RepEnts S agg ents es.toList ∧ ((u = .map none ∧ es = #[]) ∨ ∃ b clk, u = .map (some b) ∧ w.heap[b]? = some (.map es clk)) := by
  cases h with
  | mr hh =>
    have hh' := (hi _ (by simp)).trans hh
    simp only [VRel, RRel] at hv
    obtain ⟨agg', ents', b, c, h1, h2, h3⟩ := hv
    rw [hh'] at h1; cases h1
    obtain ⟨b', es, clk, g1, g2, g3, g4⟩ := hs.inv.obj _ _ hh'
    rw [h2] at g1; cases g1
    exact ⟨es, g3, .inr ⟨_, clk, h3, g2⟩⟩
  | mp =>
    simp only [VRel, RRel, Rep] at hv
    obtain ⟨b, es, clk, h1, h2, h3⟩ := hv
    exact ⟨es, h3, .inr ⟨b, clk, h1, hs.inv.holds.2 _ _ _ h2⟩⟩
  | nil =>
    simp only [VRel, RRel, Rep, zval] at hv
    exact ⟨#[], by simp [RepEnts], .inl ⟨hv, rfl⟩⟩

/-- What a look-up brings. -/
def lookR (i : TI) (r : Option (List C)) : V := match r with
  | some vs => if i.k.agg then .pa vs else match vs with | [c] => .one (.c c) | _ => .tup []
  | none => if i.k.agg then .pa i.zero else match i.zero with | [c] => .one (.c c) | _ => .tup []
def lookB (r : Option (List C)) : Bool := r.isSome

def foundV (r : Option (Nat × Value)) (z : Value) : Value := match r with | some p => p.2 | none => z
theorem run_getMap (w : World) (b : Nat) (es : Array MapEntry) (clk : Nat) (h : w.heap[b]? = some (.map es clk)) : (getObj b).run P w = .ok (.map es clk) w := by
  exact MapKept.run_getObj_map h

theorem r_lookup {t kt et : TypeId} {i ki ei : TI} {x y : Operand} {ok : Bool} {v : V} {ids : List Nat} {agg : Bool} {ents : List (List C)} {k : List UInt8} {r : Option (List C)} (hT : Tok P T) (ho : o.op = .lookup t x y ok) (hd : o.dst = some d) (hdn : d < n) (hi : T[t]? = some (some i)) (hk : i.k = .mp kt et)
    (hki : T[kt]? = some (some ki)) (hkk : ki.k = .str) (hei : T[et]? = some (some ei)) (hag : ei.k.agg = agg) (hx : opv st x = some v) (hm : MapE st ids v agg ents) (hms : mstr ents) (hy : opv st y = some (Go.AM.T k)) (hr : mfind k ents = r) :
    Step P n o st ⟨opr x ++ opr y, ids⟩ ⟨some (d, some (if ok then .tup [lookR ei r, B (lookB r)] else lookR ei r)), []⟩ := by
  refine Step.value hd hdn fun st' ha G S μ a w hs => ?_
  obtain ⟨es, h1, h2⟩ := hm.rel hs ha.2 (opv_rel hs hx fun t h => ha.1 t (by simp [h]))
  have h3 := one_str (opv_rel hs hy fun t h => ha.1 t (by simp [h]))
  have hu := run_underlying ((hT.get hi).map hk) w
  have hks := (hT.get hki).str hkk
  obtain ⟨z, hz, hzr, hz1, hz2⟩ := (hT.get hei).zero_run
  have hfind := findNow_rel (k := k) ents es.toList 0 h1 hms
  -- what comes
  have key : ∃ r0 : Option (Nat × Value), (Instr.findKey kt (.string ⟨⟨k⟩⟩) es.toList).run P w = .ok r0 w ∧ VRel S μ st'.h (lookR ei r) (foundV r0 z) ∧ lookB r = r0.isSome := by
    cases hq : mfind k ents with
    | some vs =>
      obtain ⟨j, e, q1, q2, ⟨us, q3, q4, q5⟩, q6, q7, q8⟩ := hfind.1 vs hq
      refine ⟨some (0 + j, e.val), ?_, ?_, by rw [← hr, hq]; rfl⟩
      · simp only [Instr.findKey, Sem.run_bind, run_underlying hks w, Result.andThen_ok, q1, Sem.run_pure]
      · rw [← hr, hq]
        simp only [lookR, hag]
        cases agg with
        | true =>
          simp only [if_true, VRel] at q4 ⊢
          exact ⟨us, q4, q3⟩
        | false =>
          simp only [Bool.false_eq_true, if_false] at q4 ⊢
          have hl := q5 rfl
          have hl2 := q3.length
          match vs, us, q3, hl, hl2 with
          | [c], [u], q3, _, _ =>
            simp only [RepL] at q3
            obtain ⟨v, vs', hv, hc, _⟩ := q3
            cases hv
            rw [q4]
            simp only [VRel, RRel]
            exact hc
    | none =>
      obtain ⟨q1, _⟩ := hfind.2 hq
      refine ⟨none, ?_, ?_, by rw [← hr, hq]; rfl⟩
      · simp only [Instr.findKey, Sem.run_bind, run_underlying hks w, Result.andThen_ok, q1, Sem.run_pure]
      · rw [← hr, hq]
        simp only [lookR, hag]
        have hzr' := hzr S
        cases agg with
        | true =>
          rw [hag, if_pos rfl] at hz1
          simp only [if_true, VRel]
          exact ⟨z.cells.toList, hz1, hzr'⟩
        | false =>
          obtain ⟨u, hu1, hu2⟩ := hz2 hag
          simp only [Bool.false_eq_true, if_false]
          have hl := (hT.get hei).len
          rw [(hT.get hei).one hag] at hl
          match hzz : ei.zero, hl with
          | [c], _ =>
            rw [hzz, hu1] at hzr'
            simp only [RepL] at hzr'
            obtain ⟨v, vs', hv, hc, _⟩ := hzr'
            cases hv
            rw [hu2]
            simp only [VRel, RRel]
            exact hc
  obtain ⟨r0, hf, hv, hb⟩ := key
  have hck := fun b => checkKey_str (P := P) hks b 9999 ⟨⟨k⟩⟩ w
  have fin : VRel S μ st'.h (if ok then .tup [lookR ei r, B (lookB r)] else lookR ei r) (if ok then .tuple #[(foundV r0 z), .bool r0.isSome] else (foundV r0 z)) := by
    cases ok with
    | false => exact hv
    | true =>
      simp only [if_true, VRel, VRelL]
      exact ⟨[_, .bool r0.isSome], rfl, _, [.bool r0.isSome], rfl, hv, .bool r0.isSome, [], rfl, by rw [hb]; simp [RRel, Rep], rfl⟩
  refine ⟨_, ?_, fin⟩
  rcases h2 with ⟨h2, rfl⟩ | ⟨b, clk, h2, h4⟩
  · simp only [execOp, ho, h2, h3, Sem.run_bind, Instr.lookup, hu, Result.andThen_ok, Sem.run_pure]
    rw [show (10000 : Nat) = 9999 + 1 from rfl, hck]
    simp only [Result.andThen_ok, hf]
    cases r0 with
    | none => simp only [Sem.run_bind, hz w, Result.andThen_ok, Sem.run_pure]; rfl
    | some p => rfl
  · simp only [execOp, ho, h2, h3, Sem.run_bind, Instr.lookup, hu, Result.andThen_ok, Sem.run_pure, run_getMap w b es clk h4]
    rw [show (10000 : Nat) = 9999 + 1 from rfl, hck]
    simp only [Result.andThen_ok, hf]
    cases r0 with
    | none => simp only [Sem.run_bind, hz w, Result.andThen_ok, Sem.run_pure]; rfl
    | some p => rfl

theorem repEnts_append {S : Sto} {agg : Bool} : ∀ {a : List (List C)} {x : List MapEntry} {b : List (List C)} {y : List MapEntry}, RepEnts S agg a x → RepEnts S agg b y → RepEnts S agg (a ++ b) (x ++ y)
  | [], _, _, _, h, k => by simp only [RepEnts] at h; subst h; simpa using k
  | _ :: _, _, _, _, h, k => by
    simp only [RepEnts, List.cons_append] at h ⊢
    obtain ⟨v, vs', rfl, h1, h2⟩ := h
    exact ⟨v, vs' ++ _, rfl, h1, repEnts_append h2 k⟩
theorem repEnts_take {S : Sto} {agg : Bool} : ∀ {a : List (List C)} {x : List MapEntry} (n : Nat), RepEnts S agg a x → RepEnts S agg (a.take n) (x.take n)
  | _, _, 0, _ => by simp [RepEnts]
  | [], _, n + 1, h => by simp only [RepEnts] at h; subst h; simp [RepEnts]
  | _ :: _, _, n + 1, h => by
    simp only [RepEnts, List.take_succ_cons] at h ⊢
    obtain ⟨v, vs', rfl, h1, h2⟩ := h
    exact ⟨v, vs'.take n, by simp, h1, repEnts_take n h2⟩
theorem repEnts_drop {S : Sto} {agg : Bool} : ∀ {a : List (List C)} {x : List MapEntry} (n : Nat), RepEnts S agg a x → RepEnts S agg (a.drop n) (x.drop n)
  | _, _, 0, h => by simpa using h
  | [], _, n + 1, h => by simp only [RepEnts] at h; subst h; simp [RepEnts]
  | _ :: _, _, n + 1, h => by
    simp only [RepEnts, List.drop_succ_cons] at h ⊢
    obtain ⟨v, vs', rfl, h1, h2⟩ := h
    simpa using repEnts_drop n h2

/-- 'm[k] = v'. -/
theorem r_mapUpdate {t kt et : TypeId} {i ki : TI} {x y z : Operand} {id : Nat} {agg : Bool} {ents : List (List C)} {k : List UInt8} {v : V} {rs : List R} {cs : List C} {ids : List Nat} (hT : Tok P T) (ho : o.op = .mapUpdate t x y z) (hd : o.dst = none) (hi : T[t]? = some (some i)) (hk : i.k = .mp kt et)
    (hki : T[kt]? = some (some ki)) (hkk : ki.k = .str) (hx : opv st x = some (.one (.mr id))) (hh : st.h id = some (.map agg ents)) (hms : mstr ents) (hy : opv st y = some (Go.AM.T k))
    (hz : opv st z = some v) (hva : (match v with | .one _ => !agg | .pa _ => agg | .ma _ => agg | _ => false) = true) (hc : cellsV v = some rs) (hp : PureL st.h ids rs cs) :
    Step P n o st ⟨opr x ++ opr y ++ opr z, id :: ids⟩ ⟨none, [(id, some (.map agg (mput k cs ents)))]⟩ := by
  refine Step.turn hd hh (by simp) (by simp [AObj.succ]) fun st' ha hh' G S μ a w hs => ?_
  have h1 := opv_rel hs hx fun t h => ha.1 t (by simp [h])
  have h3 := one_str (opv_rel hs hy fun t h => ha.1 t (by simp [h]))
  have hv := opv_rel hs hz fun t h => ha.1 t (by simp [h])
  simp only [VRel, RRel] at h1
  obtain ⟨agg', ents', b, c, q1, q2, q3⟩ := h1
  obtain ⟨b', es, clk, g1, g2, g3, g4⟩ := hs.inv.obj id _ hh'
  rw [g1] at q2; cases q2
  have hrep := hp.rel (fun i h => ha.2 i (by simp [h])) hs.inv.obj (cellsV_rel hv hc)
  -- the value, as an entry holds it
  have hval : a.eval z = (if agg then .agg ⟨(a.eval z).cells.toList⟩ else (a.eval z).cells.toList.headD undef) ∧ (agg = false → (a.eval z).cells.toList.length = 1) := by
    cases v with
    | one r =>
      simp at hva
      subst hva
      simp only [VRel] at hv
      rw [hv.one.1]
      simp
    | pa l =>
      simp at hva
      subst hva
      simp only [VRel] at hv
      obtain ⟨vs, hv, _⟩ := hv
      rw [hv]
      simp [Value.cells]
    | ma l =>
      simp at hva
      subst hva
      simp only [VRel] at hv
      obtain ⟨vs, hv, _⟩ := hv
      rw [hv]
      simp [Value.cells]
    | tup l => simp at hva
  have hks := (hT.get hki).str hkk
  have hu := run_underlying ((hT.get hi).map hk) w
  have hfind := findNow_rel (k := k) ents es.toList 0 g3 hms
  have hck := fun b => checkKey_str (P := P) hks b 9999 ⟨⟨k⟩⟩ w
  have hone : ∀ e : MapEntry, e.key = .string ⟨⟨k⟩⟩ → e.val = a.eval z → RepEnts S agg [.str k :: cs] [e] := by
    intro e he1 he2
    simp only [RepEnts]
    refine ⟨e, [], rfl, ⟨(a.eval z).cells.toList, ?_, by rw [he2]; exact hval.1, hval.2⟩, rfl⟩
    simp only [RepL]
    exact ⟨e.key, _, rfl, by simp [Rep, he1], hrep⟩
  have hset : ∀ (ob : Obj), (setObj b ob).run P w = .ok () { w with heap := w.heap.setIfInBounds b ob } := by
    intro ob
    exact MapKept.run_setObj_map _ g2
  have hW : ∀ ob, WChg w { w with heap := w.heap.setIfInBounds b ob } b ob := fun ob => by
    have hlt := lt_of_some g2
    refine ⟨rfl, rfl, rfl, by simp, by simp [hlt], fun k _ hne => ?_⟩
    show (w.heap.setIfInBounds b ob)[k]? = _
    rw [Array.getElem?_setIfInBounds, if_neg (fun e => hne e.symm)]
  have hSc : ∀ (ob : Obj) (o : Nat) (v : Value), S.cell b o = some v → ∃ vs t fr, ob = .cells vs t fr ∧ vs[o]? = some v := fun ob o v e => by
    obtain ⟨vs, t, fr, p1, _⟩ := hs.inv.holds.1 b o v e
    rw [g2] at p1; cases p1
  have hSm : ∀ m, S.mapo b = some m → w.heap.size ≤ b := fun m e => by rw [g4] at e; cases e
  cases hq : mfind k ents with
  | some vs =>
    obtain ⟨j, e, p1, p2, _, p4, p5, p6⟩ := hfind.1 vs hq
    refine ⟨_, .map (es.modify j fun e => { e with key := .string ⟨⟨k⟩⟩, val := a.eval z }) clk, b, (0, 0), ?_, g1, hW _, ⟨b, _, clk, upd_same _ _ _, (hW _).new, ?_, g4⟩, hSc _, hSm⟩
    · have hkey : ((es[j]?).map (·.key)).getD (.string ⟨⟨k⟩⟩) = .string ⟨⟨k⟩⟩ := by
        rw [← Array.getElem?_toList, p2]
        simpa using p4
      have hkt : (Instr.keyThatStays (.string ⟨⟨k⟩⟩) (.string ⟨⟨k⟩⟩)).run P w = .ok (.string ⟨⟨k⟩⟩) w := by
        have hsb : Instr.sameBits 10000 (.string ⟨⟨k⟩⟩) (.string ⟨⟨k⟩⟩) = true := by simp [Instr.sameBits, beq_mk]
        simp only [Instr.keyThatStays, hsb, if_true, Sem.run_pure]
      simp only [execOp, ho, q3, h3, Sem.run_bind, Instr.mapUpdate, hu, Result.andThen_ok, run_getMap w b es clk g2]
      rw [show (10000 : Nat) = 9999 + 1 from rfl, hck]
      simp only [Result.andThen_ok, Instr.findKey, Sem.run_bind, run_underlying hks w, p1, Sem.run_pure, Nat.zero_add, hkey, hkt, hset]
    · rw [p6 cs, Array.toList_modify]
      have hmod : es.toList.modify j (fun e => { e with key := .string ⟨⟨k⟩⟩, val := a.eval z }) = es.toList.take j ++ { e with key := .string ⟨⟨k⟩⟩, val := a.eval z } :: es.toList.drop (j + 1) := by
        apply List.ext_getElem?
        intro i
        rw [List.getElem?_modify]
        have p5' : j < es.size := by simpa using p5
        by_cases c1 : i < j
        · rw [List.getElem?_append_left (by simp; omega), List.getElem?_take, if_pos c1]
          simp [show ¬ j = i by omega]
        · rw [List.getElem?_append_right (by simp; omega)]
          simp only [List.length_take]
          by_cases c2 : j = i
          · subst c2
            rw [p2]
            have hm : min j es.toList.length = j := by simp; omega
            rw [hm]
            simp
          · rw [Nat.min_eq_left (Nat.le_of_lt p5), show i - j = (i - j - 1) + 1 by omega, List.getElem?_cons_succ, List.getElem?_drop]
            simp [c2, show j + 1 + (i - j - 1) = i by omega]
      rw [hmod]
      have := repEnts_append (repEnts_take j g3) (repEnts_append (hone { e with key := .string ⟨⟨k⟩⟩, val := a.eval z } rfl rfl) (repEnts_drop (j + 1) g3))
      exact this
  | none =>
    obtain ⟨p1, p2⟩ := hfind.2 hq
    refine ⟨_, .map (es.push { key := .string ⟨⟨k⟩⟩, val := a.eval z, born := clk }) (clk + 1), b, (0, 0), ?_, g1, hW _, ⟨b, _, clk + 1, upd_same _ _ _, (hW _).new, ?_, g4⟩, hSc _, hSm⟩
    · simp only [execOp, ho, q3, h3, Sem.run_bind, Instr.mapUpdate, hu, Result.andThen_ok, run_getMap w b es clk g2]
      rw [show (10000 : Nat) = 9999 + 1 from rfl, hck]
      simp only [Result.andThen_ok, Instr.findKey, Sem.run_bind, run_underlying hks w, p1, Sem.run_pure, hset]
    · rw [p2 cs, Array.toList_push]
      exact repEnts_append g3 (hone _ rfl rfl)
end
end Go.AM
