/-
  Texts Am25, Am26, Am27, Tt in one.
-/
import Derived.Test.YtojcjjjpniimiaaDoorM6
import Derived.KernelRfl
import Derived.Test.YtojcjjjpniimiaaDoorProg
/- CALLS IN A REGION BY COMPUTATION: a call by contract, arguments handed on as they are or as plain data. -/
namespace Go.AM
open Go
/-- A list of plain data as a slice of its own. -/
theorem hs_all {h : Heap} {id te es n : Nat} {l l' : List (List C)} {fz : Nat} (h1 : h id = some (.arr te es l fz)) (hf : fz = 2) (h2 : n = l.length) (h3 : l = l') : Conv h [id] (.one (.hs id 0 n n)) (.one (.c (.sl es l'))) := by
  subst h2
  subst h3
  subst hf
  exact .one (.hs h1 rfl (by rw [List.drop_zero, List.take_length]) .nil)

section
variable {P : Program} {n : Nat} {ops : Array Oper} {draw : Bool} {k d : Nat} {st : St} {pre : REs} {Q : St → Prop} {o : Oper} {f : FuncId} {xs : Array Operand} {ts : Array TypeId} {ids : List Nat} {args : List V} {res : V} {hin hout : List (Nat × AObj)}
/-- A call of a function that is named. -/
theorem kc (hf : ImpC P f args hin res hout)
    (hk : RunK P n ops draw (k + 1) ⟨upd st.e d (some res), updL st.h (outs hout), st.d⟩ ((⟨operandsR xs.toList, ids ++ keys hin ++ keys hout⟩, ⟨some (d, some res), outs hout⟩) :: pre) Q)
    (hb : bodied P f := by exact bod_ (by kernel_rfl)) (ho : ops[k]? = some o := by rfl) (hg : o.guard = none := by rfl) (hop : o.op = .call { callee := .value (.func f), args := xs, argTypes := ts } := by rfl) (hd : o.dst = some d := by rfl) (hdn : Nat.blt d n = true := by rfl)
    (ha : ArgsV st ids xs.toList args := by repeat (first | exact .nil | (apply Go.AM.ArgsV.cons rfl; (first | exact .refl | exact .one (.c .nl .nil) | exact .one (.c .sn .nil) | exact .one (.hs rfl (by first | rfl | simp) (by first | rfl | (simp; done) | (simp [Go.AM.take_map]; done) | exact Go.AM.take_map.symm) .nil) | exact Go.AM.hs_all rfl rfl (by first | rfl | assumption | (simp; done) | (simp; omega)) (by first | rfl | assumption | (simp; done)) | ((first | apply Go.AM.Conv.pa | apply Go.AM.Conv.agg); repeat (first | exact .nil | apply Go.AM.PureL.c .refl | apply Go.AM.PureL.c .nl | apply Go.AM.PureL.c .sn | (apply Go.AM.PureL.hs; rfl; (first | rfl | simp); (first | rfl | (simp; done) | (simp [Go.AM.take_map]; done) | exact Go.AM.take_map.symm))))))))
    (hin' : AllP (fun p => st.h p.1 = some p.2) hin := by repeat (first | exact trivial | refine ⟨rfl, ?_⟩)) (hout' : AllP (fun p => p.1 ∈ keys hin ∨ st.h p.1 = none) hout := by repeat (first | exact trivial | refine ⟨.inr rfl, ?_⟩ | refine ⟨.inl (by decide), ?_⟩ | refine ⟨.inl (by repeat (first | exact List.Mem.head _ | apply List.Mem.tail)), ?_⟩)) (hok : callOk args hin = true := by rfl) : RunK P n ops draw k st pre Q :=
  k_ (g_ ho hg (r_call hin hout hb hop hd (blt_lt hdn) hf ha hin' hout' hok)) hk
/-- A call of a closure. -/
theorem kv {x : Operand} {caps : List R} (hf : ImpC P f (args ++ caps.map V.one) hin res hout)
    (hk : RunK P n ops draw (k + 1) ⟨upd st.e d (some res), updL st.h (outs hout), st.d⟩ ((⟨opr x ++ operandsR xs.toList, ids ++ keys hin ++ keys hout⟩, ⟨some (d, some res), outs hout⟩) :: pre) Q)
    (hb : bodied P f := by exact bod_ (by kernel_rfl)) (ho : ops[k]? = some o := by rfl) (hg : o.guard = none := by rfl) (hop : o.op = .call { callee := .value x, args := xs, argTypes := ts } := by rfl) (hd : o.dst = some d := by rfl) (hdn : Nat.blt d n = true := by rfl) (hx : opv st x = some (.one (.clo f caps)) := by rfl)
    (ha : ArgsV st ids xs.toList args := by repeat (first | exact .nil | (apply Go.AM.ArgsV.cons rfl; (first | exact .refl | exact .one (.c .nl .nil) | exact .one (.c .sn .nil) | exact .one (.hs rfl (by first | rfl | simp) (by first | rfl | (simp; done) | (simp [Go.AM.take_map]; done) | exact Go.AM.take_map.symm) .nil) | exact Go.AM.hs_all rfl rfl (by first | rfl | assumption | (simp; done) | (simp; omega)) (by first | rfl | assumption | (simp; done)) | ((first | apply Go.AM.Conv.pa | apply Go.AM.Conv.agg); repeat (first | exact .nil | apply Go.AM.PureL.c .refl | apply Go.AM.PureL.c .nl | apply Go.AM.PureL.c .sn | (apply Go.AM.PureL.hs; rfl; (first | rfl | simp); (first | rfl | (simp; done) | (simp [Go.AM.take_map]; done) | exact Go.AM.take_map.symm))))))))
    (hin' : AllP (fun p => st.h p.1 = some p.2) hin := by repeat (first | exact trivial | refine ⟨rfl, ?_⟩)) (hout' : AllP (fun p => p.1 ∈ keys hin ∨ st.h p.1 = none) hout := by repeat (first | exact trivial | refine ⟨.inr rfl, ?_⟩ | refine ⟨.inl (by decide), ?_⟩ | refine ⟨.inl (by repeat (first | exact List.Mem.head _ | apply List.Mem.tail)), ?_⟩)) (hok : callOk (args ++ caps.map V.one) hin = true := by rfl) : RunK P n ops draw k st pre Q :=
  k_ (g_ ho hg (r_callv hin hout hb hop hd (blt_lt hdn) hx hf ha hin' hout' hok)) hk
/-- A call of a method that holds its receiver. -/
theorem km {x : Operand} {recv : R} (hf : ImpC P f (.one recv :: args) hin res hout)
    (hk : RunK P n ops draw (k + 1) ⟨upd st.e d (some res), updL st.h (outs hout), st.d⟩ ((⟨opr x ++ operandsR xs.toList, ids ++ keys hin ++ keys hout⟩, ⟨some (d, some res), outs hout⟩) :: pre) Q)
    (hb : bodied P f := by exact bod_ (by kernel_rfl)) (ho : ops[k]? = some o := by rfl) (hg : o.guard = none := by rfl) (hop : o.op = .call { callee := .value x, args := xs, argTypes := ts } := by rfl) (hd : o.dst = some d := by rfl) (hdn : Nat.blt d n = true := by rfl) (hx : opv st x = some (.one (.mth f recv)) := by rfl)
    (ha : ArgsV st ids xs.toList args := by repeat (first | exact .nil | (apply Go.AM.ArgsV.cons rfl; (first | exact .refl | exact .one (.c .nl .nil) | exact .one (.c .sn .nil) | exact .one (.hs rfl (by first | rfl | simp) (by first | rfl | (simp; done) | (simp [Go.AM.take_map]; done) | exact Go.AM.take_map.symm) .nil) | exact Go.AM.hs_all rfl rfl (by first | rfl | assumption | (simp; done) | (simp; omega)) (by first | rfl | assumption | (simp; done)) | ((first | apply Go.AM.Conv.pa | apply Go.AM.Conv.agg); repeat (first | exact .nil | apply Go.AM.PureL.c .refl | apply Go.AM.PureL.c .nl | apply Go.AM.PureL.c .sn | (apply Go.AM.PureL.hs; rfl; (first | rfl | simp); (first | rfl | (simp; done) | (simp [Go.AM.take_map]; done) | exact Go.AM.take_map.symm))))))))
    (hin' : AllP (fun p => st.h p.1 = some p.2) hin := by repeat (first | exact trivial | refine ⟨rfl, ?_⟩)) (hout' : AllP (fun p => p.1 ∈ keys hin ∨ st.h p.1 = none) hout := by repeat (first | exact trivial | refine ⟨.inr rfl, ?_⟩ | refine ⟨.inl (by decide), ?_⟩ | refine ⟨.inl (by repeat (first | exact List.Mem.head _ | apply List.Mem.tail)), ?_⟩)) (hok : callOk (.one recv :: args) hin = true := by rfl) : RunK P n ops draw k st pre Q :=
  k_ (g_ ho hg (r_callm hin hout hb hop hd (blt_lt hdn) hx hf ha hin' hout' hok)) hk
end
end Go.AM

/- REGIONS WITH GUARDS BY COMPUTATION: where a guard's truth is not known, both ways are run; behind the region the truths that both ways give are one truth. -/
namespace Go.AM
open Go

inductive Res where
  | leaf (st : St) (k : Nat) (pre : REs) (ob : List Prop)
  | fork (b : Bool) (x y : Res)
def Res.obs : Res → Prop
  | .leaf _ _ _ ob => conj ob
  | .fork b x y => (b = true → x.obs) ∧ (b = false → y.obs)
def Res.good (ops : Array Oper) (draw : Bool) : Res → Bool
  | .leaf _ k pre _ => Nat.beq k ops.size && (!draw || (apartGo (preds ops) pre.reverse [] && edgesOk ops))
  | .fork _ x y => x.good ops draw && y.good ops draw
def Res.all (Q : St → Prop) : Res → Prop
  | .leaf st _ _ _ => Q st
  | .fork b x y => (b = true → x.all Q) ∧ (b = false → y.all Q)

def memB : Nat → List Nat → Bool
  | _, [] => false
  | i, x :: l => bif Nat.beq i x then true else memB i l
theorem memB_iff : ∀ {i : Nat} {l : List Nat}, memB i l = true ↔ i ∈ l
  | i, [] => by simp [memB]
  | i, x :: l => by
    simp only [memB]
    cases h : Nat.beq i x with
    | true => have := Nat.eq_of_beq_eq_true h; simp [this]
    | false =>
      have : i ≠ x := fun e => by subst e; simp at h
      simp [this, memB_iff]
/-- The slot on whose truth the way depends, if it was not asked for yet. -/
def forkAt (all : List Oper) (dec : List Nat) (o : Oper) : Option Nat :=
  match (match o.guard with | some (j, _) => (dstAt all j).bind fun t => bif memB t dec then none else some t | none => none) with
  | some t => some t
  | none => match o.op with
    | .pick (.tmp t) _ _ => bif memB t dec then none else some t
    | _ => none

def axGoF (P : Program) (tr : Tr) (md nat : Bool) (n : Nat) (all : List Oper) (hs : List (Nat × Hn)) (W : List Nat) : Nat → Nat → List Oper → (Nat → Option V) → Heap → List Nat → List Nat → REs → List Prop → Option Res
  | 0, _, _, _, _, _, _, _, _ => none
  | _ + 1, k, [], e, h, d, _, pre, ob => some (.leaf ⟨e, h, d⟩ k pre ob)
  | m + 1, k, o :: os, e, h, d, dec, pre, ob => match forkAt all dec o with
    | some t => match e t with
      | some (.one (.c (.bool b))) => (axGoF P tr md nat n all hs W m k (o :: os) (upd e t (some (.one (.c (.bool true))))) h d (t :: dec) pre ob).bind fun x =>
          (axGoF P tr md nat n all hs W m k (o :: os) (upd e t (some (.one (.c (.bool false))))) h d (t :: dec) pre ob).bind fun y => some (.fork b x y)
      | _ => axGoF P tr md nat n all hs W m k (o :: os) e h d (t :: dec) pre ob
    | none => (axG P tr md nat n all hs k o ⟨e, h, d⟩ ob).bind fun (rd, f, ob1) => match f with
      | ⟨some (t, v), []⟩ => bif memB t W then axGoF P tr md nat n all hs W m (k + 1) os (upd e t v) h d dec ((rd, ⟨some (t, v), []⟩) :: pre) ob1 else none
      | _ => none

section
variable {P : Program} {n : Nat} {tr : Tr} {md nat : Bool}
theorem upd_id {e : Nat → Option V} {t : Nat} {x : Option V} (h : e t = x) : upd e t x = e := by
  funext i
  simp only [upd]
  split
  · rename_i hb; rw [Nat.eq_of_beq_eq_true hb, h]
  · rfl
theorem axGoF_ok {ops : Array Oper} {hs : List (Nat × Hn)} {W : List Nat} {draw : Bool} (hw : tr.wf = true) (hT : Tok P tr.flat) : ∀ (m k : Nat) (os : List Oper) (e : Nat → Option V) (h : Heap) (d dec : List Nat) (pre : REs) (ob : List Prop) (res : Res), os = ops.toList.drop k →
    axGoF P tr md nat n ops.toList hs W m k os e h d dec pre ob = some res → res.obs → res.good ops draw = true → ∀ Q, res.all Q → conj ob ∧ RunK P n ops draw k ⟨e, h, d⟩ pre Q := by
  intro m
  induction m with
  | zero => intro k os e h d dec pre ob res _ hg; simp [axGoF] at hg
  | succ m ih =>
    intro k os e h d dec pre ob res hos hg ho hgood Q hq
    cases os with
    | nil =>
      simp only [axGoF] at hg
      cases hg
      simp only [Res.good, Bool.and_eq_true] at hgood
      exact ⟨ho, z_ hgood.1 hgood.2 hq⟩
    | cons o os =>
      have hok : ops[k]? = some o := by
        have : (ops.toList.drop k)[0]? = some o := by rw [← hos]; rfl
        simpa using this
      have hos' : os = ops.toList.drop (k + 1) := by
        have : os = (ops.toList.drop k).tail := by rw [← hos]; rfl
        rw [this, List.tail_drop]
      simp only [axGoF] at hg
      split at hg
      · rename_i t _
        split at hg
        · rename_i b hb
          rw [Option.bind_eq_some_iff] at hg
          obtain ⟨x, hx, hg⟩ := hg
          rw [Option.bind_eq_some_iff] at hg
          obtain ⟨y, hy, hg⟩ := hg
          cases hg
          simp only [Res.obs] at ho
          simp only [Res.good, Bool.and_eq_true] at hgood
          simp only [Res.all] at hq
          cases b with
          | true =>
            rw [upd_id hb] at hx
            exact ih _ _ _ _ _ _ _ _ _ hos hx (ho.1 rfl) hgood.1 Q (hq.1 rfl)
          | false =>
            rw [upd_id hb] at hy
            exact ih _ _ _ _ _ _ _ _ _ hos hy (ho.2 rfl) hgood.2 Q (hq.2 rfl)
        · exact ih _ _ _ _ _ _ _ _ _ hos hg ho hgood Q hq
      · rw [Option.bind_eq_some_iff] at hg
        obtain ⟨⟨rd, f, ob1⟩, h1, h2⟩ := hg
        dsimp only at h2
        split at h2
        · obtain ⟨_, h3⟩ := cond_some h2
          obtain ⟨g1, g2⟩ := ih _ _ _ _ _ _ _ _ _ hos' h3 ho hgood Q hq
          obtain ⟨g3, g4⟩ := axG_ok hw hT hok h1 g1
          refine ⟨g3, k_ g4 ?_⟩
          simpa only [Eff.apply, updL_nil] using g2
        · cases h2

/-- What was there before stands, but for some slots. -/
def Res.keep (e0 : Nat → Option V) (h0 : Heap) (d0 : List Nat) (W : List Nat) : Res → Prop
  | .leaf st _ _ _ => (∀ t, t ∉ W → ∀ v, e0 t = some v → st.e t = some v) ∧ st.h = h0 ∧ st.d = d0
  | .fork b x y => (b = true → x.keep e0 h0 d0 W) ∧ (b = false → y.keep e0 h0 d0 W)
theorem axGoF_keep {all : List Oper} {hs : List (Nat × Hn)} {W : List Nat} {e0 : Nat → Option V} : ∀ (m k : Nat) (os : List Oper) (e : Nat → Option V) (h : Heap) (d dec : List Nat) (pre : REs) (ob : List Prop) (res : Res),
    axGoF P tr md nat n all hs W m k os e h d dec pre ob = some res → (∀ t, t ∉ W → ∀ v, e0 t = some v → e t = some v) → res.keep e0 h d W := by
  intro m
  induction m with
  | zero => intro k os e h d dec pre ob res hg; simp [axGoF] at hg
  | succ m ih =>
    intro k os e h d dec pre ob res hg he
    cases os with
    | nil =>
      simp only [axGoF] at hg
      cases hg
      exact ⟨he, rfl, rfl⟩
    | cons o os =>
      simp only [axGoF] at hg
      split at hg
      · rename_i t _
        split at hg
        · rename_i b hb
          rw [Option.bind_eq_some_iff] at hg
          obtain ⟨x, hx, hg⟩ := hg
          rw [Option.bind_eq_some_iff] at hg
          obtain ⟨y, hy, hg⟩ := hg
          cases hg
          refine ⟨fun hbt => ?_, fun hbf => ?_⟩
          · subst hbt
            rw [upd_id hb] at hx
            exact ih _ _ _ _ _ _ _ _ _ hx he
          · subst hbf
            rw [upd_id hb] at hy
            exact ih _ _ _ _ _ _ _ _ _ hy he
        · exact ih _ _ _ _ _ _ _ _ _ hg he
      · rw [Option.bind_eq_some_iff] at hg
        obtain ⟨⟨rd, f, ob1⟩, h1, h2⟩ := hg
        dsimp only at h2
        split at h2
        · obtain ⟨hm, h3⟩ := cond_some h2
          refine ih _ _ _ _ _ _ _ _ _ h3 fun s hs u hu => ?_
          have hne : s ≠ _ := fun e => hs (by rw [e]; exact memB_iff.1 hm)
          rw [upd_ne _ _ _ hne]
          exact he s hs u hu
        · cases h2

/-- The truth in a slot, whichever way. -/
def Res.boolAt (w : Nat) : Res → Option Bool
  | .leaf st _ _ _ => match st.e w with
    | some (.one (.c (.bool x))) => some x
    | _ => none
  | .fork b x y => (x.boolAt w).bind fun p => (y.boolAt w).bind fun q => some (bif b then p else q)
theorem Res.boolAt_all {w : Nat} : ∀ {r : Res} {x : Bool}, r.boolAt w = some x → r.all fun st => st.e w = some (.one (.c (.bool x)))
  | .leaf st _ _ _, x, h => by
    simp only [Res.boolAt] at h
    split at h
    · rename_i hx; cases h; exact hx
    · cases h
  | .fork b p q, x, h => by
    simp only [Res.boolAt, Option.bind_eq_some_iff] at h
    obtain ⟨u, hu, v, hv, h⟩ := h
    cases h
    refine ⟨fun hb => ?_, fun hb => ?_⟩
    · subst hb; exact Res.boolAt_all hu
    · subst hb; exact Res.boolAt_all hv
def mergeL (res : Res) : List Nat → Option (List (Nat × Option V))
  | [] => some []
  | w :: ws => (mergeL res ws).bind fun l => match res.boolAt w with
    | some x => some ((w, some (.one (.c (.bool x)))) :: l)
    | none => some ((w, none) :: l)
def updAll (e : Nat → Option V) : List (Nat × Option V) → Nat → Option V
  | [], t => e t
  | (w, v) :: l, t => bif Nat.beq t w then v else updAll e l t
theorem mergeL_at {res : Res} {e0 : Nat → Option V} {t : Nat} : ∀ {W : List Nat} {L : List (Nat × Option V)}, mergeL res W = some L → updAll e0 L t = if t ∈ W then (res.boolAt t).map (fun x => V.one (.c (.bool x))) else e0 t
  | [], L, h => by
    simp only [mergeL] at h
    cases h
    simp [updAll]
  | w :: ws, L, h => by
    simp only [mergeL, Option.bind_eq_some_iff] at h
    obtain ⟨l, hl, h⟩ := h
    have ih := mergeL_at (e0 := e0) (t := t) hl
    have hL : L = (w, (res.boolAt w).map (fun x => V.one (.c (.bool x)))) :: l := by
      split at h
      · rename_i x hx; cases h; rw [hx]; rfl
      · rename_i hx; cases h; rw [hx]; rfl
    subst hL
    simp only [updAll]
    by_cases htw : t = w
    · subst htw
      simp
    · have hb : Nat.beq t w = false := by
        cases hb : Nat.beq t w with
        | true => exact absurd (Nat.eq_of_beq_eq_true hb) htw
        | false => rfl
      rw [hb, cond_false, ih]
      simp [htw]
theorem Res.all_mono {Q Q' : St → Prop} (h : ∀ st, Q st → Q' st) : ∀ {r : Res}, r.all Q → r.all Q'
  | .leaf st _ _ _, k => h st k
  | .fork _ _ _, k => ⟨fun hb => Res.all_mono h (k.1 hb), fun hb => Res.all_mono h (k.2 hb)⟩
theorem Res.all_forall {α : Type} {Q : α → St → Prop} : ∀ {r : Res}, (∀ a, r.all (Q a)) → r.all fun st => ∀ a, Q a st
  | .leaf _ _ _ _, k => fun a => k a
  | .fork _ _ _, k => ⟨fun hb => Res.all_forall fun a => (k a).1 hb, fun hb => Res.all_forall fun a => (k a).2 hb⟩
theorem Res.all_and {Q Q' : St → Prop} : ∀ {r : Res}, r.all Q → r.all Q' → r.all fun st => Q st ∧ Q' st
  | .leaf _ _ _ _, h, k => ⟨h, k⟩
  | .fork _ _ _, h, k => ⟨fun hb => Res.all_and (h.1 hb) (k.1 hb), fun hb => Res.all_and (h.2 hb) (k.2 hb)⟩
theorem Res.keep_at {e0 : Nat → Option V} {h0 : Heap} {d0 W : List Nat} {t : Nat} {v : V} (ht : t ∉ W) (hv : e0 t = some v) : ∀ {r : Res}, r.keep e0 h0 d0 W → r.all fun st => st.e t = some v
  | .leaf _ _ _ _, k => k.1 t ht v hv
  | .fork _ _ _, k => ⟨fun hb => Res.keep_at ht hv (k.1 hb), fun hb => Res.keep_at ht hv (k.2 hb)⟩
theorem Res.keep_hd {e0 : Nat → Option V} {h0 : Heap} {d0 W : List Nat} : ∀ {r : Res}, r.keep e0 h0 d0 W → r.all fun st => st.h = h0 ∧ st.d = d0
  | .leaf _ _ _ _, k => k.2
  | .fork _ _ _, k => ⟨fun hb => Res.keep_hd (k.1 hb), fun hb => Res.keep_hd (k.2 hb)⟩
theorem merge_ok {res : Res} {e0 : Nat → Option V} {h0 : Heap} {d0 W : List Nat} {L : List (Nat × Option V)} (h : mergeL res W = some L) (hk : res.keep e0 h0 d0 W) : res.all fun st => (∀ p : Nat × V, updAll e0 L p.1 = some p.2 → st.e p.1 = some p.2) ∧ (st.h = h0 ∧ st.d = d0) := by
  refine Res.all_and (Res.all_forall fun p => ?_) (Res.keep_hd hk)
  by_cases hv : updAll e0 L p.1 = some p.2
  · refine Res.all_mono (fun st h _ => h) (?_ : res.all fun st => st.e p.1 = some p.2)
    rw [mergeL_at h] at hv
    by_cases ht : p.1 ∈ W
    · rw [if_pos ht, Option.map_eq_some_iff] at hv
      obtain ⟨x, hx, hv⟩ := hv
      rw [← hv]
      exact Res.boolAt_all hx
    · rw [if_neg ht] at hv
      exact Res.keep_at ht hv hk
  · have : ∀ r : Res, r.all fun st => updAll e0 L p.1 = some p.2 → st.e p.1 = some p.2 := by
      intro r
      induction r with
      | leaf st k pre ob => exact fun h => absurd h hv
      | fork b x y ihx ihy => exact ⟨fun _ => ihx, fun _ => ihy⟩
    exact this res
theorem Sub.weak {kf : List Nat} {st1 st2 : St} (he : ∀ p : Nat × V, st2.e p.1 = some p.2 → st1.e p.1 = some p.2) (hh : st1.h = st2.h) (hd : st1.d = st2.d) : Sub kf st2 st1 := by
  intro G n S μ a w _ hs
  refine ⟨S, μ, ⟨?_, hs.size, ?_, fun t v e => ?_⟩⟩
  · rw [← hh]; exact hs.inv
  · rw [← hh, ← hd]; exact hs.defers
  · rw [← hh]; exact hs.env t v (he (t, v) e)
def dstL : List Oper → List Nat
  | [] => []
  | o :: os => match o.dst with
    | some t => t :: dstL os
    | none => dstL os

/-- A whole region, of which the first m operations have no guard. -/
theorem awp_axF {ro : Option Nat} {ops : Array Oper} {draw : Bool} {st : St} {e1 : Nat → Option V} {h1 : Heap} {d1 : List Nat} {k1 : Nat} {pre1 : REs} {ob1 : List Prop} {res : Res} {L : List (Nat × Option V)} {hs : List (Nat × Hn)} {kf : List Nat} {id : Nat} {Q : Exit → St → Prop} (m : Nat) (hm : P.follows .mixedOrders = true) (hw : tr.wf = true) (hT : Tok P tr.flat)
    (g1 : axGo P tr md nat n ops.toList hs m 0 ops.toList st.e st.h st.d [] [] = some (⟨e1, h1, d1⟩, k1, pre1, ob1))
    (g2 : axGoF P tr md nat n ops.toList hs (dstL (ops.toList.drop k1)) 1000 k1 (ops.toList.drop k1) e1 h1 d1 [] pre1 ob1 = some res)
    (g3 : mergeL res (dstL (ops.toList.drop k1)) = some L) (ho : res.obs) (hg : res.good ops draw = true) (hq : Q .normal ⟨updAll e1 L, h1, d1⟩) : AWp ro P n kf (.region id ops draw) st Q := by
  have hk := axGoF_keep (P := P) (tr := tr) (md := md) (nat := nat) (n := n) (e0 := e1) _ _ _ _ _ _ _ _ _ _ g2 (fun _ _ _ h => h)
  have hmo := merge_ok g3 hk
  have hall : res.all fun st' => Sub kf ⟨updAll e1 L, h1, d1⟩ st' := Res.all_mono (fun st h => Sub.weak h.1 h.2.1 h.2.2) hmo
  obtain ⟨hob, hrun⟩ := axGoF_ok (draw := draw) hw hT _ _ _ _ _ _ _ _ _ _ rfl g2 ho hg _ hall
  exact awp_rgw _ hm ((axGo_ok hw hT m 0 _ st.e st.h st.d [] [] _ k1 pre1 ob1 rfl g1 hob).2 _ hrun) hq
end
end Go.AM

/- SHORTER: a smaller state, what is returned, with what is plain as automatic arguments. -/
namespace Go.AM
open Go

theorem Ole.mapE {σ : Nat → Nat} {agg : Bool} {l l' : List (List C)} (h : l = l') : Ole σ (.map agg l) (.map agg l') := by subst h; exact .map
theorem Ole.arrS {σ : Nat → Nat} {te es fz : Nat} {l l' : List (List C)} (h : l = l') : Ole σ (.arr te es l fz) (.arr te es l' fz) := by subst h; exact .arr
theorem hs_ren {id off a b a' b' : Nat} (h : a = a') (k : b = b') : some (V.one (.hs id off a b)) = some (V.ren (fun i => i) (V.one (.hs id off a' b'))) := by subst h; subst k; rfl
/-- A smaller state: the objects are as they were. -/
theorem sl {kf : List Nat} {st1 : St} {el : List (Nat × V)} {hl : List (Nat × AObj)}
    (he : AllP (fun p => st1.e p.1 = some (p.2.ren (fun i => i))) el := by repeat (first | exact trivial | refine ⟨by first | rfl | exact Go.AM.hs_ren (by first | (simp; done) | (simp; omega)) (by first | (simp; done) | (simp; omega)), ?_⟩))
    (hh : AllP (fun p => ∃ o, st1.h p.1 = some o ∧ Ole (fun i => i) o p.2) hl := by repeat (first | exact trivial | refine ⟨⟨_, rfl, by first | exact Go.AM.Ole.arr | exact Go.AM.Ole.var rfl | exact Go.AM.Ole.map | exact Go.AM.Ole.rarr rfl | exact Go.AM.Ole.arr1 | exact Go.AM.Ole.arrS (by first | assumption | (simp; done) | (simp; rfl) | (simp; omega)) | exact Go.AM.Ole.arrE (by first | assumption | (simp; done) | (simp; rfl) | (simp; omega)) | exact Go.AM.Ole.var (by first | (simp [Go.AM.R.renL, Go.AM.R.ren]; done) | (simp [Go.AM.R.renL, Go.AM.R.ren]; omega)) | exact Go.AM.Ole.mapE (by first | assumption | (simp; done) | (simp; rfl) | (simp; omega))⟩, ?_⟩))
    (hok : (mkOk kf (fun i => i) el hl && eqL [] st1.d) = true := by rfl) : Sub kf (mk el hl) st1 := Sub.list (fun i => i) he hh hok

theorem take_all {α : Type} {l : List α} {n : Nat} (h : n = l.length) : l = (l.drop 0).take n := by rw [h, List.drop_zero, List.take_length]
theorem ltD {i n : Nat} {l : List (List C)} (h : decide ((i : Int) < (l.length : Int)) = true) (e : l.length = n) : i < n := by
  have : (i : Int) < (l.length : Int) := by simpa using h
  omega
theorem geD {i n : Nat} {l : List (List C)} (h : decide ((i : Int) < (l.length : Int)) = false) (e : l.length = n) (hi : i ≤ n) : i = n := by
  have : ¬ (i : Int) < (l.length : Int) := by simpa using h
  omega
theorem refsH_cons {k : Nat} {o : AObj} {l : List (Nat × AObj)} : refsH ((k, o) :: l) = o.refs ++ refsH l := rfl
theorem sub_obj {k : Nat} {o o' : AObj} {post : List (Nat × AObj)} {K : List Nat} (hr : ∀ x ∈ o.refs, x ∈ o'.refs) (h : subset (refsH ((k, o') :: post)) K = true) : subset (refsH ((k, o) :: post)) K = true := by
  rw [refsH_cons] at h ⊢
  simp only [subset, List.all_eq_true, List.mem_append] at h ⊢
  intro x hx
  rcases hx with hx | hx
  · exact h x (.inl (hr x hx))
  · exact h x (.inr hx)
theorem mkOk_obj {kf : List Nat} {el : List (Nat × V)} {k : Nat} {o o' : AObj} {post : List (Nat × AObj)} (hr : ∀ x ∈ o.refs, x ∈ o'.refs) (h : mkOk kf (fun i => i) el ((k, o') :: post) = true) : mkOk kf (fun i => i) el ((k, o) :: post) = true := by
  simp only [mkOk, Bool.and_eq_true] at h ⊢
  obtain ⟨⟨⟨⟨h1, h2⟩, h3⟩, h4⟩, h5⟩ := h
  exact ⟨⟨⟨⟨h1, sub_obj hr h2⟩, h3⟩, h4⟩, h5⟩
theorem Ole.rarrS {te es : Nat} {l l' : List (List R)} (h : l = l') : Ole (fun i => i) (.rarr te es l) (.rarr te es l') := by subst h; exact .rarr (renR_id _).symm
/-- Likewise, where the first object's references are not written out. -/
theorem slR {k : Nat} {o : AObj} {kf : List Nat} {st1 : St} {el : List (Nat × V)} {hl : List (Nat × AObj)} (o' : AObj) (hr : ∀ x ∈ o.refs, x ∈ o'.refs) (h0 : ∃ oo, st1.h k = some oo ∧ Ole (fun i => i) oo o)
    (he : AllP (fun p => st1.e p.1 = some (p.2.ren (fun i => i))) el := by repeat (first | exact trivial | refine ⟨by first | rfl | exact Go.AM.hs_ren (by first | (simp; done) | (simp; omega)) (by first | (simp; done) | (simp; omega)), ?_⟩))
    (hh : AllP (fun p => ∃ o, st1.h p.1 = some o ∧ Ole (fun i => i) o p.2) hl := by repeat (first | exact trivial | refine ⟨⟨_, rfl, by first | exact Go.AM.Ole.arr | exact Go.AM.Ole.var rfl | exact Go.AM.Ole.map | exact Go.AM.Ole.rarr rfl | exact Go.AM.Ole.arr1 | exact Go.AM.Ole.arrS (by first | assumption | (simp; done) | (simp; rfl) | (simp; omega)) | exact Go.AM.Ole.arrE (by first | assumption | (simp; done) | (simp; rfl) | (simp; omega)) | exact Go.AM.Ole.var (by first | (simp [Go.AM.R.renL, Go.AM.R.ren]; done) | (simp [Go.AM.R.renL, Go.AM.R.ren]; omega)) | exact Go.AM.Ole.mapE (by first | assumption | (simp; done) | (simp; rfl) | (simp; omega))⟩, ?_⟩))
    (hok : (mkOk kf (fun i => i) el ((k, o') :: hl) && eqL [] st1.d) = true := by rfl) : Sub kf (mk el ((k, o) :: hl)) st1 := by
  rw [Bool.and_eq_true] at hok
  exact Sub.list (fun i => i) he ⟨h0, hh⟩ (by rw [Bool.and_eq_true]; exact ⟨mkOk_obj hr hok.1, hok.2⟩)
section
variable {T : TT} {fn : Func} {st : St} {hin hout : List (Nat × AObj)} {res : V}
/-- What is returned: one value out of a slot. -/
theorem rtT {t : Nat} {v : V} {ids : List Nat} (hr : fn.results.toList = [.tmp t] := by rfl) (hv : st.e t = some v := by rfl)
    (hc : Conv st.h ids v res := by first | exact .refl | exact .one (.c .nl .nil) | ((first | apply Go.AM.Conv.pa | apply Go.AM.Conv.agg); repeat (first | exact .nil | apply Go.AM.PureL.c .refl | apply Go.AM.PureL.c .nl | (apply Go.AM.PureL.hs; rfl; (first | rfl | assumption | simp); (first | rfl | exact Go.AM.take_all (by first | assumption | rfl | (simp; done)) | exact Go.AM.take_map.symm)))))
    (ho : AllP (fun p => ∃ o, st.h p.1 = some o ∧ Ole (fun i => i) o p.2) hout := by repeat (first | exact trivial | refine ⟨⟨_, rfl, by first | exact Go.AM.Ole.arr | exact Go.AM.Ole.var rfl | exact Go.AM.Ole.map | exact Go.AM.Ole.rarr rfl | exact Go.AM.Ole.arr1 | exact Go.AM.Ole.arrS (by first | assumption | (simp; done) | (simp; rfl) | (simp; omega)) | exact Go.AM.Ole.arrE (by first | assumption | (simp; done) | (simp; rfl) | (simp; omega)) | exact Go.AM.Ole.var (by first | (simp [Go.AM.R.renL, Go.AM.R.ren]; done) | (simp [Go.AM.R.renL, Go.AM.R.ren]; omega)) | exact Go.AM.Ole.mapE (by first | assumption | (simp; done) | (simp; rfl) | (simp; omega))⟩, ?_⟩))
    (hok : (subset res.refs (keys hout) && subset (refsH hout) (keys hout) && distinct (keys hout) && subset (keys hin) (keys hout) && (hin.all fun p => p.2.plain) && (hout.all fun p => p.2.plain)) = true := by rfl) : (Exit.ret = .normal ∨ Exit.ret = .ret) ∧ Fin T fn st hin res hout :=
  ⟨.inr rfl, ⟨[v], [res], by rw [hr]; exact .tmp hv .nil, .cons hc .nil, rfl⟩, ho, hok⟩
/-- One value out of a variable. -/
theorem rtC {tr : Tr} {a t : Nat} {i : TI} {id off tv : Nat} {cells : List R} {v : V} {ids : List Nat} (hw : tr.wf = true) (hr : fn.results.toList = [.cell a t] := by rfl) (hi : tr.get t = some i := by rfl) (ha : st.e a = some (.one (.vp id off)) := by rfl) (hh : st.h id = some (.var tv cells) := by rfl) (hb : Nat.ble (off + i.size) cells.length = true := by rfl) (hv : loadV i ((cells.drop off).take i.size) = some v := by rfl)
    (hc : Conv st.h ids v res := by first | exact .refl | exact .one (.c .nl .nil) | ((first | apply Go.AM.Conv.pa | apply Go.AM.Conv.agg); repeat (first | exact .nil | apply Go.AM.PureL.c .refl | apply Go.AM.PureL.c .nl | (apply Go.AM.PureL.hs; rfl; (first | rfl | assumption | simp); (first | rfl | exact Go.AM.take_all (by first | assumption | rfl | (simp; done)) | exact Go.AM.take_map.symm)))))
    (ho : AllP (fun p => ∃ o, st.h p.1 = some o ∧ Ole (fun i => i) o p.2) hout := by repeat (first | exact trivial | refine ⟨⟨_, rfl, by first | exact Go.AM.Ole.arr | exact Go.AM.Ole.var rfl | exact Go.AM.Ole.map | exact Go.AM.Ole.rarr rfl | exact Go.AM.Ole.arr1 | exact Go.AM.Ole.arrS (by first | assumption | (simp; done) | (simp; rfl) | (simp; omega)) | exact Go.AM.Ole.arrE (by first | assumption | (simp; done) | (simp; rfl) | (simp; omega)) | exact Go.AM.Ole.var (by first | (simp [Go.AM.R.renL, Go.AM.R.ren]; done) | (simp [Go.AM.R.renL, Go.AM.R.ren]; omega)) | exact Go.AM.Ole.mapE (by first | assumption | (simp; done) | (simp; rfl) | (simp; omega))⟩, ?_⟩))
    (hok : (subset res.refs (keys hout) && subset (refsH hout) (keys hout) && distinct (keys hout) && subset (keys hin) (keys hout) && (hin.all fun p => p.2.plain) && (hout.all fun p => p.2.plain)) = true := by rfl) : (Exit.ret = .normal ∨ Exit.ret = .ret) ∧ Fin tr.flat fn st hin res hout :=
  ⟨.inr rfl, ⟨[v], [res], by rw [hr]; exact .cell ha (Tr.get_ok hw hi) hh hb hv .nil, .cons hc .nil, rfl⟩, ho, hok⟩
end
end Go.AM
namespace Go.AM
open Go
theorem look_upd {id : Nat} {o : AObj} {hin : List (Nat × AObj)} : look ((id, o) :: hin) = upd (look hin) id (some o) := by
  funext i
  by_cases h : i = id
  · subst h; rw [upd_same, look_cons_same]
  · rw [upd_ne _ _ _ h, look_cons_ne h]
theorem Inv.emptyZ {G : Ctx} {S : Sto} {μ : Mu} {H : Heap} {w : World} {id : Nat} (te es z : Nat) (h : Inv G S μ H w) (hid : H id = none) : Inv G S (upd μ id none) (upd H id (some (.arr te es [] z))) w ∧ Evolve S μ H S (upd μ id none) (upd H id (some (.arr te es [] z))) := by
  have hE : Evolve S μ H S (upd μ id none) (upd H id (some (.arr te es [] z))) := evolve_new hid _ _
  refine ⟨⟨h.holds, fun j x hj => ?_, fun i j x x' b c c' hi hj hm hm' => ?_, fun i x b c hi hm => ?_, h.frame, h.sle, h.sto, h.evo.trans hE⟩, hE⟩
  · by_cases hne : j = id
    · subst hne
      rw [upd_same] at hj; cases hj
      exact ⟨by simp, .inl ⟨upd_same _ _ _, rfl⟩⟩
    · rw [upd_ne _ _ _ hne] at hj
      exact (h.obj j x hj).evolve hE (upd_ne _ _ _ hne) fun _ _ _ => ⟨rfl, fun _ => rfl, rfl⟩
  · have h1 : i ≠ id := fun e => by subst e; rw [upd_same] at hm; cases hm
    have h2 : j ≠ id := fun e => by subst e; rw [upd_same] at hm'; cases hm'
    rw [upd_ne _ _ _ h1] at hi hm
    rw [upd_ne _ _ _ h2] at hj hm'
    exact h.inj i j x x' b c c' hi hj hm hm'
  · have h1 : i ≠ id := fun e => by subst e; rw [upd_same] at hm; cases hm
    rw [upd_ne _ _ _ h1] at hi hm
    exact h.own i x b c hi hm
/-- A contract for an array of one's own, when nil is handed on. -/
theorem ImpC.nilArg {P : Program} {f : FuncId} {pre post : List V} {hin hout : List (Nat × AObj)} {res : V} {id te es z : Nat} (h : ImpC P f (pre ++ .one (.hs id 0 0 0) :: post) ((id, .arr te es [] z) :: hin) res hout) (hid : look hin id = none) : ImpC P f (pre ++ .one (.c .nl) :: post) hin res hout := by
  intro S μ w vals hI hv
  obtain ⟨hi, hE⟩ := hI.emptyZ te es z hid
  have hF : Foot (upd μ id none) (look ((id, .arr te es [] z) :: hin)) = Foot μ (look hin) := by
    funext b
    rw [look_upd]
    refine propext ⟨?_, ?_⟩
    · rintro ⟨j, o, c, h1, h2⟩
      by_cases hj : j = id
      · subst hj; rw [upd_same] at h2; cases h2
      · rw [upd_ne _ _ _ hj] at h1 h2; exact ⟨j, o, c, h1, h2⟩
    · rintro ⟨j, o, c, h1, h2⟩
      have hj : j ≠ id := fun e => by subst e; rw [hid] at h1; cases h1
      exact ⟨j, o, c, by rw [upd_ne _ _ _ hj]; exact h1, by rw [upd_ne _ _ _ hj]; exact h2⟩
  have hi' : Inv ⟨w, S, Foot (upd μ id none) (look ((id, .arr te es [] z) :: hin)), upd μ id none, look ((id, .arr te es [] z) :: hin)⟩ S (upd μ id none) (look ((id, .arr te es [] z) :: hin)) w := by
    rw [hF, look_upd]
    exact ⟨hi.holds, hi.obj, hi.inj, hi.own, hi.frame, hi.sle, hi.sto, Evolve.refl _ _ _⟩
  have hv' : VRelL S (upd μ id none) (look ((id, .arr te es [] z) :: hin)) (pre ++ .one (.hs id 0 0 0) :: post) vals := by
    rw [look_upd]
    have key : ∀ (l : List V) (us : List Value), VRelL S μ (look hin) (l ++ .one (.c .nl) :: post) us → VRelL S (upd μ id none) (upd (look hin) id (some (.arr te es [] z))) (l ++ .one (.hs id 0 0 0) :: post) us := by
      intro l
      induction l with
      | nil =>
        intro us hu
        simp only [List.nil_append, VRelL] at hu ⊢
        obtain ⟨u, us', h1, h2, h3⟩ := hu
        refine ⟨u, us', h1, ?_, VRelL.evolve hE _ _ h3⟩
        simp only [VRel, RRel, Rep] at h2 ⊢
        exact ⟨⟨_, _, _, h2⟩, .inr ⟨te, es, [], z, upd_same _ _ _, Nat.le_refl _, fun _ => ⟨Nat.le_refl _, .inl ⟨upd_same _ _ _, rfl, h2⟩⟩⟩⟩
      | cons x l ih =>
        intro us hu
        simp only [List.cons_append, VRelL] at hu ⊢
        obtain ⟨u, us', h1, h2, h3⟩ := hu
        exact ⟨u, us', h1, VRel.evolve hE _ _ h2, ih us' h3⟩
    exact key pre vals hv
  refine Calls.mono (h S (upd μ id none) w vals hi' hv') ?_
  rintro e w' ⟨S', μ', v, h1, h2, h3⟩
  refine ⟨S', μ', v, h1, ?_, h3⟩
  rw [hF] at h2
  refine ⟨h2.holds, h2.obj, h2.inj, h2.own, h2.frame, h2.sle, h2.sto, hE.trans ?_⟩
  have := h2.evo
  rwa [look_upd] at this
/-- What is returned may be said in a smaller state. -/
theorem ImpC.sub {P : Program} {f : FuncId} {args : List V} {hin hout hout' : List (Nat × AObj)} {res res' : V} (h : ImpC P f args hin res hout) (hs : Sub (keys hin) (mk [(0, res')] hout') (mk [(0, res)] hout)) : ImpC P f args hin res' hout' := by
  intro S μ w vals hI hv
  refine Calls.mono (h S μ w vals hI hv) ?_
  rintro e w' ⟨S', μ', v, h1, h2, h3⟩
  have hkeep : Ctx.keeps ⟨w, S, Foot μ (look hin), μ, look hin⟩ (keys hin) := fun id o ho => List.mem_map.2 ⟨_, look_mem ho, rfl⟩
  obtain ⟨S2, μ2, g⟩ := hs _ 1 S' μ' ⟨#[v], []⟩ w' hkeep ⟨h2, rfl, rfl, fun t y e => by
    simp only [mk, look] at e
    split at e
    · rename_i hb
      cases e
      rw [Nat.eq_of_beq_eq_true hb]
      exact h3
    · cases e⟩
  exact ⟨S2, μ2, v, h1, g.inv, g.env 0 res' rfl⟩
/-- An array of one's own that is returned, as plain data. -/
theorem ImpC.plain {P : Program} {f : FuncId} {args : List V} {id te es n : Nat} {rows : List (List C)} {fz : Nat} (h : ImpC P f args [] (.one (.hs id 0 n n)) [(id, .arr te es rows fz)]) (hn : n = rows.length) : ImpC P f args [] (.one (.c (.sl es rows))) [] := by
  refine h.sub ?_
  have h1 : Sub [] ⟨look [(0, V.one (.hs id 0 n n))], upd (look [(id, AObj.arr te es rows fz)]) id (some (.arr te es rows 2)), []⟩ (mk [(0, .one (.hs id 0 n n))] [(id, .arr te es rows fz)]) := Sub.freeze (st := mk [(0, .one (.hs id 0 n n))] [(id, .arr te es rows fz)]) look_cons_same
  refine Sub.trans (Sub.trans ?_ (Sub.conv (t := 0) (v := .one (.hs id 0 n n)) rfl (hs_all (upd_same _ _ _) rfl hn rfl))) h1
  exact Sub.list (fun i => i) ⟨rfl, trivial⟩ trivial rfl
/-- A variable's cells as plain data. -/
theorem Sub.varPure {kf : List Nat} {st : St} {x tv : Nat} {cells : List R} {ids : List Nat} {cs : List C} (h : st.h x = some (.var tv cells)) (hp : PureL st.h ids cells cs) : Sub kf ⟨st.e, upd st.h x (some (.var tv (cs.map R.c))), st.d⟩ st := by
  intro G n S μ a w _ hs
  have hi := hs.inv
  obtain ⟨b, vs, g1, g2, g3, g4⟩ := hi.obj x _ h
  have hE2 : Evolve S μ st.h S μ (upd st.h x (some (.var tv (cs.map R.c)))) := ⟨S.le_refl, fun j y hj => by
    by_cases hjx : j = x
    · subst hjx
      rw [h] at hj; cases hj
      exact ⟨_, upd_same _ _ _, by simp [AObj.succ]⟩
    · exact ⟨y, by rw [upd_ne _ _ _ hjx]; exact hj, y.succ_refl rfl⟩⟩
  have hold : ∀ j y, upd st.h x (some (.var tv (cs.map R.c))) j = some y → ∃ y', st.h j = some y' := fun j y hj => by
    by_cases hjx : j = x
    · subst hjx; exact ⟨_, h⟩
    · rw [upd_ne _ _ _ hjx] at hj; exact ⟨_, hj⟩
  refine ⟨S, μ, ⟨⟨hi.holds, fun j y hj => ?_, fun i j y y' b c c' hi' hj hm hm' => ?_, fun i y b c hi' hm => ?_, hi.frame, hi.sle, hi.sto, hi.evo.trans hE2⟩, hs.size, hs.defers.evolve hE2, fun s v e => VRel.evolve hE2 v _ (hs.env s v e)⟩⟩
  · by_cases hjx : j = x
    · subst hjx
      have hj' : some (AObj.var tv (cs.map R.c)) = some y := by rw [← hj]; exact (upd_same _ _ _).symm
      cases hj'
      exact ⟨b, vs, g1, g2, (hp.rel (fun _ _ => rfl) hi.obj g3).toR, g4⟩
    · have hj' : st.h j = some y := by rw [← hj]; exact (upd_ne _ _ _ hjx).symm
      exact (hi.obj j y hj').evolve hE2 rfl fun _ _ _ => ⟨rfl, fun _ => rfl, rfl⟩
  · obtain ⟨_, h1⟩ := hold _ _ hi'
    obtain ⟨_, h2⟩ := hold _ _ hj
    exact hi.inj i j _ _ b c c' h1 h2 hm hm'
  · obtain ⟨_, h1⟩ := hold _ _ hi'
    exact hi.own i _ b c h1 hm
/-- Likewise, as it is meant. -/
theorem vp {kf : List Nat} {st : St} (x : Nat) {tv : Nat} {cells : List R} (cs : List C) {ids : List Nat} (h : st.h x = some (.var tv cells) := by rfl)
    (hp : PureL st.h ids cells cs := by repeat (first | exact .nil | apply Go.AM.PureL.c .refl | apply Go.AM.PureL.c .nl | apply Go.AM.PureL.c .sn | (apply Go.AM.PureL.hs; rfl; (first | rfl | assumption | (simp; done) | (simp; omega)); (first | rfl | exact Go.AM.take_all (by first | assumption | rfl | (simp; done) | (simp; omega)) | exact Go.AM.take_map.symm)))) : Sub kf ⟨st.e, upd st.h x (some (.var tv (cs.map R.c))), st.d⟩ st := Sub.varPure h hp
/-- A slot's array as plain data. -/
theorem cv {kf : List Nat} {st : St} (t : Nat) {id te es n sz : Nat} {l : List (List C)} (l' : List (List C)) (h : st.e t = some (.one (.hs id 0 n sz)) := by rfl) (hh : st.h id = some (.arr te es l 2) := by rfl) (h1 : n = l.length := by first | rfl | assumption | (simp; done) | (simp; omega)) (h2 : sz = l.length := by first | rfl | assumption | (simp; done) | (simp; omega)) (h3 : l = l' := by first | rfl | assumption | (simp; done)) : Sub kf ⟨upd st.e t (some (.one (.c (.sl es l')))), st.h, st.d⟩ st := by
  subst h3
  exact Sub.conv h (.one (.hs hh h2 (by rw [h1, List.drop_zero, List.take_length]) .nil))
/-- The end, where the first object's references are not written out. -/
theorem finR {T : TT} {fn : Func} {st : St} {hin hout : List (Nat × AObj)} {k : Nat} {o : AObj} {res : V} (o' : AObj) (hr : ∀ x ∈ o.refs, x ∈ o'.refs) (hex : ∃ vs vs', ResV T st fn.results.toList vs ∧ Convs st.h vs vs' ∧ tupV vs' = res) (ho : AllP (fun p => ∃ o, st.h p.1 = some o ∧ Ole (fun i => i) o p.2) ((k, o) :: hout)) (hp : o.plain = true)
    (hok : (subset res.refs (keys ((k, o') :: hout)) && subset (refsH ((k, o') :: hout)) (keys ((k, o') :: hout)) && distinct (keys ((k, o') :: hout)) && subset (keys hin) (keys ((k, o') :: hout)) && (hin.all fun p => p.2.plain) && (((k, o') :: hout).all fun p => p.2.plain)) = true) : Fin T fn st hin res ((k, o) :: hout) := by
  refine ⟨hex, ho, ?_⟩
  simp only [Bool.and_eq_true] at hok ⊢
  obtain ⟨⟨⟨⟨⟨k1, k2⟩, k3⟩, k4⟩, k5⟩, k6⟩ := hok
  refine ⟨⟨⟨⟨⟨k1, sub_obj hr k2⟩, k3⟩, k4⟩, k5⟩, ?_⟩
  simp only [List.all_cons, Bool.and_eq_true] at k6 ⊢
  exact ⟨hp, k6.2⟩
end Go.AM

/- THE TABLE OF TYPES OF THIS TRANSLATION, as its dump has them, held against the program by the kernel. -/
namespace Go.Proofs.YtojcjjjpniimiaaDoor
open Go Go.AM
def tr : Tr :=
 .node 83
  (.node 41
   (.node 20
    (.node 10
     (.node 5
      (.node 2
       (.node 1
        (.leaf none)
        (.leaf (some ⟨.fn, 1, 8, [.zv 1]⟩)))
       (.node 1
        (.leaf (some ⟨.int .i64, 1, 8, [.int .i64 0]⟩))
        (.node 1
         (.leaf (some ⟨.int .i64, 1, 8, [.int .i64 0]⟩))
         (.leaf (some ⟨.bool, 1, 1, [.bool false]⟩)))))
      (.node 2
       (.node 1
        (.leaf (some ⟨.int .u8, 1, 1, [.int .u8 0]⟩))
        (.leaf (some ⟨.int .u8, 1, 1, [.int .u8 0]⟩)))
       (.node 1
        (.leaf (some ⟨.st [(0, 2), (1, 3), (2, 4), (3, 6)], 4, 24, [.int .i64 0, .int .i64 0, .bool false, .int .u8 0]⟩))
        (.node 1
         (.leaf (some ⟨.st [(0, 2), (1, 3), (2, 4), (3, 6)], 4, 24, [.int .i64 0, .int .i64 0, .bool false, .int .u8 0]⟩))
         (.leaf (some ⟨.str, 1, 16, [.str []]⟩))))))
     (.node 5
      (.node 2
       (.node 1
        (.leaf (some ⟨.str, 1, 16, [.str []]⟩))
        (.leaf (some ⟨.str, 1, 16, [.str []]⟩)))
       (.node 1
        (.leaf (some ⟨.int .u64, 1, 8, [.int .u64 0]⟩))
        (.node 1
         (.leaf (some ⟨.st [(0, 9), (1, 12)], 2, 24, [.str [], .int .u64 0]⟩))
         (.leaf (some ⟨.st [(0, 9), (1, 12)], 2, 24, [.str [], .int .u64 0]⟩)))))
      (.node 2
       (.node 1
        (.leaf (some ⟨.pt 153, 1, 8, [.np]⟩))
        (.leaf (some ⟨.pt 156, 1, 8, [.np]⟩)))
       (.node 1
        (.leaf (some ⟨.pt 164, 1, 8, [.np]⟩))
        (.node 1
         (.leaf (some ⟨.st [(0, 17)], 1, 8, [.np]⟩))
         (.leaf (some ⟨.st [(0, 17)], 1, 8, [.np]⟩)))))))
    (.node 10
     (.node 5
      (.node 2
       (.node 1
        (.leaf none)
        (.leaf (some ⟨.int .i32, 1, 4, [.int .i32 0]⟩)))
       (.node 1
        (.leaf (some ⟨.sl 23, 1, 24, [.nl]⟩))
        (.node 1
         (.leaf (some ⟨.sl 3, 1, 24, [.nl]⟩))
         (.leaf (some ⟨.sl 40, 1, 24, [.nl]⟩)))))
      (.node 2
       (.node 1
        (.leaf (some ⟨.fn, 1, 8, [.zv 1]⟩))
        (.leaf (some ⟨.sl 46, 1, 24, [.nl]⟩)))
       (.node 1
        (.leaf (some ⟨.fn, 1, 8, [.zv 1]⟩))
        (.node 1
         (.leaf (some ⟨.fn, 1, 8, [.zv 1]⟩))
         (.leaf (some ⟨.fn, 1, 8, [.zv 1]⟩))))))
     (.node 5
      (.node 2
       (.node 1
        (.leaf (some ⟨.fn, 1, 8, [.zv 1]⟩))
        (.leaf (some ⟨.sl 9, 1, 24, [.nl]⟩)))
       (.node 1
        (.leaf (some ⟨.sl 34, 1, 24, [.nl]⟩))
        (.node 1
         (.leaf (some ⟨.st [(0, 3), (1, 3), (2, 9), (3, 32)], 4, 56, [.int .i64 0, .int .i64 0, .str [], .nl]⟩))
         (.leaf (some ⟨.st [(0, 3), (1, 3), (2, 9), (3, 32)], 4, 56, [.int .i64 0, .int .i64 0, .str [], .nl]⟩)))))
      (.node 3
       (.node 1
        (.leaf (some ⟨.sl 38, 1, 24, [.nl]⟩))
        (.node 1
         (.leaf (some ⟨.sl 69, 1, 24, [.nl]⟩))
         (.leaf (some ⟨.st [(0, 3), (1, 3), (2, 9), (3, 34), (7, 35), (8, 26), (9, 36)], 10, 160, [.int .i64 0, .int .i64 0, .str [], .int .i64 0, .int .i64 0, .str [], .nl, .nl, .nl, .nl]⟩))))
       (.node 1
        (.leaf (some ⟨.st [(0, 3), (1, 3), (2, 9), (3, 34), (7, 35), (8, 26), (9, 36)], 10, 160, [.int .i64 0, .int .i64 0, .str [], .int .i64 0, .int .i64 0, .str [], .nl, .nl, .nl, .nl]⟩))
        (.node 1
         (.leaf (some ⟨.st [(0, 9), (1, 31), (2, 38)], 12, 200, [.str [], .nl, .int .i64 0, .int .i64 0, .str [], .int .i64 0, .int .i64 0, .str [], .nl, .nl, .nl, .nl]⟩))
         (.leaf (some ⟨.st [(0, 9), (1, 31), (2, 38)], 12, 200, [.str [], .nl, .int .i64 0, .int .i64 0, .str [], .int .i64 0, .int .i64 0, .str [], .nl, .nl, .nl, .nl]⟩))))))))
   (.node 21
    (.node 10
     (.node 5
      (.node 2
       (.node 1
        (.leaf (some ⟨.fn, 1, 8, [.zv 1]⟩))
        (.leaf (some ⟨.fn, 1, 8, [.zv 1]⟩)))
       (.node 1
        (.leaf (some ⟨.fn, 1, 8, [.zv 1]⟩))
        (.node 1
         (.leaf (some ⟨.fn, 1, 8, [.zv 1]⟩))
         (.leaf (some ⟨.st [(0, 9), (1, 34), (5, 38)], 15, 232, [.str [], .int .i64 0, .int .i64 0, .str [], .nl, .int .i64 0, .int .i64 0, .str [], .int .i64 0, .int .i64 0, .str [], .nl, .nl, .nl, .nl]⟩)))))
      (.node 2
       (.node 1
        (.leaf (some ⟨.st [(0, 9), (1, 34), (5, 38)], 15, 232, [.str [], .int .i64 0, .int .i64 0, .str [], .nl, .int .i64 0, .int .i64 0, .str [], .int .i64 0, .int .i64 0, .str [], .nl, .nl, .nl, .nl]⟩))
        (.leaf (some ⟨.fn, 1, 8, [.zv 1]⟩)))
       (.node 1
        (.leaf (some ⟨.fn, 1, 8, [.zv 1]⟩))
        (.node 1
         (.leaf none)
         (.leaf (some ⟨.fn, 1, 8, [.zv 1]⟩))))))
     (.node 5
      (.node 2
       (.node 1
        (.leaf (some ⟨.fn, 1, 8, [.zv 1]⟩))
        (.leaf (some ⟨.fn, 1, 8, [.zv 1]⟩)))
       (.node 1
        (.leaf (some ⟨.fn, 1, 8, [.zv 1]⟩))
        (.node 1
         (.leaf none)
         (.leaf (some ⟨.fn, 1, 8, [.zv 1]⟩)))))
      (.node 3
       (.node 1
        (.leaf none)
        (.node 1
         (.leaf (some ⟨.fn, 1, 8, [.zv 1]⟩))
         (.leaf (some ⟨.fn, 1, 8, [.zv 1]⟩))))
       (.node 1
        (.leaf (some ⟨.fn, 1, 8, [.zv 1]⟩))
        (.node 1
         (.leaf (some ⟨.fn, 1, 8, [.zv 1]⟩))
         (.leaf (some ⟨.fn, 1, 8, [.zv 1]⟩)))))))
    (.node 10
     (.node 5
      (.node 2
       (.node 1
        (.leaf (some ⟨.fn, 1, 8, [.zv 1]⟩))
        (.leaf (some ⟨.mp 9 3, 1, 8, [.zv 0]⟩)))
       (.node 1
        (.leaf (some ⟨.mp 9 3, 1, 8, [.zv 0]⟩))
        (.node 1
         (.leaf (some ⟨.fn, 1, 8, [.zv 1]⟩))
         (.leaf (some ⟨.fn, 1, 8, [.zv 1]⟩)))))
      (.node 2
       (.node 1
        (.leaf (some ⟨.fn, 1, 8, [.zv 1]⟩))
        (.leaf (some ⟨.st [(0, 3), (1, 3), (2, 9), (3, 31), (4, 38)], 14, 216, [.int .i64 0, .int .i64 0, .str [], .nl, .int .i64 0, .int .i64 0, .str [], .int .i64 0, .int .i64 0, .str [], .nl, .nl, .nl, .nl]⟩)))
       (.node 1
        (.leaf (some ⟨.st [(0, 3), (1, 3), (2, 9), (3, 31), (4, 38)], 14, 216, [.int .i64 0, .int .i64 0, .str [], .nl, .int .i64 0, .int .i64 0, .str [], .int .i64 0, .int .i64 0, .str [], .nl, .nl, .nl, .nl]⟩))
        (.node 1
         (.leaf (some ⟨.pt 73, 1, 8, [.np]⟩))
         (.leaf (some ⟨.fn, 1, 8, [.zv 1]⟩))))))
     (.node 5
      (.node 2
       (.node 1
        (.leaf (some ⟨.st [(0, 23), (1, 3)], 2, 32, [.nl, .int .i64 0]⟩))
        (.leaf (some ⟨.st [(0, 23), (1, 3)], 2, 32, [.nl, .int .i64 0]⟩)))
       (.node 1
        (.leaf (some ⟨.fn, 1, 8, [.zv 1]⟩))
        (.node 1
         (.leaf (some ⟨.fn, 1, 8, [.zv 1]⟩))
         (.leaf (some ⟨.fn, 1, 8, [.zv 1]⟩)))))
      (.node 3
       (.node 1
        (.leaf (some ⟨.pt 79, 1, 8, [.np]⟩))
        (.node 1
         (.leaf (some ⟨.st [(0, 9), (1, 24)], 2, 40, [.str [], .nl]⟩))
         (.leaf (some ⟨.st [(0, 9), (1, 24)], 2, 40, [.str [], .nl]⟩))))
       (.node 1
        (.leaf (some ⟨.fn, 1, 8, [.zv 1]⟩))
        (.node 1
         (.leaf (some ⟨.pt 82, 1, 8, [.np]⟩))
         (.leaf (some ⟨.st [(0, 23), (1, 3)], 2, 32, [.nl, .int .i64 0]⟩)))))))))
  (.node 41
   (.node 20
    (.node 10
     (.node 5
      (.node 2
       (.node 1
        (.leaf (some ⟨.fn, 1, 8, [.zv 1]⟩))
        (.leaf (some ⟨.fn, 1, 8, [.zv 1]⟩)))
       (.node 1
        (.leaf (some ⟨.fn, 1, 8, [.zv 1]⟩))
        (.node 1
         (.leaf (some ⟨.fn, 1, 8, [.zv 1]⟩))
         (.leaf (some ⟨.sl 129, 1, 24, [.nl]⟩)))))
      (.node 2
       (.node 1
        (.leaf (some ⟨.st [(0, 87), (1, 31), (2, 3)], 3, 56, [.nl, .nl, .int .i64 0]⟩))
        (.leaf (some ⟨.st [(0, 87), (1, 31), (2, 3)], 3, 56, [.nl, .nl, .int .i64 0]⟩)))
       (.node 1
        (.leaf (some ⟨.fn, 1, 8, [.zv 1]⟩))
        (.node 1
         (.leaf (some ⟨.fn, 1, 8, [.zv 1]⟩))
         (.leaf (some ⟨.fn, 1, 8, [.zv 1]⟩))))))
     (.node 5
      (.node 2
       (.node 1
        (.leaf (some ⟨.fn, 1, 8, [.zv 1]⟩))
        (.leaf (some ⟨.fn, 1, 8, [.zv 1]⟩)))
       (.node 1
        (.leaf (some ⟨.fn, 1, 8, [.zv 1]⟩))
        (.node 1
         (.leaf (some ⟨.fn, 1, 8, [.zv 1]⟩))
         (.leaf (some ⟨.fn, 1, 8, [.zv 1]⟩)))))
      (.node 2
       (.node 1
        (.leaf (some ⟨.fn, 1, 8, [.zv 1]⟩))
        (.leaf (some ⟨.mp 9 100, 1, 8, [.zv 0]⟩)))
       (.node 1
        (.leaf (some ⟨.st [], 0, 0, []⟩))
        (.node 1
         (.leaf (some ⟨.fn, 1, 8, [.zv 1]⟩))
         (.leaf (some ⟨.fn, 1, 8, [.zv 1]⟩)))))))
    (.node 10
     (.node 5
      (.node 2
       (.node 1
        (.leaf (some ⟨.sl 107, 1, 24, [.nl]⟩))
        (.leaf (some ⟨.fn, 1, 8, [.zv 1]⟩)))
       (.node 1
        (.leaf (some ⟨.pt 38, 1, 8, [.np]⟩))
        (.node 1
         (.leaf (some ⟨.st [(0, 105), (1, 31)], 2, 32, [.np, .nl]⟩))
         (.leaf (some ⟨.st [(0, 105), (1, 31)], 2, 32, [.np, .nl]⟩)))))
      (.node 2
       (.node 1
        (.leaf (some ⟨.fn, 1, 8, [.zv 1]⟩))
        (.leaf (some ⟨.fn, 1, 8, [.zv 1]⟩)))
       (.node 1
        (.leaf (some ⟨.fn, 1, 8, [.zv 1]⟩))
        (.node 1
         (.leaf (some ⟨.fn, 1, 8, [.zv 1]⟩))
         (.leaf (some ⟨.fn, 1, 8, [.zv 1]⟩))))))
     (.node 5
      (.node 2
       (.node 1
        (.leaf (some ⟨.fn, 1, 8, [.zv 1]⟩))
        (.leaf (some ⟨.fn, 1, 8, [.zv 1]⟩)))
       (.node 1
        (.leaf none)
        (.node 1
         (.leaf (some ⟨.fn, 1, 8, [.zv 1]⟩))
         (.leaf (some ⟨.fn, 1, 8, [.zv 1]⟩)))))
      (.node 3
       (.node 1
        (.leaf (some ⟨.fn, 1, 8, [.zv 1]⟩))
        (.node 1
         (.leaf (some ⟨.fn, 1, 8, [.zv 1]⟩))
         (.leaf (some ⟨.sl 5, 1, 24, [.nl]⟩))))
       (.node 1
        (.leaf (some ⟨.fn, 1, 8, [.zv 1]⟩))
        (.node 1
         (.leaf (some ⟨.fn, 1, 8, [.zv 1]⟩))
         (.leaf (some ⟨.fn, 1, 8, [.zv 1]⟩))))))))
   (.node 21
    (.node 10
     (.node 5
      (.node 2
       (.node 1
        (.leaf (some ⟨.fn, 1, 8, [.zv 1]⟩))
        (.leaf (some ⟨.fn, 1, 8, [.zv 1]⟩)))
       (.node 1
        (.leaf (some ⟨.pt 31, 1, 8, [.np]⟩))
        (.node 1
         (.leaf (some ⟨.fn, 1, 8, [.zv 1]⟩))
         (.leaf (some ⟨.st [(0, 9), (1, 34)], 5, 72, [.str [], .int .i64 0, .int .i64 0, .str [], .nl]⟩)))))
      (.node 2
       (.node 1
        (.leaf (some ⟨.st [(0, 9), (1, 34)], 5, 72, [.str [], .int .i64 0, .int .i64 0, .str [], .nl]⟩))
        (.leaf (some ⟨.fn, 1, 8, [.zv 1]⟩)))
       (.node 1
        (.leaf (some ⟨.sl 31, 1, 24, [.nl]⟩))
        (.node 1
         (.leaf (some ⟨.fn, 1, 8, [.zv 1]⟩))
         (.leaf (some ⟨.fn, 1, 8, [.zv 1]⟩))))))
     (.node 5
      (.node 2
       (.node 1
        (.leaf (some ⟨.fn, 1, 8, [.zv 1]⟩))
        (.leaf none))
       (.node 1
        (.leaf (some ⟨.int .u64, 1, 8, [.int .u64 0]⟩))
        (.node 1
         (.leaf (some ⟨.fn, 1, 8, [.zv 1]⟩))
         (.leaf (some ⟨.fn, 1, 8, [.zv 1]⟩)))))
      (.node 3
       (.node 1
        (.leaf none)
        (.node 1
         (.leaf (some ⟨.fn, 1, 8, [.zv 1]⟩))
         (.leaf (some ⟨.fn, 1, 8, [.zv 1]⟩))))
       (.node 1
        (.leaf none)
        (.node 1
         (.leaf (some ⟨.int .u32, 1, 4, [.int .u32 0]⟩))
         (.leaf none))))))
    (.node 10
     (.node 5
      (.node 2
       (.node 1
        (.leaf (some ⟨.fn, 1, 8, [.zv 1]⟩))
        (.leaf (some ⟨.int .u64, 1, 8, [.int .u64 0]⟩)))
       (.node 1
        (.leaf (some ⟨.fn, 1, 8, [.zv 1]⟩))
        (.node 1
         (.leaf (some ⟨.fn, 1, 8, [.zv 1]⟩))
         (.leaf none))))
      (.node 2
       (.node 1
        (.leaf none)
        (.leaf (some ⟨.fn, 1, 8, [.zv 1]⟩)))
       (.node 1
        (.leaf (some ⟨.st [(0, 17), (1, 17), (2, 17), (3, 9)], 4, 40, [.np, .np, .np, .str []]⟩))
        (.node 1
         (.leaf (some ⟨.st [(0, 17), (1, 17), (2, 17), (3, 9)], 4, 40, [.np, .np, .np, .str []]⟩))
         (.leaf none)))))
     (.node 5
      (.node 2
       (.node 1
        (.leaf (some ⟨.st [(0, 154)], 0, 0, []⟩))
        (.leaf (some ⟨.st [(0, 154)], 0, 0, []⟩)))
       (.node 1
        (.leaf (some ⟨.int .u8, 1, 1, [.int .u8 0]⟩))
        (.node 1
         (.leaf (some ⟨.int .u8, 1, 1, [.int .u8 0]⟩))
         (.leaf (some ⟨.fn, 1, 8, [.zv 1]⟩)))))
      (.node 3
       (.node 1
        (.leaf (some ⟨.pt 5, 1, 8, [.np]⟩))
        (.node 1
         (.leaf (some ⟨.int .i32, 1, 4, [.int .i32 0]⟩))
         (.leaf (some ⟨.int .i32, 1, 4, [.int .i32 0]⟩))))
       (.node 1
        (.leaf (some ⟨.st [(0, 12), (1, 12), (2, 143), (3, 157), (4, 5), (5, 5), (6, 158), (7, 159), (8, 160), (9, 161), (10, 162)], 11, 48, [.int .u64 0, .int .u64 0, .int .u32 0, .int .u8 0, .int .u8 0, .int .u8 0, .int .u8 0, .zv 1, .np, .int .i32 0, .int .i32 0]⟩))
        (.node 1
         (.leaf (some ⟨.st [(0, 12), (1, 12), (2, 143), (3, 157), (4, 5), (5, 5), (6, 158), (7, 159), (8, 160), (9, 161), (10, 162)], 11, 48, [.int .u64 0, .int .u64 0, .int .u32 0, .int .u8 0, .int .u8 0, .int .u8 0, .int .u8 0, .zv 1, .np, .int .i32 0, .int .i32 0]⟩))
         (.leaf none))))))))
theorem trw : tr.wf = true := by kernel_rfl
theorem tok : Tok Tryd.prog tr.flat := by unfold Tok; kernel_rfl
theorem tg {t : Nat} {i : TI} (h : tr.get t = some i) : tr.flat[t]? = some (some i) := Tr.get_ok trw h
theorem mixed : Tryd.prog.follows .mixedOrders = true := by kernel_rfl
section
variable {ro : Option Nat} {n : Nat} {ops : Array Oper} {draw : Bool} {k k' : Nat} {e : Nat → Option V} {h0 : Heap} {d0 : List Nat} {st' : St} {pre pre' : REs} {tr' : Tr} {ob : List Prop} {kf : List Nat} {id : Nat}
/-- A region by computation (integers; 'agN': natural numbers). -/
theorem ag {Q : Exit → St → Prop} (hs : List (Nat × Hn)) (h : axGo Tryd.prog tr true false n ops.toList hs 1000 0 ops.toList e h0 d0 [] [] = some (st', k', pre', ob)) (hq : Q .normal st')
    (hc : conj ob := by repeat (first | exact trivial | refine ⟨by first | omega | assumption | exact ⟨by kernel_rfl, by assumption⟩ | rfl | (simp only [List.length_cons, List.length_nil]; omega) | (simp; done) | (simp; omega), ?_⟩)) (h1 : Nat.beq k' ops.size = true := by rfl) (h2 : (!draw || (apartGo (preds ops) pre'.reverse [] && edgesOk ops)) = true := by kernel_rfl) : AWp ro Tryd.prog n kf (.region id ops draw) ⟨e, h0, d0⟩ Q :=
  awp_ax mixed trw tok h hc h1 h2 hq
theorem agN {Q : Exit → St → Prop} (hs : List (Nat × Hn)) (h : axGo Tryd.prog tr true true n ops.toList hs 1000 0 ops.toList e h0 d0 [] [] = some (st', k', pre', ob)) (hq : Q .normal st')
    (hc : conj ob := by repeat (first | exact trivial | refine ⟨by first | omega | assumption | exact ⟨by kernel_rfl, by assumption⟩ | rfl | (simp only [List.length_cons, List.length_nil]; omega) | (simp; done) | (simp; omega), ?_⟩)) (h1 : Nat.beq k' ops.size = true := by rfl) (h2 : (!draw || (apartGo (preds ops) pre'.reverse [] && edgesOk ops)) = true := by kernel_rfl) : AWp ro Tryd.prog n kf (.region id ops draw) ⟨e, h0, d0⟩ Q :=
  awp_ax mixed trw tok h hc h1 h2 hq
/-- Some operations. -/
theorem ak {Q : St → Prop} (m : Nat) (hs : List (Nat × Hn)) (h : axGo Tryd.prog tr true false n ops.toList hs m k (ops.toList.drop k) e h0 d0 pre [] = some (st', k', pre', ob)) (hk : RunK Tryd.prog n ops draw k' st' pre' Q)
    (hc : conj ob := by repeat (first | exact trivial | refine ⟨by first | omega | assumption | exact ⟨by kernel_rfl, by assumption⟩ | rfl | (simp only [List.length_cons, List.length_nil]; omega) | (simp; done) | (simp; omega), ?_⟩)) : RunK Tryd.prog n ops draw k ⟨e, h0, d0⟩ pre Q :=
  ax_ m trw tok h hc hk
theorem akN {Q : St → Prop} (m : Nat) (hs : List (Nat × Hn)) (h : axGo Tryd.prog tr true true n ops.toList hs m k (ops.toList.drop k) e h0 d0 pre [] = some (st', k', pre', ob)) (hk : RunK Tryd.prog n ops draw k' st' pre' Q)
    (hc : conj ob := by repeat (first | exact trivial | refine ⟨by first | omega | assumption | exact ⟨by kernel_rfl, by assumption⟩ | rfl | (simp only [List.length_cons, List.length_nil]; omega) | (simp; done) | (simp; omega), ?_⟩)) : RunK Tryd.prog n ops draw k ⟨e, h0, d0⟩ pre Q :=
  ax_ m trw tok h hc hk
/-- A region with guards, of which the first m operations have none. -/
theorem agF {Q : Exit → St → Prop} {e1 : Nat → Option V} {hh1 : Heap} {d1 : List Nat} {ob1 : List Prop} {res : Res} {L : List (Nat × Option V)} (m : Nat) (hs : List (Nat × Hn)) (g1 : axGo Tryd.prog tr true false n ops.toList hs m 0 ops.toList e h0 d0 [] [] = some (⟨e1, hh1, d1⟩, k', pre', ob1))
    (g2 : axGoF Tryd.prog tr true false n ops.toList hs (dstL (ops.toList.drop k')) 1000 k' (ops.toList.drop k') e1 hh1 d1 [] pre' ob1 = some res) (g3 : mergeL res (dstL (ops.toList.drop k')) = some L) (hq : Q .normal ⟨updAll e1 L, hh1, d1⟩)
    (ho : res.obs := by repeat (first | exact trivial | refine ⟨fun _ => ?_, fun _ => ?_⟩ | refine ⟨by first | omega | assumption | exact ⟨by kernel_rfl, by assumption⟩ | rfl | (simp only [List.length_cons, List.length_nil]; omega) | (simp; done) | (simp; omega), ?_⟩)) (hg : res.good ops draw = true := by kernel_rfl) : AWp ro Tryd.prog n kf (.region id ops draw) ⟨e, h0, d0⟩ Q :=
  awp_axF m mixed trw tok g1 g2 g3 ho hg hq
theorem az {Q : St → Prop} (hq : Q ⟨e, h0, d0⟩) (h1 : Nat.beq k ops.size = true := by rfl) (h2 : (!draw || (apartGo (preds ops) pre.reverse [] && edgesOk ops)) = true := by kernel_rfl) : RunK Tryd.prog n ops draw k ⟨e, h0, d0⟩ pre Q := z_ h1 h2 hq
end
end Go.Proofs.YtojcjjjpniimiaaDoor
