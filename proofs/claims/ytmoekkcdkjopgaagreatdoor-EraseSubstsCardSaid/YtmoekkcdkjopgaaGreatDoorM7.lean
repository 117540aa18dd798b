/-
  Texts Am26, Am27, Tt, La1, La2, La3, La4, La5 in one.
-/
import Derived.Test.YtmoekkcdkjopgaaGreatDoorM6
import Derived.Test.YtmoekkcdkjopgaaGreatDoorProg
import Derived.KernelRfl
/- REGIONS WITH GUARDS BY COMPUTATION: where a guard's truth is not known, both ways are run; behind the region the truths that both ways give are one truth. -/
namespace Go.AM
open Go
inductive Res where
  | leaf (st : St) (k : Nat) (pre : REs) (ob : List Prop)
  | fork (b : Bool) (x y : Res)
def Res.obs : Res → Prop
  | .leaf _ _ _ ob => conj ob
  | .fork b x y => (b = true → x.obs) ∧ (b = false → y.obs)
def Res.good (ops : Array Oper) (draw : Bool) : Res → Bool
  | .leaf _ k pre _ => Nat.beq k ops.size && (!draw || (apartGo (preds ops) pre.reverse [] && edgesOk ops))
  | .fork _ x y => x.good ops draw && y.good ops draw
def Res.all (Q : St → Prop) : Res → Prop
  | .leaf st _ _ _ => Q st
  | .fork b x y => (b = true → x.all Q) ∧ (b = false → y.all Q)
def memB : Nat → List Nat → Bool
  | _, [] => false
  | i, x :: l => bif Nat.beq i x then true else memB i l
theorem memB_iff : ∀ {i : Nat} {l : List Nat}, memB i l = true ↔ i ∈ l
  | i, [] => by simp [memB]
  | i, x :: l => by
    simp only [memB]
    cases h : Nat.beq i x with
    | true => have := Nat.eq_of_beq_eq_true h; simp [this]
    | false =>
      have : i ≠ x := fun e => by subst e; simp at h
      simp [this, memB_iff]
/-- The slot on whose truth the way depends, if it was not asked for yet. -/
def forkAt (all : List Oper) (dec : List Nat) (o : Oper) : Option Nat :=
  match (match o.guard with | some (j, _) => (dstAt all j).bind fun t => bif memB t dec then none else some t | none => none) with
  | some t => some t
  | none => match o.op with
    | .pick (.tmp t) _ _ => bif memB t dec then none else some t
    | _ => none
def axGoF (P : Program) (tr : Tr) (md nat : Bool) (n : Nat) (all : List Oper) (hs : List (Nat × Hn)) (W : List Nat) : Nat → Nat → List Oper → (Nat → Option V) → Heap → List Nat → List Nat → REs → List Prop → Option Res
  | 0, _, _, _, _, _, _, _, _ => none
  | _ + 1, k, [], e, h, d, _, pre, ob => some (.leaf ⟨e, h, d⟩ k pre ob)
  | m + 1, k, o :: os, e, h, d, dec, pre, ob => match forkAt all dec o with
    | some t => match e t with
      | some (.one (.c (.bool b))) => (axGoF P tr md nat n all hs W m k (o :: os) (upd e t (some (.one (.c (.bool true))))) h d (t :: dec) pre ob).bind fun x =>
          (axGoF P tr md nat n all hs W m k (o :: os) (upd e t (some (.one (.c (.bool false))))) h d (t :: dec) pre ob).bind fun y => some (.fork b x y)
      | _ => axGoF P tr md nat n all hs W m k (o :: os) e h d (t :: dec) pre ob
    | none => (axG P tr md nat n all hs k o ⟨e, h, d⟩ ob).bind fun (rd, f, ob1) => match f with
      | ⟨some (t, v), []⟩ => bif memB t W then axGoF P tr md nat n all hs W m (k + 1) os (upd e t v) h d dec ((rd, ⟨some (t, v), []⟩) :: pre) ob1 else none
      | _ => none
section
variable {P : Program} {n : Nat} {tr : Tr} {md nat : Bool}
theorem upd_id {e : Nat → Option V} {t : Nat} {x : Option V} (h : e t = x) : upd e t x = e := by
  funext i
  simp only [upd]
  split
  · rename_i hb; rw [Nat.eq_of_beq_eq_true hb, h]
  · rfl
theorem axGoF_ok {ops : Array Oper} {hs : List (Nat × Hn)} {W : List Nat} {draw : Bool} (hw : tr.wf = true) (hT : Tok P tr.flat) : ∀ (m k : Nat) (os : List Oper) (e : Nat → Option V) (h : Heap) (d dec : List Nat) (pre : REs) (ob : List Prop) (res : Res), os = ops.toList.drop k →
    axGoF P tr md nat n ops.toList hs W m k os e h d dec pre ob = some res → res.obs → res.good ops draw = true → ∀ Q, res.all Q → conj ob ∧ RunK P n ops draw k ⟨e, h, d⟩ pre Q := by
  intro m
  induction m with
  | zero => intro k os e h d dec pre ob res _ hg; simp [axGoF] at hg
  | succ m ih =>
    intro k os e h d dec pre ob res hos hg ho hgood Q hq
    cases os with
    | nil =>
      simp only [axGoF] at hg
      cases hg
      simp only [Res.good, Bool.and_eq_true] at hgood
      exact ⟨ho, z_ hgood.1 hgood.2 hq⟩
    | cons o os =>
      have hok : ops[k]? = some o := by
        have : (ops.toList.drop k)[0]? = some o := by rw [← hos]; rfl
        simpa using this
      have hos' : os = ops.toList.drop (k + 1) := by
        have : os = (ops.toList.drop k).tail := by rw [← hos]; rfl
        rw [this, List.tail_drop]
      simp only [axGoF] at hg
      split at hg
      · rename_i t _
        split at hg
        · rename_i b hb
          rw [Option.bind_eq_some_iff] at hg
          obtain ⟨x, hx, hg⟩ := hg
          rw [Option.bind_eq_some_iff] at hg
          obtain ⟨y, hy, hg⟩ := hg
          cases hg
          simp only [Res.obs] at ho
          simp only [Res.good, Bool.and_eq_true] at hgood
          simp only [Res.all] at hq
          cases b with
          | true =>
            rw [upd_id hb] at hx
            exact ih _ _ _ _ _ _ _ _ _ hos hx (ho.1 rfl) hgood.1 Q (hq.1 rfl)
          | false =>
            rw [upd_id hb] at hy
            exact ih _ _ _ _ _ _ _ _ _ hos hy (ho.2 rfl) hgood.2 Q (hq.2 rfl)
        · exact ih _ _ _ _ _ _ _ _ _ hos hg ho hgood Q hq
      · rw [Option.bind_eq_some_iff] at hg
        obtain ⟨⟨rd, f, ob1⟩, h1, h2⟩ := hg
        dsimp only at h2
        split at h2
        · obtain ⟨_, h3⟩ := cond_some h2
          obtain ⟨g1, g2⟩ := ih _ _ _ _ _ _ _ _ _ hos' h3 ho hgood Q hq
          obtain ⟨g3, g4⟩ := axG_ok hw hT hok h1 g1
          refine ⟨g3, k_ g4 ?_⟩
          simpa only [Eff.apply, updL_nil] using g2
        · cases h2
/-- What was there before stands, but for some slots. -/
def Res.keep (e0 : Nat → Option V) (h0 : Heap) (d0 : List Nat) (W : List Nat) : Res → Prop
  | .leaf st _ _ _ => (∀ t, t ∉ W → ∀ v, e0 t = some v → st.e t = some v) ∧ st.h = h0 ∧ st.d = d0
  | .fork b x y => (b = true → x.keep e0 h0 d0 W) ∧ (b = false → y.keep e0 h0 d0 W)
theorem axGoF_keep {all : List Oper} {hs : List (Nat × Hn)} {W : List Nat} {e0 : Nat → Option V} : ∀ (m k : Nat) (os : List Oper) (e : Nat → Option V) (h : Heap) (d dec : List Nat) (pre : REs) (ob : List Prop) (res : Res),
    axGoF P tr md nat n all hs W m k os e h d dec pre ob = some res → (∀ t, t ∉ W → ∀ v, e0 t = some v → e t = some v) → res.keep e0 h d W := by
  intro m
  induction m with
  | zero => intro k os e h d dec pre ob res hg; simp [axGoF] at hg
  | succ m ih =>
    intro k os e h d dec pre ob res hg he
    cases os with
    | nil =>
      simp only [axGoF] at hg
      cases hg
      exact ⟨he, rfl, rfl⟩
    | cons o os =>
      simp only [axGoF] at hg
      split at hg
      · rename_i t _
        split at hg
        · rename_i b hb
          rw [Option.bind_eq_some_iff] at hg
          obtain ⟨x, hx, hg⟩ := hg
          rw [Option.bind_eq_some_iff] at hg
          obtain ⟨y, hy, hg⟩ := hg
          cases hg
          refine ⟨fun hbt => ?_, fun hbf => ?_⟩
          · subst hbt
            rw [upd_id hb] at hx
            exact ih _ _ _ _ _ _ _ _ _ hx he
          · subst hbf
            rw [upd_id hb] at hy
            exact ih _ _ _ _ _ _ _ _ _ hy he
        · exact ih _ _ _ _ _ _ _ _ _ hg he
      · rw [Option.bind_eq_some_iff] at hg
        obtain ⟨⟨rd, f, ob1⟩, h1, h2⟩ := hg
        dsimp only at h2
        split at h2
        · obtain ⟨hm, h3⟩ := cond_some h2
          refine ih _ _ _ _ _ _ _ _ _ h3 fun s hs u hu => ?_
          have hne : s ≠ _ := fun e => hs (by rw [e]; exact memB_iff.1 hm)
          rw [upd_ne _ _ _ hne]
          exact he s hs u hu
        · cases h2
/-- The truth in a slot, whichever way. -/
def Res.boolAt (w : Nat) : Res → Option Bool
  | .leaf st _ _ _ => match st.e w with
    | some (.one (.c (.bool x))) => some x
    | _ => none
  | .fork b x y => (x.boolAt w).bind fun p => (y.boolAt w).bind fun q => some (bif b then p else q)
theorem Res.boolAt_all {w : Nat} : ∀ {r : Res} {x : Bool}, r.boolAt w = some x → r.all fun st => st.e w = some (.one (.c (.bool x)))
  | .leaf st _ _ _, x, h => by
    simp only [Res.boolAt] at h
    split at h
    · rename_i hx; cases h; exact hx
    · cases h
  | .fork b p q, x, h => by
    simp only [Res.boolAt, Option.bind_eq_some_iff] at h
    obtain ⟨u, hu, v, hv, h⟩ := h
    cases h
    refine ⟨fun hb => ?_, fun hb => ?_⟩
    · subst hb; exact Res.boolAt_all hu
    · subst hb; exact Res.boolAt_all hv
def mergeL (res : Res) : List Nat → Option (List (Nat × Option V))
  | [] => some []
  | w :: ws => (mergeL res ws).bind fun l => match res.boolAt w with
    | some x => some ((w, some (.one (.c (.bool x)))) :: l)
    | none => some ((w, none) :: l)
def updAll (e : Nat → Option V) : List (Nat × Option V) → Nat → Option V
  | [], t => e t
  | (w, v) :: l, t => bif Nat.beq t w then v else updAll e l t
theorem mergeL_at {res : Res} {e0 : Nat → Option V} {t : Nat} : ∀ {W : List Nat} {L : List (Nat × Option V)}, mergeL res W = some L → updAll e0 L t = if t ∈ W then (res.boolAt t).map (fun x => V.one (.c (.bool x))) else e0 t
  | [], L, h => by
    simp only [mergeL] at h
    cases h
    simp [updAll]
  | w :: ws, L, h => by
    simp only [mergeL, Option.bind_eq_some_iff] at h
    obtain ⟨l, hl, h⟩ := h
    have ih := mergeL_at (e0 := e0) (t := t) hl
    have hL : L = (w, (res.boolAt w).map (fun x => V.one (.c (.bool x)))) :: l := by
      split at h
      · rename_i x hx; cases h; rw [hx]; rfl
      · rename_i hx; cases h; rw [hx]; rfl
    subst hL
    simp only [updAll]
    by_cases htw : t = w
    · subst htw
      simp
    · have hb : Nat.beq t w = false := by
        cases hb : Nat.beq t w with
        | true => exact absurd (Nat.eq_of_beq_eq_true hb) htw
        | false => rfl
      rw [hb, cond_false, ih]
      simp [htw]
theorem Res.all_mono {Q Q' : St → Prop} (h : ∀ st, Q st → Q' st) : ∀ {r : Res}, r.all Q → r.all Q'
  | .leaf st _ _ _, k => h st k
  | .fork _ _ _, k => ⟨fun hb => Res.all_mono h (k.1 hb), fun hb => Res.all_mono h (k.2 hb)⟩
theorem Res.all_forall {α : Type} {Q : α → St → Prop} : ∀ {r : Res}, (∀ a, r.all (Q a)) → r.all fun st => ∀ a, Q a st
  | .leaf _ _ _ _, k => fun a => k a
  | .fork _ _ _, k => ⟨fun hb => Res.all_forall fun a => (k a).1 hb, fun hb => Res.all_forall fun a => (k a).2 hb⟩
theorem Res.all_and {Q Q' : St → Prop} : ∀ {r : Res}, r.all Q → r.all Q' → r.all fun st => Q st ∧ Q' st
  | .leaf _ _ _ _, h, k => ⟨h, k⟩
  | .fork _ _ _, h, k => ⟨fun hb => Res.all_and (h.1 hb) (k.1 hb), fun hb => Res.all_and (h.2 hb) (k.2 hb)⟩
theorem Res.keep_at {e0 : Nat → Option V} {h0 : Heap} {d0 W : List Nat} {t : Nat} {v : V} (ht : t ∉ W) (hv : e0 t = some v) : ∀ {r : Res}, r.keep e0 h0 d0 W → r.all fun st => st.e t = some v
  | .leaf _ _ _ _, k => k.1 t ht v hv
  | .fork _ _ _, k => ⟨fun hb => Res.keep_at ht hv (k.1 hb), fun hb => Res.keep_at ht hv (k.2 hb)⟩
theorem Res.keep_hd {e0 : Nat → Option V} {h0 : Heap} {d0 W : List Nat} : ∀ {r : Res}, r.keep e0 h0 d0 W → r.all fun st => st.h = h0 ∧ st.d = d0
  | .leaf _ _ _ _, k => k.2
  | .fork _ _ _, k => ⟨fun hb => Res.keep_hd (k.1 hb), fun hb => Res.keep_hd (k.2 hb)⟩
theorem merge_ok {res : Res} {e0 : Nat → Option V} {h0 : Heap} {d0 W : List Nat} {L : List (Nat × Option V)} (h : mergeL res W = some L) (hk : res.keep e0 h0 d0 W) : res.all fun st => (∀ p : Nat × V, updAll e0 L p.1 = some p.2 → st.e p.1 = some p.2) ∧ (st.h = h0 ∧ st.d = d0) := by
  refine Res.all_and (Res.all_forall fun p => ?_) (Res.keep_hd hk)
  by_cases hv : updAll e0 L p.1 = some p.2
  · refine Res.all_mono (fun st h _ => h) (?_ : res.all fun st => st.e p.1 = some p.2)
    rw [mergeL_at h] at hv
    by_cases ht : p.1 ∈ W
    · rw [if_pos ht, Option.map_eq_some_iff] at hv
      obtain ⟨x, hx, hv⟩ := hv
      rw [← hv]
      exact Res.boolAt_all hx
    · rw [if_neg ht] at hv
      exact Res.keep_at ht hv hk
  · have : ∀ r : Res, r.all fun st => updAll e0 L p.1 = some p.2 → st.e p.1 = some p.2 := by
      intro r
      induction r with
      | leaf st k pre ob => exact fun h => absurd h hv
      | fork b x y ihx ihy => exact ⟨fun _ => ihx, fun _ => ihy⟩
    exact this res
theorem Sub.weak {kf : List Nat} {st1 st2 : St} (he : ∀ p : Nat × V, st2.e p.1 = some p.2 → st1.e p.1 = some p.2) (hh : st1.h = st2.h) (hd : st1.d = st2.d) : Sub kf st2 st1 := by
  intro G n S μ a w _ hs
  refine ⟨S, μ, ⟨?_, hs.size, ?_, fun t v e => ?_⟩⟩
  · rw [← hh]; exact hs.inv
  · rw [← hh, ← hd]; exact hs.defers
  · rw [← hh]; exact hs.env t v (he (t, v) e)
def dstL : List Oper → List Nat
  | [] => []
  | o :: os => match o.dst with
    | some t => t :: dstL os
    | none => dstL os
/-- A whole region, of which the first m operations have no guard. -/
theorem awp_axF {ro : Option Nat} {ops : Array Oper} {draw : Bool} {st : St} {e1 : Nat → Option V} {h1 : Heap} {d1 : List Nat} {k1 : Nat} {pre1 : REs} {ob1 : List Prop} {res : Res} {L : List (Nat × Option V)} {hs : List (Nat × Hn)} {kf : List Nat} {id : Nat} {Q : Exit → St → Prop} (m : Nat) (hm : P.follows .mixedOrders = true) (hw : tr.wf = true) (hT : Tok P tr.flat)
    (g1 : axGo P tr md nat n ops.toList hs m 0 ops.toList st.e st.h st.d [] [] = some (⟨e1, h1, d1⟩, k1, pre1, ob1))
    (g2 : axGoF P tr md nat n ops.toList hs (dstL (ops.toList.drop k1)) 1000 k1 (ops.toList.drop k1) e1 h1 d1 [] pre1 ob1 = some res)
    (g3 : mergeL res (dstL (ops.toList.drop k1)) = some L) (ho : res.obs) (hg : res.good ops draw = true) (hq : Q .normal ⟨updAll e1 L, h1, d1⟩) : AWp ro P n kf (.region id ops draw) st Q := by
  have hk := axGoF_keep (P := P) (tr := tr) (md := md) (nat := nat) (n := n) (e0 := e1) _ _ _ _ _ _ _ _ _ _ g2 (fun _ _ _ h => h)
  have hmo := merge_ok g3 hk
  have hall : res.all fun st' => Sub kf ⟨updAll e1 L, h1, d1⟩ st' := Res.all_mono (fun st h => Sub.weak h.1 h.2.1 h.2.2) hmo
  obtain ⟨hob, hrun⟩ := axGoF_ok (draw := draw) hw hT _ _ _ _ _ _ _ _ _ _ rfl g2 ho hg _ hall
  exact awp_rgw _ hm ((axGo_ok hw hT m 0 _ st.e st.h st.d [] [] _ k1 pre1 ob1 rfl g1 hob).2 _ hrun) hq
end
end Go.AM

/- SHORTER: a smaller state, what is returned, with what is plain as automatic arguments. -/
namespace Go.AM
open Go
theorem Ole.mapE {σ : Nat → Nat} {agg : Bool} {l l' : List (List C)} (h : l = l') : Ole σ (.map agg l) (.map agg l') := by subst h; exact .map
theorem Ole.arrS {σ : Nat → Nat} {te es fz : Nat} {l l' : List (List C)} (h : l = l') : Ole σ (.arr te es l fz) (.arr te es l' fz) := by subst h; exact .arr
theorem hs_ren {id off a b a' b' : Nat} (h : a = a') (k : b = b') : some (V.one (.hs id off a b)) = some (V.ren (fun i => i) (V.one (.hs id off a' b'))) := by subst h; subst k; rfl
/-- A smaller state: the objects are as they were. -/
theorem sl {kf : List Nat} {st1 : St} {el : List (Nat × V)} {hl : List (Nat × AObj)}
    (he : AllP (fun p => st1.e p.1 = some (p.2.ren (fun i => i))) el := by repeat (first | exact trivial | refine ⟨by first | rfl | exact Go.AM.hs_ren (by first | (simp; done) | (simp; omega)) (by first | (simp; done) | (simp; omega)), ?_⟩))
    (hh : AllP (fun p => ∃ o, st1.h p.1 = some o ∧ Ole (fun i => i) o p.2) hl := by repeat (first | exact trivial | refine ⟨⟨_, rfl, by first | exact Go.AM.Ole.arr | exact Go.AM.Ole.var rfl | exact Go.AM.Ole.map | exact Go.AM.Ole.rarr rfl | exact Go.AM.Ole.arr1 | exact Go.AM.Ole.arrS (by first | assumption | (simp; done) | (simp; rfl) | (simp; omega)) | exact Go.AM.Ole.arrE (by first | assumption | (simp; done) | (simp; rfl) | (simp; omega)) | exact Go.AM.Ole.var (by first | (simp [Go.AM.R.renL, Go.AM.R.ren]; done) | (simp [Go.AM.R.renL, Go.AM.R.ren]; omega)) | exact Go.AM.Ole.mapE (by first | assumption | (simp; done) | (simp; rfl) | (simp; omega))⟩, ?_⟩))
    (hok : (mkOk kf (fun i => i) el hl && eqL [] st1.d) = true := by rfl) : Sub kf (mk el hl) st1 := Sub.list (fun i => i) he hh hok
theorem take_all {α : Type} {l : List α} {n : Nat} (h : n = l.length) : l = (l.drop 0).take n := by rw [h, List.drop_zero, List.take_length]
theorem ltD {i n : Nat} {l : List (List C)} (h : decide ((i : Int) < (l.length : Int)) = true) (e : l.length = n) : i < n := by
  have : (i : Int) < (l.length : Int) := by simpa using h
  omega
theorem geD {i n : Nat} {l : List (List C)} (h : decide ((i : Int) < (l.length : Int)) = false) (e : l.length = n) (hi : i ≤ n) : i = n := by
  have : ¬ (i : Int) < (l.length : Int) := by simpa using h
  omega
theorem refsH_cons {k : Nat} {o : AObj} {l : List (Nat × AObj)} : refsH ((k, o) :: l) = o.refs ++ refsH l := rfl
theorem sub_obj {k : Nat} {o o' : AObj} {post : List (Nat × AObj)} {K : List Nat} (hr : ∀ x ∈ o.refs, x ∈ o'.refs) (h : subset (refsH ((k, o') :: post)) K = true) : subset (refsH ((k, o) :: post)) K = true := by
  rw [refsH_cons] at h ⊢
  simp only [subset, List.all_eq_true, List.mem_append] at h ⊢
  intro x hx
  rcases hx with hx | hx
  · exact h x (.inl (hr x hx))
  · exact h x (.inr hx)
theorem mkOk_obj {kf : List Nat} {el : List (Nat × V)} {k : Nat} {o o' : AObj} {post : List (Nat × AObj)} (hr : ∀ x ∈ o.refs, x ∈ o'.refs) (h : mkOk kf (fun i => i) el ((k, o') :: post) = true) : mkOk kf (fun i => i) el ((k, o) :: post) = true := by
  simp only [mkOk, Bool.and_eq_true] at h ⊢
  obtain ⟨⟨⟨⟨h1, h2⟩, h3⟩, h4⟩, h5⟩ := h
  exact ⟨⟨⟨⟨h1, sub_obj hr h2⟩, h3⟩, h4⟩, h5⟩
theorem Ole.rarrS {te es : Nat} {l l' : List (List R)} (h : l = l') : Ole (fun i => i) (.rarr te es l) (.rarr te es l') := by subst h; exact .rarr (renR_id _).symm
/-- Likewise, where the first object's references are not written out. -/
theorem slR {k : Nat} {o : AObj} {kf : List Nat} {st1 : St} {el : List (Nat × V)} {hl : List (Nat × AObj)} (o' : AObj) (hr : ∀ x ∈ o.refs, x ∈ o'.refs) (h0 : ∃ oo, st1.h k = some oo ∧ Ole (fun i => i) oo o)
    (he : AllP (fun p => st1.e p.1 = some (p.2.ren (fun i => i))) el := by repeat (first | exact trivial | refine ⟨by first | rfl | exact Go.AM.hs_ren (by first | (simp; done) | (simp; omega)) (by first | (simp; done) | (simp; omega)), ?_⟩))
    (hh : AllP (fun p => ∃ o, st1.h p.1 = some o ∧ Ole (fun i => i) o p.2) hl := by repeat (first | exact trivial | refine ⟨⟨_, rfl, by first | exact Go.AM.Ole.arr | exact Go.AM.Ole.var rfl | exact Go.AM.Ole.map | exact Go.AM.Ole.rarr rfl | exact Go.AM.Ole.arr1 | exact Go.AM.Ole.arrS (by first | assumption | (simp; done) | (simp; rfl) | (simp; omega)) | exact Go.AM.Ole.arrE (by first | assumption | (simp; done) | (simp; rfl) | (simp; omega)) | exact Go.AM.Ole.var (by first | (simp [Go.AM.R.renL, Go.AM.R.ren]; done) | (simp [Go.AM.R.renL, Go.AM.R.ren]; omega)) | exact Go.AM.Ole.mapE (by first | assumption | (simp; done) | (simp; rfl) | (simp; omega))⟩, ?_⟩))
    (hok : (mkOk kf (fun i => i) el ((k, o') :: hl) && eqL [] st1.d) = true := by rfl) : Sub kf (mk el ((k, o) :: hl)) st1 := by
  rw [Bool.and_eq_true] at hok
  exact Sub.list (fun i => i) he ⟨h0, hh⟩ (by rw [Bool.and_eq_true]; exact ⟨mkOk_obj hr hok.1, hok.2⟩)
section
variable {T : TT} {fn : Func} {st : St} {hin hout : List (Nat × AObj)} {res : V}
/-- What is returned: one value out of a slot. -/
theorem rtT {t : Nat} {v : V} {ids : List Nat} (hr : fn.results.toList = [.tmp t] := by rfl) (hv : st.e t = some v := by rfl)
    (hc : Conv st.h ids v res := by first | exact .refl | exact .one (.c .nl .nil) | ((first | apply Go.AM.Conv.pa | apply Go.AM.Conv.agg); repeat (first | exact .nil | apply Go.AM.PureL.c .refl | apply Go.AM.PureL.c .nl | (apply Go.AM.PureL.hs; rfl; (first | rfl | assumption | simp); (first | rfl | exact Go.AM.take_all (by first | assumption | rfl | (simp; done)) | exact Go.AM.take_map.symm)))))
    (ho : AllP (fun p => ∃ o, st.h p.1 = some o ∧ Ole (fun i => i) o p.2) hout := by repeat (first | exact trivial | refine ⟨⟨_, rfl, by first | exact Go.AM.Ole.arr | exact Go.AM.Ole.var rfl | exact Go.AM.Ole.map | exact Go.AM.Ole.rarr rfl | exact Go.AM.Ole.arr1 | exact Go.AM.Ole.arrS (by first | assumption | (simp; done) | (simp; rfl) | (simp; omega)) | exact Go.AM.Ole.arrE (by first | assumption | (simp; done) | (simp; rfl) | (simp; omega)) | exact Go.AM.Ole.var (by first | (simp [Go.AM.R.renL, Go.AM.R.ren]; done) | (simp [Go.AM.R.renL, Go.AM.R.ren]; omega)) | exact Go.AM.Ole.mapE (by first | assumption | (simp; done) | (simp; rfl) | (simp; omega))⟩, ?_⟩))
    (hok : (subset res.refs (keys hout) && subset (refsH hout) (keys hout) && distinct (keys hout) && subset (keys hin) (keys hout) && (hin.all fun p => p.2.plain) && (hout.all fun p => p.2.plain)) = true := by rfl) : (Exit.ret = .normal ∨ Exit.ret = .ret) ∧ Fin T fn st hin res hout :=
  ⟨.inr rfl, ⟨[v], [res], by rw [hr]; exact .tmp hv .nil, .cons hc .nil, rfl⟩, ho, hok⟩
/-- One value out of a variable. -/
theorem rtC {tr : Tr} {a t : Nat} {i : TI} {id off tv : Nat} {cells : List R} {v : V} {ids : List Nat} (hw : tr.wf = true) (hr : fn.results.toList = [.cell a t] := by rfl) (hi : tr.get t = some i := by rfl) (ha : st.e a = some (.one (.vp id off)) := by rfl) (hh : st.h id = some (.var tv cells) := by rfl) (hb : Nat.ble (off + i.size) cells.length = true := by rfl) (hv : loadV i ((cells.drop off).take i.size) = some v := by rfl)
    (hc : Conv st.h ids v res := by first | exact .refl | exact .one (.c .nl .nil) | ((first | apply Go.AM.Conv.pa | apply Go.AM.Conv.agg); repeat (first | exact .nil | apply Go.AM.PureL.c .refl | apply Go.AM.PureL.c .nl | (apply Go.AM.PureL.hs; rfl; (first | rfl | assumption | simp); (first | rfl | exact Go.AM.take_all (by first | assumption | rfl | (simp; done)) | exact Go.AM.take_map.symm)))))
    (ho : AllP (fun p => ∃ o, st.h p.1 = some o ∧ Ole (fun i => i) o p.2) hout := by repeat (first | exact trivial | refine ⟨⟨_, rfl, by first | exact Go.AM.Ole.arr | exact Go.AM.Ole.var rfl | exact Go.AM.Ole.map | exact Go.AM.Ole.rarr rfl | exact Go.AM.Ole.arr1 | exact Go.AM.Ole.arrS (by first | assumption | (simp; done) | (simp; rfl) | (simp; omega)) | exact Go.AM.Ole.arrE (by first | assumption | (simp; done) | (simp; rfl) | (simp; omega)) | exact Go.AM.Ole.var (by first | (simp [Go.AM.R.renL, Go.AM.R.ren]; done) | (simp [Go.AM.R.renL, Go.AM.R.ren]; omega)) | exact Go.AM.Ole.mapE (by first | assumption | (simp; done) | (simp; rfl) | (simp; omega))⟩, ?_⟩))
    (hok : (subset res.refs (keys hout) && subset (refsH hout) (keys hout) && distinct (keys hout) && subset (keys hin) (keys hout) && (hin.all fun p => p.2.plain) && (hout.all fun p => p.2.plain)) = true := by rfl) : (Exit.ret = .normal ∨ Exit.ret = .ret) ∧ Fin tr.flat fn st hin res hout :=
  ⟨.inr rfl, ⟨[v], [res], by rw [hr]; exact .cell ha (Tr.get_ok hw hi) hh hb hv .nil, .cons hc .nil, rfl⟩, ho, hok⟩
end
end Go.AM
namespace Go.AM
open Go
theorem look_upd {id : Nat} {o : AObj} {hin : List (Nat × AObj)} : look ((id, o) :: hin) = upd (look hin) id (some o) := by
  funext i
  by_cases h : i = id
  · subst h; rw [upd_same, look_cons_same]
  · rw [upd_ne _ _ _ h, look_cons_ne h]
theorem Inv.emptyZ {G : Ctx} {S : Sto} {μ : Mu} {H : Heap} {w : World} {id : Nat} (te es z : Nat) (h : Inv G S μ H w) (hid : H id = none) : Inv G S (upd μ id none) (upd H id (some (.arr te es [] z))) w ∧ Evolve S μ H S (upd μ id none) (upd H id (some (.arr te es [] z))) := by
  have hE : Evolve S μ H S (upd μ id none) (upd H id (some (.arr te es [] z))) := evolve_new hid _ _
  refine ⟨⟨h.holds, fun j x hj => ?_, fun i j x x' b c c' hi hj hm hm' => ?_, fun i x b c hi hm => ?_, h.frame, h.sle, h.sto, h.evo.trans hE⟩, hE⟩
  · by_cases hne : j = id
    · subst hne
      rw [upd_same] at hj; cases hj
      exact ⟨by simp, .inl ⟨upd_same _ _ _, rfl⟩⟩
    · rw [upd_ne _ _ _ hne] at hj
      exact (h.obj j x hj).evolve hE (upd_ne _ _ _ hne) fun _ _ _ => ⟨rfl, fun _ => rfl, rfl⟩
  · have h1 : i ≠ id := fun e => by subst e; rw [upd_same] at hm; cases hm
    have h2 : j ≠ id := fun e => by subst e; rw [upd_same] at hm'; cases hm'
    rw [upd_ne _ _ _ h1] at hi hm
    rw [upd_ne _ _ _ h2] at hj hm'
    exact h.inj i j x x' b c c' hi hj hm hm'
  · have h1 : i ≠ id := fun e => by subst e; rw [upd_same] at hm; cases hm
    rw [upd_ne _ _ _ h1] at hi hm
    exact h.own i x b c hi hm
/-- A contract for an array of one's own, when nil is handed on. -/
theorem ImpC.nilArg {P : Program} {f : FuncId} {pre post : List V} {hin hout : List (Nat × AObj)} {res : V} {id te es z : Nat} (h : ImpC P f (pre ++ .one (.hs id 0 0 0) :: post) ((id, .arr te es [] z) :: hin) res hout) (hid : look hin id = none) : ImpC P f (pre ++ .one (.c .nl) :: post) hin res hout := by
  intro S μ w vals hI hv
  obtain ⟨hi, hE⟩ := hI.emptyZ te es z hid
  have hF : Foot (upd μ id none) (look ((id, .arr te es [] z) :: hin)) = Foot μ (look hin) := by
    funext b
    rw [look_upd]
    refine propext ⟨?_, ?_⟩
    · rintro ⟨j, o, c, h1, h2⟩
      by_cases hj : j = id
      · subst hj; rw [upd_same] at h2; cases h2
      · rw [upd_ne _ _ _ hj] at h1 h2; exact ⟨j, o, c, h1, h2⟩
    · rintro ⟨j, o, c, h1, h2⟩
      have hj : j ≠ id := fun e => by subst e; rw [hid] at h1; cases h1
      exact ⟨j, o, c, by rw [upd_ne _ _ _ hj]; exact h1, by rw [upd_ne _ _ _ hj]; exact h2⟩
  have hi' : Inv ⟨w, S, Foot (upd μ id none) (look ((id, .arr te es [] z) :: hin)), upd μ id none, look ((id, .arr te es [] z) :: hin)⟩ S (upd μ id none) (look ((id, .arr te es [] z) :: hin)) w := by
    rw [hF, look_upd]
    exact ⟨hi.holds, hi.obj, hi.inj, hi.own, hi.frame, hi.sle, hi.sto, Evolve.refl _ _ _⟩
  have hv' : VRelL S (upd μ id none) (look ((id, .arr te es [] z) :: hin)) (pre ++ .one (.hs id 0 0 0) :: post) vals := by
    rw [look_upd]
    have key : ∀ (l : List V) (us : List Value), VRelL S μ (look hin) (l ++ .one (.c .nl) :: post) us → VRelL S (upd μ id none) (upd (look hin) id (some (.arr te es [] z))) (l ++ .one (.hs id 0 0 0) :: post) us := by
      intro l
      induction l with
      | nil =>
        intro us hu
        simp only [List.nil_append, VRelL] at hu ⊢
        obtain ⟨u, us', h1, h2, h3⟩ := hu
        refine ⟨u, us', h1, ?_, VRelL.evolve hE _ _ h3⟩
        simp only [VRel, RRel, Rep] at h2 ⊢
        exact ⟨⟨_, _, _, h2⟩, .inr ⟨te, es, [], z, upd_same _ _ _, Nat.le_refl _, fun _ => ⟨Nat.le_refl _, .inl ⟨upd_same _ _ _, rfl, h2⟩⟩⟩⟩
      | cons x l ih =>
        intro us hu
        simp only [List.cons_append, VRelL] at hu ⊢
        obtain ⟨u, us', h1, h2, h3⟩ := hu
        exact ⟨u, us', h1, VRel.evolve hE _ _ h2, ih us' h3⟩
    exact key pre vals hv
  refine Calls.mono (h S (upd μ id none) w vals hi' hv') ?_
  rintro e w' ⟨S', μ', v, h1, h2, h3⟩
  refine ⟨S', μ', v, h1, ?_, h3⟩
  rw [hF] at h2
  refine ⟨h2.holds, h2.obj, h2.inj, h2.own, h2.frame, h2.sle, h2.sto, hE.trans ?_⟩
  have := h2.evo
  rwa [look_upd] at this
/-- What is returned may be said in a smaller state. -/
theorem ImpC.sub {P : Program} {f : FuncId} {args : List V} {hin hout hout' : List (Nat × AObj)} {res res' : V} (h : ImpC P f args hin res hout) (hs : Sub (keys hin) (mk [(0, res')] hout') (mk [(0, res)] hout)) : ImpC P f args hin res' hout' := by
  intro S μ w vals hI hv
  refine Calls.mono (h S μ w vals hI hv) ?_
  rintro e w' ⟨S', μ', v, h1, h2, h3⟩
  have hkeep : Ctx.keeps ⟨w, S, Foot μ (look hin), μ, look hin⟩ (keys hin) := fun id o ho => List.mem_map.2 ⟨_, look_mem ho, rfl⟩
  obtain ⟨S2, μ2, g⟩ := hs _ 1 S' μ' ⟨#[v], []⟩ w' hkeep ⟨h2, rfl, rfl, fun t y e => by
    simp only [mk, look] at e
    split at e
    · rename_i hb
      cases e
      rw [Nat.eq_of_beq_eq_true hb]
      exact h3
    · cases e⟩
  exact ⟨S2, μ2, v, h1, g.inv, g.env 0 res' rfl⟩
/-- An array of one's own that is returned, as plain data. -/
theorem ImpC.plain {P : Program} {f : FuncId} {args : List V} {id te es n : Nat} {rows : List (List C)} {fz : Nat} (h : ImpC P f args [] (.one (.hs id 0 n n)) [(id, .arr te es rows fz)]) (hn : n = rows.length) : ImpC P f args [] (.one (.c (.sl es rows))) [] := by
  refine h.sub ?_
  have h1 : Sub [] ⟨look [(0, V.one (.hs id 0 n n))], upd (look [(id, AObj.arr te es rows fz)]) id (some (.arr te es rows 2)), []⟩ (mk [(0, .one (.hs id 0 n n))] [(id, .arr te es rows fz)]) := Sub.freeze (st := mk [(0, .one (.hs id 0 n n))] [(id, .arr te es rows fz)]) look_cons_same
  refine Sub.trans (Sub.trans ?_ (Sub.conv (t := 0) (v := .one (.hs id 0 n n)) rfl (hs_all (upd_same _ _ _) rfl hn rfl))) h1
  exact Sub.list (fun i => i) ⟨rfl, trivial⟩ trivial rfl
/-- A variable's cells as plain data. -/
theorem Sub.varPure {kf : List Nat} {st : St} {x tv : Nat} {cells : List R} {ids : List Nat} {cs : List C} (h : st.h x = some (.var tv cells)) (hp : PureL st.h ids cells cs) : Sub kf ⟨st.e, upd st.h x (some (.var tv (cs.map R.c))), st.d⟩ st := by
  intro G n S μ a w _ hs
  have hi := hs.inv
  obtain ⟨b, vs, g1, g2, g3, g4⟩ := hi.obj x _ h
  have hE2 : Evolve S μ st.h S μ (upd st.h x (some (.var tv (cs.map R.c)))) := ⟨S.le_refl, fun j y hj => by
    by_cases hjx : j = x
    · subst hjx
      rw [h] at hj; cases hj
      exact ⟨_, upd_same _ _ _, by simp [AObj.succ]⟩
    · exact ⟨y, by rw [upd_ne _ _ _ hjx]; exact hj, y.succ_refl rfl⟩⟩
  have hold : ∀ j y, upd st.h x (some (.var tv (cs.map R.c))) j = some y → ∃ y', st.h j = some y' := fun j y hj => by
    by_cases hjx : j = x
    · subst hjx; exact ⟨_, h⟩
    · rw [upd_ne _ _ _ hjx] at hj; exact ⟨_, hj⟩
  refine ⟨S, μ, ⟨⟨hi.holds, fun j y hj => ?_, fun i j y y' b c c' hi' hj hm hm' => ?_, fun i y b c hi' hm => ?_, hi.frame, hi.sle, hi.sto, hi.evo.trans hE2⟩, hs.size, hs.defers.evolve hE2, fun s v e => VRel.evolve hE2 v _ (hs.env s v e)⟩⟩
  · by_cases hjx : j = x
    · subst hjx
      have hj' : some (AObj.var tv (cs.map R.c)) = some y := by rw [← hj]; exact (upd_same _ _ _).symm
      cases hj'
      exact ⟨b, vs, g1, g2, (hp.rel (fun _ _ => rfl) hi.obj g3).toR, g4⟩
    · have hj' : st.h j = some y := by rw [← hj]; exact (upd_ne _ _ _ hjx).symm
      exact (hi.obj j y hj').evolve hE2 rfl fun _ _ _ => ⟨rfl, fun _ => rfl, rfl⟩
  · obtain ⟨_, h1⟩ := hold _ _ hi'
    obtain ⟨_, h2⟩ := hold _ _ hj
    exact hi.inj i j _ _ b c c' h1 h2 hm hm'
  · obtain ⟨_, h1⟩ := hold _ _ hi'
    exact hi.own i _ b c h1 hm
/-- Likewise, as it is meant. -/
theorem vp {kf : List Nat} {st : St} (x : Nat) {tv : Nat} {cells : List R} (cs : List C) {ids : List Nat} (h : st.h x = some (.var tv cells) := by rfl)
    (hp : PureL st.h ids cells cs := by repeat (first | exact .nil | apply Go.AM.PureL.c .refl | apply Go.AM.PureL.c .nl | apply Go.AM.PureL.c .sn | (apply Go.AM.PureL.hs; rfl; (first | rfl | assumption | (simp; done) | (simp; omega)); (first | rfl | exact Go.AM.take_all (by first | assumption | rfl | (simp; done) | (simp; omega)) | exact Go.AM.take_map.symm)))) : Sub kf ⟨st.e, upd st.h x (some (.var tv (cs.map R.c))), st.d⟩ st := Sub.varPure h hp
/-- A slot's array as plain data. -/
theorem cv {kf : List Nat} {st : St} (t : Nat) {id te es n sz : Nat} {l : List (List C)} (l' : List (List C)) (h : st.e t = some (.one (.hs id 0 n sz)) := by rfl) (hh : st.h id = some (.arr te es l 2) := by rfl) (h1 : n = l.length := by first | rfl | assumption | (simp; done) | (simp; omega)) (h2 : sz = l.length := by first | rfl | assumption | (simp; done) | (simp; omega)) (h3 : l = l' := by first | rfl | assumption | (simp; done)) : Sub kf ⟨upd st.e t (some (.one (.c (.sl es l')))), st.h, st.d⟩ st := by
  subst h3
  exact Sub.conv h (.one (.hs hh h2 (by rw [h1, List.drop_zero, List.take_length]) .nil))
/-- The end, where the first object's references are not written out. -/
theorem finR {T : TT} {fn : Func} {st : St} {hin hout : List (Nat × AObj)} {k : Nat} {o : AObj} {res : V} (o' : AObj) (hr : ∀ x ∈ o.refs, x ∈ o'.refs) (hex : ∃ vs vs', ResV T st fn.results.toList vs ∧ Convs st.h vs vs' ∧ tupV vs' = res) (ho : AllP (fun p => ∃ o, st.h p.1 = some o ∧ Ole (fun i => i) o p.2) ((k, o) :: hout)) (hp : o.plain = true)
    (hok : (subset res.refs (keys ((k, o') :: hout)) && subset (refsH ((k, o') :: hout)) (keys ((k, o') :: hout)) && distinct (keys ((k, o') :: hout)) && subset (keys hin) (keys ((k, o') :: hout)) && (hin.all fun p => p.2.plain) && (((k, o') :: hout).all fun p => p.2.plain)) = true) : Fin T fn st hin res ((k, o) :: hout) := by
  refine ⟨hex, ho, ?_⟩
  simp only [Bool.and_eq_true] at hok ⊢
  obtain ⟨⟨⟨⟨⟨k1, k2⟩, k3⟩, k4⟩, k5⟩, k6⟩ := hok
  refine ⟨⟨⟨⟨⟨k1, sub_obj hr k2⟩, k3⟩, k4⟩, k5⟩, ?_⟩
  simp only [List.all_cons, Bool.and_eq_true] at k6 ⊢
  exact ⟨hp, k6.2⟩
end Go.AM

/- THE TABLE OF TYPES OF THIS TRANSLATION, as its dump has them, held against the program by the kernel. -/
namespace Go.Proofs.YtmoekkcdkjopgaaGreatDoor
open Go Go.AM
def tr : Tr :=
 .node 119
  (.node 59
   (.node 29
    (.node 14
     (.node 7
      (.node 3
       (.node 1
        (.leaf none)
        (.node 1
         (.leaf (some ⟨.fn, 1, 8, [.zv 1]⟩))
         (.leaf (some ⟨.int .i64, 1, 8, [.int .i64 0]⟩))))
       (.node 2
        (.node 1
         (.leaf (some ⟨.int .i64, 1, 8, [.int .i64 0]⟩))
         (.leaf (some ⟨.bool, 1, 1, [.bool false]⟩)))
        (.node 1
         (.leaf (some ⟨.int .u8, 1, 1, [.int .u8 0]⟩))
         (.leaf (some ⟨.int .u8, 1, 1, [.int .u8 0]⟩)))))
      (.node 3
       (.node 1
        (.leaf (some ⟨.st [(0, 2), (1, 3), (2, 4), (3, 6)], 4, 24, [.int .i64 0, .int .i64 0, .bool false, .int .u8 0]⟩))
        (.node 1
         (.leaf (some ⟨.st [(0, 2), (1, 3), (2, 4), (3, 6)], 4, 24, [.int .i64 0, .int .i64 0, .bool false, .int .u8 0]⟩))
         (.leaf (some ⟨.str, 1, 16, [.str []]⟩))))
       (.node 2
        (.node 1
         (.leaf (some ⟨.str, 1, 16, [.str []]⟩))
         (.leaf (some ⟨.str, 1, 16, [.str []]⟩)))
        (.node 1
         (.leaf (some ⟨.int .u64, 1, 8, [.int .u64 0]⟩))
         (.leaf (some ⟨.st [(0, 9), (1, 12)], 2, 24, [.str [], .int .u64 0]⟩))))))
     (.node 7
      (.node 3
       (.node 1
        (.leaf (some ⟨.st [(0, 9), (1, 12)], 2, 24, [.str [], .int .u64 0]⟩))
        (.node 1
         (.leaf (some ⟨.pt 225, 1, 8, [.np]⟩))
         (.leaf (some ⟨.pt 228, 1, 8, [.np]⟩))))
       (.node 2
        (.node 1
         (.leaf (some ⟨.pt 236, 1, 8, [.np]⟩))
         (.leaf (some ⟨.st [(0, 17)], 1, 8, [.np]⟩)))
        (.node 1
         (.leaf (some ⟨.st [(0, 17)], 1, 8, [.np]⟩))
         (.leaf none))))
      (.node 4
       (.node 2
        (.node 1
         (.leaf (some ⟨.int .i32, 1, 4, [.int .i32 0]⟩))
         (.leaf (some ⟨.sl 3, 1, 24, [.nl]⟩)))
        (.node 1
         (.leaf (some ⟨.sl 22, 1, 24, [.nl]⟩))
         (.leaf (some ⟨.sl 139, 1, 24, [.nl]⟩))))
       (.node 2
        (.node 1
         (.leaf (some ⟨.sl 73, 1, 24, [.nl]⟩))
         (.leaf (some ⟨.st [(0, 24), (1, 25)], 2, 48, [.nl, .nl]⟩)))
        (.node 1
         (.leaf (some ⟨.st [(0, 24), (1, 25)], 2, 48, [.nl, .nl]⟩))
         (.leaf (some ⟨.st [(0, 24), (1, 25)], 2, 48, [.nl, .nl]⟩)))))))
    (.node 15
     (.node 7
      (.node 3
       (.node 1
        (.leaf none)
        (.node 1
         (.leaf (some ⟨.fn, 1, 8, [.zv 1]⟩))
         (.leaf (some ⟨.sl 33, 1, 24, [.nl]⟩))))
       (.node 2
        (.node 1
         (.leaf (some ⟨.st [(0, 3), (1, 3), (2, 9), (3, 31)], 4, 56, [.int .i64 0, .int .i64 0, .str [], .nl]⟩))
         (.leaf (some ⟨.st [(0, 3), (1, 3), (2, 9), (3, 31)], 4, 56, [.int .i64 0, .int .i64 0, .str [], .nl]⟩)))
        (.node 1
         (.leaf (some ⟨.sl 37, 1, 24, [.nl]⟩))
         (.leaf (some ⟨.sl 78, 1, 24, [.nl]⟩)))))
      (.node 4
       (.node 2
        (.node 1
         (.leaf (some ⟨.st [(0, 3), (1, 3), (2, 9), (3, 33), (7, 34), (8, 25), (9, 35)], 10, 160, [.int .i64 0, .int .i64 0, .str [], .int .i64 0, .int .i64 0, .str [], .nl, .nl, .nl, .nl]⟩))
         (.leaf (some ⟨.st [(0, 3), (1, 3), (2, 9), (3, 33), (7, 34), (8, 25), (9, 35)], 10, 160, [.int .i64 0, .int .i64 0, .str [], .int .i64 0, .int .i64 0, .str [], .nl, .nl, .nl, .nl]⟩)))
        (.node 1
         (.leaf (some ⟨.fn, 1, 8, [.zv 1]⟩))
         (.leaf none)))
       (.node 2
        (.node 1
         (.leaf (some ⟨.fn, 1, 8, [.zv 1]⟩))
         (.leaf (some ⟨.int .i64, 1, 8, [.int .i64 0]⟩)))
        (.node 1
         (.leaf none)
         (.leaf (some ⟨.fn, 1, 8, [.zv 1]⟩))))))
     (.node 7
      (.node 3
       (.node 1
        (.leaf (some ⟨.fn, 1, 8, [.zv 1]⟩))
        (.node 1
         (.leaf (some ⟨.fn, 1, 8, [.zv 1]⟩))
         (.leaf (some ⟨.fn, 1, 8, [.zv 1]⟩))))
       (.node 2
        (.node 1
         (.leaf (some ⟨.fn, 1, 8, [.zv 1]⟩))
         (.leaf (some ⟨.fn, 1, 8, [.zv 1]⟩)))
        (.node 1
         (.leaf (some ⟨.fn, 1, 8, [.zv 1]⟩))
         (.leaf (some ⟨.sl 52, 1, 24, [.nl]⟩)))))
      (.node 4
       (.node 2
        (.node 1
         (.leaf (some ⟨.st [(0, 3), (1, 3), (2, 9), (3, 50)], 4, 56, [.int .i64 0, .int .i64 0, .str [], .nl]⟩))
         (.leaf (some ⟨.st [(0, 3), (1, 3), (2, 9), (3, 50)], 4, 56, [.int .i64 0, .int .i64 0, .str [], .nl]⟩)))
        (.node 1
         (.leaf none)
         (.leaf (some ⟨.fn, 1, 8, [.zv 1]⟩))))
       (.node 2
        (.node 1
         (.leaf (some ⟨.fn, 1, 8, [.zv 1]⟩))
         (.leaf (some ⟨.fn, 1, 8, [.zv 1]⟩)))
        (.node 1
         (.leaf (some ⟨.fn, 1, 8, [.zv 1]⟩))
         (.leaf (some ⟨.fn, 1, 8, [.zv 1]⟩))))))))
   (.node 30
    (.node 15
     (.node 7
      (.node 3
       (.node 1
        (.leaf (some ⟨.ar 2 3, 2, 16, [.int .i64 0, .int .i64 0]⟩))
        (.node 1
         (.leaf (some ⟨.ar 2 22, 2, 48, [.nl, .nl]⟩))
         (.leaf (some ⟨.fn, 1, 8, [.zv 1]⟩))))
       (.node 2
        (.node 1
         (.leaf (some ⟨.fn, 1, 8, [.zv 1]⟩))
         (.leaf (some ⟨.fn, 1, 8, [.zv 1]⟩)))
        (.node 1
         (.leaf (some ⟨.fn, 1, 8, [.zv 1]⟩))
         (.leaf (some ⟨.fn, 1, 8, [.zv 1]⟩)))))
      (.node 4
       (.node 2
        (.node 1
         (.leaf (some ⟨.fn, 1, 8, [.zv 1]⟩))
         (.leaf (some ⟨.fn, 1, 8, [.zv 1]⟩)))
        (.node 1
         (.leaf none)
         (.leaf (some ⟨.fn, 1, 8, [.zv 1]⟩))))
       (.node 2
        (.node 1
         (.leaf none)
         (.leaf (some ⟨.fn, 1, 8, [.zv 1]⟩)))
        (.node 1
         (.leaf (some ⟨.st [(0, 9), (1, 33), (5, 37)], 15, 232, [.str [], .int .i64 0, .int .i64 0, .str [], .nl, .int .i64 0, .int .i64 0, .str [], .int .i64 0, .int .i64 0, .str [], .nl, .nl, .nl, .nl]⟩))
         (.leaf (some ⟨.st [(0, 9), (1, 33), (5, 37)], 15, 232, [.str [], .int .i64 0, .int .i64 0, .str [], .nl, .int .i64 0, .int .i64 0, .str [], .int .i64 0, .int .i64 0, .str [], .nl, .nl, .nl, .nl]⟩))))))
     (.node 7
      (.node 3
       (.node 1
        (.leaf (some ⟨.fn, 1, 8, [.zv 1]⟩))
        (.node 1
         (.leaf (some ⟨.fn, 1, 8, [.zv 1]⟩))
         (.leaf (some ⟨.sl 9, 1, 24, [.nl]⟩))))
       (.node 2
        (.node 1
         (.leaf (some ⟨.st [(0, 3), (1, 3), (2, 9), (3, 76), (4, 37)], 14, 216, [.int .i64 0, .int .i64 0, .str [], .nl, .int .i64 0, .int .i64 0, .str [], .int .i64 0, .int .i64 0, .str [], .nl, .nl, .nl, .nl]⟩))
         (.leaf (some ⟨.st [(0, 3), (1, 3), (2, 9), (3, 76), (4, 37)], 14, 216, [.int .i64 0, .int .i64 0, .str [], .nl, .int .i64 0, .int .i64 0, .str [], .int .i64 0, .int .i64 0, .str [], .nl, .nl, .nl, .nl]⟩)))
        (.node 1
         (.leaf (some ⟨.fn, 1, 8, [.zv 1]⟩))
         (.leaf (some ⟨.fn, 1, 8, [.zv 1]⟩)))))
      (.node 4
       (.node 2
        (.node 1
         (.leaf (some ⟨.pt 83, 1, 8, [.np]⟩))
         (.leaf (some ⟨.st [(0, 22), (1, 3)], 2, 32, [.nl, .int .i64 0]⟩)))
        (.node 1
         (.leaf (some ⟨.st [(0, 22), (1, 3)], 2, 32, [.nl, .int .i64 0]⟩))
         (.leaf (some ⟨.pt 85, 1, 8, [.np]⟩))))
       (.node 2
        (.node 1
         (.leaf (some ⟨.st [(0, 22), (1, 3)], 2, 32, [.nl, .int .i64 0]⟩))
         (.leaf (some ⟨.fn, 1, 8, [.zv 1]⟩)))
        (.node 1
         (.leaf (some ⟨.fn, 1, 8, [.zv 1]⟩))
         (.leaf (some ⟨.fn, 1, 8, [.zv 1]⟩)))))))
    (.node 15
     (.node 7
      (.node 3
       (.node 1
        (.leaf (some ⟨.fn, 1, 8, [.zv 1]⟩))
        (.node 1
         (.leaf (some ⟨.sl 188, 1, 24, [.nl]⟩))
         (.leaf (some ⟨.st [(0, 90), (1, 76), (2, 3)], 3, 56, [.nl, .nl, .int .i64 0]⟩))))
       (.node 2
        (.node 1
         (.leaf (some ⟨.st [(0, 90), (1, 76), (2, 3)], 3, 56, [.nl, .nl, .int .i64 0]⟩))
         (.leaf (some ⟨.fn, 1, 8, [.zv 1]⟩)))
        (.node 1
         (.leaf (some ⟨.fn, 1, 8, [.zv 1]⟩))
         (.leaf (some ⟨.st [(0, 27)], 2, 48, [.nl, .nl]⟩)))))
      (.node 4
       (.node 2
        (.node 1
         (.leaf (some ⟨.st [(0, 27)], 2, 48, [.nl, .nl]⟩))
         (.leaf (some ⟨.fn, 1, 8, [.zv 1]⟩)))
        (.node 1
         (.leaf (some ⟨.fn, 1, 8, [.zv 1]⟩))
         (.leaf (some ⟨.fn, 1, 8, [.zv 1]⟩))))
       (.node 2
        (.node 1
         (.leaf (some ⟨.fn, 1, 8, [.zv 1]⟩))
         (.leaf (some ⟨.fn, 1, 8, [.zv 1]⟩)))
        (.node 1
         (.leaf (some ⟨.fn, 1, 8, [.zv 1]⟩))
         (.leaf (some ⟨.fn, 1, 8, [.zv 1]⟩))))))
     (.node 7
      (.node 3
       (.node 1
        (.leaf (some ⟨.fn, 1, 8, [.zv 1]⟩))
        (.node 1
         (.leaf (some ⟨.pt 107, 1, 8, [.np]⟩))
         (.leaf (some ⟨.st [(0, 27), (2, 3)], 3, 56, [.nl, .nl, .int .i64 0]⟩))))
       (.node 2
        (.node 1
         (.leaf (some ⟨.st [(0, 27), (2, 3)], 3, 56, [.nl, .nl, .int .i64 0]⟩))
         (.leaf (some ⟨.fn, 1, 8, [.zv 1]⟩)))
        (.node 1
         (.leaf none)
         (.leaf (some ⟨.fn, 1, 8, [.zv 1]⟩)))))
      (.node 4
       (.node 2
        (.node 1
         (.leaf (some ⟨.fn, 1, 8, [.zv 1]⟩))
         (.leaf (some ⟨.fn, 1, 8, [.zv 1]⟩)))
        (.node 1
         (.leaf (some ⟨.fn, 1, 8, [.zv 1]⟩))
         (.leaf (some ⟨.fn, 1, 8, [.zv 1]⟩))))
       (.node 2
        (.node 1
         (.leaf (some ⟨.fn, 1, 8, [.zv 1]⟩))
         (.leaf (some ⟨.pt 37, 1, 8, [.np]⟩)))
        (.node 1
         (.leaf (some ⟨.fn, 1, 8, [.zv 1]⟩))
         (.leaf (some ⟨.fn, 1, 8, [.zv 1]⟩)))))))))
  (.node 59
   (.node 29
    (.node 14
     (.node 7
      (.node 3
       (.node 1
        (.leaf (some ⟨.fn, 1, 8, [.zv 1]⟩))
        (.node 1
         (.leaf (some ⟨.sl 125, 1, 24, [.nl]⟩))
         (.leaf (some ⟨.fn, 1, 8, [.zv 1]⟩))))
       (.node 2
        (.node 1
         (.leaf (some ⟨.sl 167, 1, 24, [.nl]⟩))
         (.leaf (some ⟨.sl 116, 1, 24, [.nl]⟩)))
        (.node 1
         (.leaf (some ⟨.st [(0, 122), (1, 123)], 2, 48, [.nl, .nl]⟩))
         (.leaf (some ⟨.st [(0, 122), (1, 123)], 2, 48, [.nl, .nl]⟩)))))
      (.node 3
       (.node 1
        (.leaf (some ⟨.fn, 1, 8, [.zv 1]⟩))
        (.node 1
         (.leaf (some ⟨.fn, 1, 8, [.zv 1]⟩))
         (.leaf (some ⟨.fn, 1, 8, [.zv 1]⟩))))
       (.node 2
        (.node 1
         (.leaf (some ⟨.fn, 1, 8, [.zv 1]⟩))
         (.leaf (some ⟨.st [(0, 76), (1, 76)], 2, 48, [.nl, .nl]⟩)))
        (.node 1
         (.leaf (some ⟨.st [(0, 76), (1, 76)], 2, 48, [.nl, .nl]⟩))
         (.leaf (some ⟨.fn, 1, 8, [.zv 1]⟩))))))
     (.node 7
      (.node 3
       (.node 1
        (.leaf (some ⟨.fn, 1, 8, [.zv 1]⟩))
        (.node 1
         (.leaf (some ⟨.mp 9 177, 1, 8, [.zv 0]⟩))
         (.leaf (some ⟨.fn, 1, 8, [.zv 1]⟩))))
       (.node 2
        (.node 1
         (.leaf (some ⟨.st [(0, 25), (1, 134)], 2, 32, [.nl, .zv 0]⟩))
         (.leaf (some ⟨.st [(0, 25), (1, 134)], 2, 32, [.nl, .zv 0]⟩)))
        (.node 1
         (.leaf (some ⟨.st [(0, 9), (1, 3), (2, 3), (3, 3), (4, 33)], 8, 96, [.str [], .int .i64 0, .int .i64 0, .int .i64 0, .int .i64 0, .int .i64 0, .str [], .nl]⟩))
         (.leaf (some ⟨.st [(0, 9), (1, 3), (2, 3), (3, 3), (4, 33)], 8, 96, [.str [], .int .i64 0, .int .i64 0, .int .i64 0, .int .i64 0, .int .i64 0, .str [], .nl]⟩)))))
      (.node 4
       (.node 2
        (.node 1
         (.leaf (some ⟨.fn, 1, 8, [.zv 1]⟩))
         (.leaf (some ⟨.fn, 1, 8, [.zv 1]⟩)))
        (.node 1
         (.leaf (some ⟨.fn, 1, 8, [.zv 1]⟩))
         (.leaf (some ⟨.fn, 1, 8, [.zv 1]⟩))))
       (.node 2
        (.node 1
         (.leaf (some ⟨.fn, 1, 8, [.zv 1]⟩))
         (.leaf (some ⟨.fn, 1, 8, [.zv 1]⟩)))
        (.node 1
         (.leaf none)
         (.leaf (some ⟨.fn, 1, 8, [.zv 1]⟩)))))))
    (.node 15
     (.node 7
      (.node 3
       (.node 1
        (.leaf (some ⟨.fn, 1, 8, [.zv 1]⟩))
        (.node 1
         (.leaf (some ⟨.fn, 1, 8, [.zv 1]⟩))
         (.leaf none)))
       (.node 2
        (.node 1
         (.leaf (some ⟨.fn, 1, 8, [.zv 1]⟩))
         (.leaf none))
        (.node 1
         (.leaf (some ⟨.fn, 1, 8, [.zv 1]⟩))
         (.leaf (some ⟨.fn, 1, 8, [.zv 1]⟩)))))
      (.node 4
       (.node 2
        (.node 1
         (.leaf (some ⟨.fn, 1, 8, [.zv 1]⟩))
         (.leaf none))
        (.node 1
         (.leaf (some ⟨.fn, 1, 8, [.zv 1]⟩))
         (.leaf (some ⟨.fn, 1, 8, [.zv 1]⟩))))
       (.node 2
        (.node 1
         (.leaf (some ⟨.fn, 1, 8, [.zv 1]⟩))
         (.leaf (some ⟨.fn, 1, 8, [.zv 1]⟩)))
        (.node 1
         (.leaf (some ⟨.fn, 1, 8, [.zv 1]⟩))
         (.leaf (some ⟨.fn, 1, 8, [.zv 1]⟩))))))
     (.node 7
      (.node 3
       (.node 1
        (.leaf (some ⟨.fn, 1, 8, [.zv 1]⟩))
        (.node 1
         (.leaf (some ⟨.fn, 1, 8, [.zv 1]⟩))
         (.leaf (some ⟨.fn, 1, 8, [.zv 1]⟩))))
       (.node 2
        (.node 1
         (.leaf (some ⟨.fn, 1, 8, [.zv 1]⟩))
         (.leaf (some ⟨.pt 9, 1, 8, [.np]⟩)))
        (.node 1
         (.leaf (some ⟨.pt 73, 1, 8, [.np]⟩))
         (.leaf (some ⟨.pt 78, 1, 8, [.np]⟩)))))
      (.node 4
       (.node 2
        (.node 1
         (.leaf (some ⟨.fn, 1, 8, [.zv 1]⟩))
         (.leaf (some ⟨.fn, 1, 8, [.zv 1]⟩)))
        (.node 1
         (.leaf (some ⟨.fn, 1, 8, [.zv 1]⟩))
         (.leaf (some ⟨.fn, 1, 8, [.zv 1]⟩))))
       (.node 2
        (.node 1
         (.leaf (some ⟨.fn, 1, 8, [.zv 1]⟩))
         (.leaf (some ⟨.fn, 1, 8, [.zv 1]⟩)))
        (.node 1
         (.leaf (some ⟨.st [(0, 174), (1, 175)], 2, 16, [.zv 1, .zv 1]⟩))
         (.leaf (some ⟨.st [(0, 174), (1, 175)], 2, 16, [.zv 1, .zv 1]⟩))))))))
   (.node 30
    (.node 15
     (.node 7
      (.node 3
       (.node 1
        (.leaf (some ⟨.fn, 1, 8, [.zv 1]⟩))
        (.node 1
         (.leaf (some ⟨.fn, 1, 8, [.zv 1]⟩))
         (.leaf (some ⟨.fn, 1, 8, [.zv 1]⟩))))
       (.node 2
        (.node 1
         (.leaf none)
         (.leaf (some ⟨.fn, 1, 8, [.zv 1]⟩)))
        (.node 1
         (.leaf (some ⟨.fn, 1, 8, [.zv 1]⟩))
         (.leaf (some ⟨.fn, 1, 8, [.zv 1]⟩)))))
      (.node 4
       (.node 2
        (.node 1
         (.leaf (some ⟨.fn, 1, 8, [.zv 1]⟩))
         (.leaf (some ⟨.fn, 1, 8, [.zv 1]⟩)))
        (.node 1
         (.leaf (some ⟨.st [(0, 9), (1, 33)], 5, 72, [.str [], .int .i64 0, .int .i64 0, .str [], .nl]⟩))
         (.leaf (some ⟨.st [(0, 9), (1, 33)], 5, 72, [.str [], .int .i64 0, .int .i64 0, .str [], .nl]⟩))))
       (.node 2
        (.node 1
         (.leaf (some ⟨.fn, 1, 8, [.zv 1]⟩))
         (.leaf (some ⟨.fn, 1, 8, [.zv 1]⟩)))
        (.node 1
         (.leaf (some ⟨.fn, 1, 8, [.zv 1]⟩))
         (.leaf none)))))
     (.node 7
      (.node 3
       (.node 1
        (.leaf (some ⟨.mp 9 174, 1, 8, [.zv 0]⟩))
        (.node 1
         (.leaf (some ⟨.fn, 1, 8, [.zv 1]⟩))
         (.leaf (some ⟨.fn, 1, 8, [.zv 1]⟩))))
       (.node 2
        (.node 1
         (.leaf (some ⟨.fn, 1, 8, [.zv 1]⟩))
         (.leaf (some ⟨.sl 5, 1, 24, [.nl]⟩)))
        (.node 1
         (.leaf (some ⟨.fn, 1, 8, [.zv 1]⟩))
         (.leaf (some ⟨.fn, 1, 8, [.zv 1]⟩)))))
      (.node 4
       (.node 2
        (.node 1
         (.leaf (some ⟨.fn, 1, 8, [.zv 1]⟩))
         (.leaf (some ⟨.fn, 1, 8, [.zv 1]⟩)))
        (.node 1
         (.leaf none)
         (.leaf (some ⟨.fn, 1, 8, [.zv 1]⟩))))
       (.node 2
        (.node 1
         (.leaf (some ⟨.fn, 1, 8, [.zv 1]⟩))
         (.leaf (some ⟨.sl 76, 1, 24, [.nl]⟩)))
        (.node 1
         (.leaf (some ⟨.fn, 1, 8, [.zv 1]⟩))
         (.leaf (some ⟨.fn, 1, 8, [.zv 1]⟩)))))))
    (.node 15
     (.node 7
      (.node 3
       (.node 1
        (.leaf none)
        (.node 1
         (.leaf (some ⟨.int .u64, 1, 8, [.int .u64 0]⟩))
         (.leaf (some ⟨.fn, 1, 8, [.zv 1]⟩))))
       (.node 2
        (.node 1
         (.leaf (some ⟨.fn, 1, 8, [.zv 1]⟩))
         (.leaf none))
        (.node 1
         (.leaf (some ⟨.fn, 1, 8, [.zv 1]⟩))
         (.leaf (some ⟨.fn, 1, 8, [.zv 1]⟩)))))
      (.node 4
       (.node 2
        (.node 1
         (.leaf none)
         (.leaf (some ⟨.int .u32, 1, 4, [.int .u32 0]⟩)))
        (.node 1
         (.leaf none)
         (.leaf (some ⟨.int .u64, 1, 8, [.int .u64 0]⟩))))
       (.node 2
        (.node 1
         (.leaf (some ⟨.fn, 1, 8, [.zv 1]⟩))
         (.leaf (some ⟨.fn, 1, 8, [.zv 1]⟩)))
        (.node 1
         (.leaf none)
         (.leaf none)))))
     (.node 7
      (.node 3
       (.node 1
        (.leaf (some ⟨.fn, 1, 8, [.zv 1]⟩))
        (.node 1
         (.leaf (some ⟨.st [(0, 17), (1, 17), (2, 17), (3, 9)], 4, 40, [.np, .np, .np, .str []]⟩))
         (.leaf (some ⟨.st [(0, 17), (1, 17), (2, 17), (3, 9)], 4, 40, [.np, .np, .np, .str []]⟩))))
       (.node 2
        (.node 1
         (.leaf (some ⟨.ar 0 16, 0, 0, []⟩))
         (.leaf (some ⟨.st [(0, 226)], 0, 0, []⟩)))
        (.node 1
         (.leaf (some ⟨.st [(0, 226)], 0, 0, []⟩))
         (.leaf (some ⟨.int .u8, 1, 1, [.int .u8 0]⟩)))))
      (.node 4
       (.node 2
        (.node 1
         (.leaf (some ⟨.int .u8, 1, 1, [.int .u8 0]⟩))
         (.leaf (some ⟨.fn, 1, 8, [.zv 1]⟩)))
        (.node 1
         (.leaf (some ⟨.pt 5, 1, 8, [.np]⟩))
         (.leaf (some ⟨.int .i32, 1, 4, [.int .i32 0]⟩))))
       (.node 2
        (.node 1
         (.leaf (some ⟨.int .i32, 1, 4, [.int .i32 0]⟩))
         (.leaf (some ⟨.st [(0, 12), (1, 12), (2, 216), (3, 229), (4, 5), (5, 5), (6, 230), (7, 231), (8, 232), (9, 233), (10, 234)], 11, 48, [.int .u64 0, .int .u64 0, .int .u32 0, .int .u8 0, .int .u8 0, .int .u8 0, .int .u8 0, .zv 1, .np, .int .i32 0, .int .i32 0]⟩)))
        (.node 1
         (.leaf (some ⟨.st [(0, 12), (1, 12), (2, 216), (3, 229), (4, 5), (5, 5), (6, 230), (7, 231), (8, 232), (9, 233), (10, 234)], 11, 48, [.int .u64 0, .int .u64 0, .int .u32 0, .int .u8 0, .int .u8 0, .int .u8 0, .int .u8 0, .zv 1, .np, .int .i32 0, .int .i32 0]⟩))
         (.leaf none))))))))
theorem trw : tr.wf = true := by kernel_rfl
theorem tok : Tok Tryz.prog tr.flat := by unfold Tok; kernel_rfl
theorem tg {t : Nat} {i : TI} (h : tr.get t = some i) : tr.flat[t]? = some (some i) := Tr.get_ok trw h
theorem mixed : Tryz.prog.follows .mixedOrders = true := by kernel_rfl
section
variable {ro : Option Nat} {n : Nat} {ops : Array Oper} {draw : Bool} {k k' : Nat} {e : Nat → Option V} {h0 : Heap} {d0 : List Nat} {st' : St} {pre pre' : REs} {tr' : Tr} {ob : List Prop} {kf : List Nat} {id : Nat}
/-- A region by computation (integers; 'agN': natural numbers). -/
theorem ag {Q : Exit → St → Prop} (hs : List (Nat × Hn)) (h : axGo Tryz.prog tr true false n ops.toList hs 1000 0 ops.toList e h0 d0 [] [] = some (st', k', pre', ob)) (hq : Q .normal st')
    (hc : conj ob := by repeat (first | exact trivial | refine ⟨by first | omega | assumption | exact ⟨by kernel_rfl, by assumption⟩ | rfl | (simp only [List.length_cons, List.length_nil]; omega) | (simp; done) | (simp; omega), ?_⟩)) (h1 : Nat.beq k' ops.size = true := by rfl) (h2 : (!draw || (apartGo (preds ops) pre'.reverse [] && edgesOk ops)) = true := by kernel_rfl) : AWp ro Tryz.prog n kf (.region id ops draw) ⟨e, h0, d0⟩ Q :=
  awp_ax mixed trw tok h hc h1 h2 hq
theorem agN {Q : Exit → St → Prop} (hs : List (Nat × Hn)) (h : axGo Tryz.prog tr true true n ops.toList hs 1000 0 ops.toList e h0 d0 [] [] = some (st', k', pre', ob)) (hq : Q .normal st')
    (hc : conj ob := by repeat (first | exact trivial | refine ⟨by first | omega | assumption | exact ⟨by kernel_rfl, by assumption⟩ | rfl | (simp only [List.length_cons, List.length_nil]; omega) | (simp; done) | (simp; omega), ?_⟩)) (h1 : Nat.beq k' ops.size = true := by rfl) (h2 : (!draw || (apartGo (preds ops) pre'.reverse [] && edgesOk ops)) = true := by kernel_rfl) : AWp ro Tryz.prog n kf (.region id ops draw) ⟨e, h0, d0⟩ Q :=
  awp_ax mixed trw tok h hc h1 h2 hq
/-- Some operations. -/
theorem ak {Q : St → Prop} (m : Nat) (hs : List (Nat × Hn)) (h : axGo Tryz.prog tr true false n ops.toList hs m k (ops.toList.drop k) e h0 d0 pre [] = some (st', k', pre', ob)) (hk : RunK Tryz.prog n ops draw k' st' pre' Q)
    (hc : conj ob := by repeat (first | exact trivial | refine ⟨by first | omega | assumption | exact ⟨by kernel_rfl, by assumption⟩ | rfl | (simp only [List.length_cons, List.length_nil]; omega) | (simp; done) | (simp; omega), ?_⟩)) : RunK Tryz.prog n ops draw k ⟨e, h0, d0⟩ pre Q :=
  ax_ m trw tok h hc hk
theorem akN {Q : St → Prop} (m : Nat) (hs : List (Nat × Hn)) (h : axGo Tryz.prog tr true true n ops.toList hs m k (ops.toList.drop k) e h0 d0 pre [] = some (st', k', pre', ob)) (hk : RunK Tryz.prog n ops draw k' st' pre' Q)
    (hc : conj ob := by repeat (first | exact trivial | refine ⟨by first | omega | assumption | exact ⟨by kernel_rfl, by assumption⟩ | rfl | (simp only [List.length_cons, List.length_nil]; omega) | (simp; done) | (simp; omega), ?_⟩)) : RunK Tryz.prog n ops draw k ⟨e, h0, d0⟩ pre Q :=
  ax_ m trw tok h hc hk
/-- A region with guards, of which the first m operations have none. -/
theorem agF {Q : Exit → St → Prop} {e1 : Nat → Option V} {hh1 : Heap} {d1 : List Nat} {ob1 : List Prop} {res : Res} {L : List (Nat × Option V)} (m : Nat) (hs : List (Nat × Hn)) (g1 : axGo Tryz.prog tr true false n ops.toList hs m 0 ops.toList e h0 d0 [] [] = some (⟨e1, hh1, d1⟩, k', pre', ob1))
    (g2 : axGoF Tryz.prog tr true false n ops.toList hs (dstL (ops.toList.drop k')) 1000 k' (ops.toList.drop k') e1 hh1 d1 [] pre' ob1 = some res) (g3 : mergeL res (dstL (ops.toList.drop k')) = some L) (hq : Q .normal ⟨updAll e1 L, hh1, d1⟩)
    (ho : res.obs := by repeat (first | exact trivial | refine ⟨fun _ => ?_, fun _ => ?_⟩ | refine ⟨by first | omega | assumption | exact ⟨by kernel_rfl, by assumption⟩ | rfl | (simp only [List.length_cons, List.length_nil]; omega) | (simp; done) | (simp; omega), ?_⟩)) (hg : res.good ops draw = true := by kernel_rfl) : AWp ro Tryz.prog n kf (.region id ops draw) ⟨e, h0, d0⟩ Q :=
  awp_axF m mixed trw tok g1 g2 g3 ho hg hq
theorem az {Q : St → Prop} (hq : Q ⟨e, h0, d0⟩) (h1 : Nat.beq k ops.size = true := by rfl) (h2 : (!draw || (apartGo (preds ops) pre.reverse [] && edgesOk ops)) = true := by kernel_rfl) : RunK Tryz.prog n ops draw k ⟨e, h0, d0⟩ pre Q := z_ h1 h2 hq
end
end Go.Proofs.YtmoekkcdkjopgaaGreatDoor

/- THE DATA of core, and the small functions of the references. -/
namespace Go.Proofs.YtmoekkcdkjopgaaGreatDoor
open Go Go.AM
set_option maxRecDepth 20000
abbrev Str := List UInt8
def encS (s : Str) : List C := [.str s]
inductive Ty where
  | mk (form n : Int) (name : Str) (args : List Ty)
mutual
inductive Core where
  | mk (form n : Int) (name : Str) (ty : Ty) (kids : List Core) (binds : List Bind) (alts : List Alt)
inductive Bind where
  | mk (name : Str) (ty : Ty) (body : Core)
inductive Alt where
  | mk (form n : Int) (name : Str) (vars : List Str) (body : Core)
end
def Ty.form : Ty → Int | .mk f _ _ _ => f
def Ty.n : Ty → Int | .mk _ n _ _ => n
def Ty.name : Ty → Str | .mk _ _ s _ => s
def Ty.args : Ty → List Ty | .mk _ _ _ l => l
def Core.form : Core → Int | .mk f _ _ _ _ _ _ => f
def Core.n : Core → Int | .mk _ n _ _ _ _ _ => n
def Core.name : Core → Str | .mk _ _ s _ _ _ _ => s
def Core.ty : Core → Ty | .mk _ _ _ t _ _ _ => t
def Core.kids : Core → List Core | .mk _ _ _ _ l _ _ => l
def Core.binds : Core → List Bind | .mk _ _ _ _ _ l _ => l
def Core.alts : Core → List Alt | .mk _ _ _ _ _ _ l => l
def Bind.name : Bind → Str | .mk s _ _ => s
def Bind.ty : Bind → Ty | .mk _ t _ => t
def Bind.body : Bind → Core | .mk _ _ c => c
def Alt.form : Alt → Int | .mk f _ _ _ _ => f
def Alt.n : Alt → Int | .mk _ n _ _ _ => n
def Alt.name : Alt → Str | .mk _ _ s _ _ => s
def Alt.vars : Alt → List Str | .mk _ _ _ l _ => l
def Alt.body : Alt → Core | .mk _ _ _ _ c => c
mutual
def encArgs : Ty → List (List C)
  | .mk _ _ _ a => encTys a
def encTys : List Ty → List (List C)
  | [] => []
  | t :: l => [.int .i64 t.form, .int .i64 t.n, .str t.name, .sl 4 (encArgs t)] :: encTys l
end
/-- A type's cells: of whatever type, as long as it is one. -/
def encTy (t : Ty) : List C := [.int .i64 t.form, .int .i64 t.n, .str t.name, .sl 4 (encArgs t)]
mutual
def encKids : Core → List (List C)
  | .mk _ _ _ _ l _ _ => encCores l
def encLets : Core → List (List C)
  | .mk _ _ _ _ _ l _ => encBinds l
def encCases : Core → List (List C)
  | .mk _ _ _ _ _ _ l => encAlts l
def encCores : List Core → List (List C)
  | [] => []
  | c :: l => [.int .i64 c.form, .int .i64 c.n, .str c.name, .int .i64 c.ty.form, .int .i64 c.ty.n, .str c.ty.name, .sl 4 (encArgs c.ty), .sl 10 (encKids c), .sl 15 (encLets c), .sl 14 (encCases c)] :: encCores l
def encBody : Bind → List C
  | .mk _ _ c => [.int .i64 c.form, .int .i64 c.n, .str c.name, .int .i64 c.ty.form, .int .i64 c.ty.n, .str c.ty.name, .sl 4 (encArgs c.ty), .sl 10 (encKids c), .sl 15 (encLets c), .sl 14 (encCases c)]
def encBinds : List Bind → List (List C)
  | [] => []
  | b :: l => ([.str b.name, .int .i64 b.ty.form, .int .i64 b.ty.n, .str b.ty.name, .sl 4 (encArgs b.ty)] ++ encBody b) :: encBinds l
def encThen : Alt → List C
  | .mk _ _ _ _ c => [.int .i64 c.form, .int .i64 c.n, .str c.name, .int .i64 c.ty.form, .int .i64 c.ty.n, .str c.ty.name, .sl 4 (encArgs c.ty), .sl 10 (encKids c), .sl 15 (encLets c), .sl 14 (encCases c)]
def encAlts : List Alt → List (List C)
  | [] => []
  | a :: l => ([.int .i64 a.form, .int .i64 a.n, .str a.name, .sl 1 (a.vars.map encS)] ++ encThen a) :: encAlts l
end
def encCore (c : Core) : List C := [.int .i64 c.form, .int .i64 c.n, .str c.name, .int .i64 c.ty.form, .int .i64 c.ty.n, .str c.ty.name, .sl 4 (encArgs c.ty), .sl 10 (encKids c), .sl 15 (encLets c), .sl 14 (encCases c)]
def encBind (b : Bind) : List C := [.str b.name, .int .i64 b.ty.form, .int .i64 b.ty.n, .str b.ty.name, .sl 4 (encArgs b.ty)] ++ encCore b.body
def encAlt (a : Alt) : List C := [.int .i64 a.form, .int .i64 a.n, .str a.name, .sl 1 (a.vars.map encS)] ++ encCore a.body
theorem getEnc {α : Type} {l : List α} {k : Nat} {x : α} (f : α → List C) (h : l[k]? = some x) : (l.map f)[k]? = some (f x) := by rw [List.getElem?_map, h]; rfl
theorem get_of_lt {α : Type} {l : List α} {k : Nat} (h : k < l.length) : ∃ x, l[k]? = some x := ⟨l[k], by simp [h]⟩
theorem encCores_map : ∀ l : List Core, encCores l = l.map encCore
  | [] => by simp [encCores]
  | c :: l => by rw [encCores, encCores_map l]; rfl
theorem encBinds_map : ∀ l : List Bind, encBinds l = l.map encBind
  | [] => by simp [encBinds]
  | .mk s t c :: l => by rw [encBinds, encBinds_map l]; rfl
theorem encAlts_map : ∀ l : List Alt, encAlts l = l.map encAlt
  | [] => by simp [encAlts]
  | .mk f n s v c :: l => by rw [encAlts, encAlts_map l]; rfl
theorem encTys_map : ∀ l : List Ty, encTys l = l.map encTy
  | [] => by simp [encTys]
  | c :: l => by rw [encTys, encTys_map l]; rfl
/-- A slice that fits in memory. -/
def Fits {α : Type} (l : List α) : Prop := l.length ≤ 1152921504606846976
theorem c_has (l : List Str) (s : Str) (hl : Fits l) : ImpC Tryz.prog 93 [.one (.c (.sl 1 (l.map encS))), Go.AM.T s] [] (B (decide (s ∈ l))) [] := by
  unfold Fits at hl
  refine impC (n := 18) tok Tryz.func93 rfl rfl rfl ?_
  refine awp_seq (ag [] rfl ?_)
  refine awp_seq (awp_seq (ag [] rfl ?_))
  refine awp_block (awp_loop (fun k : Nat => mk [(0, .one (.c (.sl 1 (l.map encS)))), (1, Go.AM.T s), (5, I .i64 k)] []) (fun k => k ≤ l.length ∧ s ∉ l.take k) (fun k => l.length - k) 0 ⟨Nat.zero_le _, by simp⟩ (.list (fun i => i) ⟨rfl, rfl, rfl, trivial⟩ trivial rfl) ?_)
  intro k ⟨hk, hm⟩
  refine awp_seq (awp_seq (ag [] rfl ?_))
  refine awp_cond rfl (fun hb => ?_) (fun hb => ?_)
  · refine awp_skip ?_
    have hlt : k < l.length := by simpa using hb
    obtain ⟨x, hx⟩ := get_of_lt hlt
    have hx' := getEnc encS hx
    refine awp_seq (awp_block (awp_seq (ag [(2, .row k (encS x))] rfl ?_)))
    refine awp_cond rfl (fun hb => ?_) (fun hb => ?_)
    · refine awp_seq (ag [] rfl ?_)
      refine awp_ret ?_
      have hxs : x = s := by simpa using hb
      have : s ∈ l := by rw [← hxs]; exact List.mem_of_getElem? hx
      exact ⟨.inr rfl, ⟨_, _, .tmp rfl .nil, .cons .refl .nil, by simp [tupV, this]⟩, trivial, rfl⟩
    · refine awp_skip (ag [] rfl ?_)
      refine ⟨k + 1, ⟨hlt, ?_⟩, by dsimp only; omega, .list (fun i => i) ⟨rfl, rfl, rfl, trivial⟩ trivial rfl⟩
      rw [List.take_add_one, hx]
      have hxs : ¬ x = s := by simpa using hb
      have hxs' : ¬ s = x := fun e => hxs e.symm
      simp [hm, hxs']
  · refine awp_exit ?_
    have hge : k = l.length := by
      have : ¬ k < l.length := by simpa using hb
      omega
    refine awp_seq (ag [] rfl ?_)
    refine awp_ret ?_
    rw [hge, List.take_length] at hm
    exact ⟨.inr rfl, ⟨_, _, .tmp rfl .nil, .cons .refl .nil, by simp [tupV, hm]⟩, trivial, rfl⟩
/-- A number folded to be at least 0, and the rest of it. -/
def around (n k : Int) : Int := (if n < 0 then -(n + 1) else n) % k
def i64 (n : Int) : Prop := -9223372036854775808 ≤ n ∧ n ≤ 9223372036854775807
theorem around_lt (n : Int) {k : Int} (hk : 0 < k) : 0 ≤ around n k ∧ around n k < k := ⟨Int.emod_nonneg _ (by omega), Int.emod_lt_of_pos _ hk⟩
theorem c_around (n k : Int) (hn : i64 n) (hk : 1 ≤ k) : ImpC Tryz.prog 16 [I .i64 n, I .i64 k] [] (I .i64 (around n k)) [] := by
  unfold i64 at hn
  refine impC (n := 13) tok Tryz.func16 rfl rfl rfl ?_
  refine awp_seq (ag [] rfl ?_)
  refine awp_seq (awp_seq (ag [] rfl ?_))
  refine awp_cond rfl (fun hb => ?_) (fun hb => ?_)
  · have h0 : n < 0 := by simpa using hb
    refine ag [] rfl ?_
    refine awp_seq (ag [] rfl ?_)
    refine awp_ret ?_
    exact ⟨.inr rfl, ⟨_, _, .tmp rfl .nil, .cons .refl .nil, by simp [tupV, around, h0]⟩, trivial, rfl⟩
  · have h0 : ¬ n < 0 := by simpa using hb
    refine awp_skip (awp_seq (ag [] rfl ?_))
    refine awp_ret ?_
    exact ⟨.inr rfl, ⟨_, _, .tmp rfl .nil, .cons .refl .nil, by simp [tupV, around, h0]⟩, trivial, rfl⟩
end Go.Proofs.YtmoekkcdkjopgaaGreatDoor

/- NUMBERS, NAMES, TYPES: the makers' small functions. -/
namespace Go.Proofs.YtmoekkcdkjopgaaGreatDoor
open Go Go.AM
set_option maxRecDepth 20000
def encI (n : Int) : List C := [.int .i64 n]
/-- One of some texts. -/
def oneOf (l : List Str) (n : Int) : Str := (l[(around n l.length).toNat]?).getD []
theorem oneOf_at {l : List Str} {n : Int} {k : Nat} (hl : 0 < l.length) (h : around n l.length = k) : (l.map encS)[k]? = some (encS (oneOf l n)) := by
  have h1 := (around_lt n (k := l.length) (by omega)).2
  have hk : k < l.length := by omega
  unfold oneOf
  rw [h]
  simp [hk]
def nmL : List Str := [[120], [121], [97], [98], [122, 64, 49]]
def conL : List Str := [[78], [67], [84, 114, 117, 101], [75, 64]]
def primL : List Str := [[97, 100, 100], [115, 117, 98], [109, 117, 108], [100, 105, 118], [101, 113], [108, 116]]
def tnmL : List Str := [[97], [98], [99], [120]]
theorem c_name (n : Int) (hn : i64 n) : ImpC Tryz.prog 82 [I .i64 n] [] (Go.AM.T (oneOf nmL n)) [] := by
  refine impC (n := 8) tok Tryz.func82 rfl rfl rfl ?_
  refine awp_seq (ag [] rfl ?_)
  obtain ⟨k, hk⟩ := Int.eq_ofNat_of_zero_le (around_lt n (k := 5) (by omega)).1
  have hx := oneOf_at (l := nmL) (n := n) (by decide) hk
  have hlt := (around_lt n (k := 5) (by omega)).2
  refine awp_seq (awp_rg mixed ?_)
  refine ak 2 [] rfl ?_
  refine kc (c_around n 5 hn (by omega)) ?_
  refine ak 3 [(3, .row k []), (4, .row k (encS (oneOf nmL n)))] rfl ?_
  refine az ?_
  refine awp_ret ?_
  exact ⟨.inr rfl, ⟨_, _, .tmp rfl .nil, .cons .refl .nil, rfl⟩, trivial, rfl⟩
theorem c_con (n : Int) (hn : i64 n) : ImpC Tryz.prog 83 [I .i64 n] [] (Go.AM.T (oneOf conL n)) [] := by
  refine impC (n := 8) tok Tryz.func83 rfl rfl rfl ?_
  refine awp_seq (ag [] rfl ?_)
  obtain ⟨k, hk⟩ := Int.eq_ofNat_of_zero_le (around_lt n (k := 4) (by omega)).1
  have hx := oneOf_at (l := conL) (n := n) (by decide) hk
  have hlt := (around_lt n (k := 4) (by omega)).2
  refine awp_seq (awp_rg mixed ?_)
  refine ak 2 [] rfl ?_
  refine kc (c_around n 4 hn (by omega)) ?_
  refine ak 3 [(3, .row k []), (4, .row k (encS (oneOf conL n)))] rfl ?_
  refine az ?_
  refine awp_ret ?_
  exact ⟨.inr rfl, ⟨_, _, .tmp rfl .nil, .cons .refl .nil, rfl⟩, trivial, rfl⟩
theorem c_prim (n : Int) (hn : i64 n) : ImpC Tryz.prog 86 [I .i64 n] [] (Go.AM.T (oneOf primL n)) [] := by
  refine impC (n := 8) tok Tryz.func86 rfl rfl rfl ?_
  refine awp_seq (ag [] rfl ?_)
  obtain ⟨k, hk⟩ := Int.eq_ofNat_of_zero_le (around_lt n (k := 6) (by omega)).1
  have hx := oneOf_at (l := primL) (n := n) (by decide) hk
  have hlt := (around_lt n (k := 6) (by omega)).2
  refine awp_seq (awp_rg mixed ?_)
  refine ak 2 [] rfl ?_
  refine kc (c_around n 6 hn (by omega)) ?_
  refine ak 3 [(3, .row k []), (4, .row k (encS (oneOf primL n)))] rfl ?_
  refine az ?_
  refine awp_ret ?_
  exact ⟨.inr rfl, ⟨_, _, .tmp rfl .nil, .cons .refl .nil, rfl⟩, trivial, rfl⟩
theorem c_tname (n : Int) (hn : i64 n) : ImpC Tryz.prog 24 [I .i64 n] [] (Go.AM.T (oneOf tnmL n)) [] := by
  refine impC (n := 8) tok Tryz.func24 rfl rfl rfl ?_
  refine awp_seq (ag [] rfl ?_)
  obtain ⟨k, hk⟩ := Int.eq_ofNat_of_zero_le (around_lt n (k := 4) (by omega)).1
  have hx := oneOf_at (l := tnmL) (n := n) (by decide) hk
  have hlt := (around_lt n (k := 4) (by omega)).2
  refine awp_seq (awp_rg mixed ?_)
  refine ak 2 [] rfl ?_
  refine kc (c_around n 4 hn (by omega)) ?_
  refine ak 3 [(3, .row k []), (4, .row k (encS (oneOf tnmL n)))] rfl ?_
  refine az ?_
  refine awp_ret ?_
  exact ⟨.inr rfl, ⟨_, _, .tmp rfl .nil, .cons .refl .nil, rfl⟩, trivial, rfl⟩
/-- Types: an application, a function's type. -/
def tapp (a b : Ty) : Ty := .mk 4 0 [] [a, b]
def arrow : Str := [45, 62]
def tfun (a b : Ty) : Ty := tapp (tapp (.mk 3 0 arrow []) a) b
theorem c_app (a b : Ty) : ImpC Tryz.prog 87 [.pa (encTy a), .pa (encTy b)] [] (.pa (encTy (tapp a b))) [] := by
  obtain ⟨f, n, s, l⟩ := a
  obtain ⟨f', n', s', l'⟩ := b
  refine impC (n := 9) tok Tryz.func87 rfl rfl rfl ?_
  refine awp_seq (ag [] rfl ?_)
  refine awp_seq (ag [] rfl ?_)
  refine AWp.sub (Sub.freeze (id := 7) rfl) (awp_ret ?_)
  exact ⟨.inr rfl, ⟨_, _, .cell rfl (tg rfl) rfl rfl rfl .nil, .cons (.agg (.c .refl (.c .refl (.c .refl (.hs rfl rfl rfl .nil))))) .nil, rfl⟩, trivial, rfl⟩
theorem c_fun (a b : Ty) : ImpC Tryz.prog 38 [.pa (encTy a), .pa (encTy b)] [] (.pa (encTy (tfun a b))) [] := by
  obtain ⟨f, n, s, l⟩ := a
  obtain ⟨f', n', s', l'⟩ := b
  refine impC (n := 10) tok Tryz.func38 rfl rfl rfl ?_
  refine awp_seq (ag [] rfl ?_)
  refine awp_seq (awp_rg mixed ?_)
  refine ak 2 [] rfl ?_
  refine kc (c_app (.mk 3 0 arrow []) (.mk f n s l)) ?_
  refine ak 1 [] rfl ?_
  refine kc (c_app (tapp (.mk 3 0 arrow []) (.mk f n s l)) (.mk f' n' s' l')) ?_
  refine ak 1 [] rfl ?_
  refine az ?_
  refine awp_ret ?_
  exact ⟨.inr rfl, ⟨_, _, .cell rfl (tg rfl) rfl rfl rfl .nil, .cons .refl .nil, rfl⟩, trivial, rfl⟩
/-- The next number. -/
def nextR : List Int → Int × List Int
  | [] => (0, [])
  | x :: l => (around x 1000, l)
/-- A maker: its numbers, and how many nodes there may be yet. -/
def mkO (l : List Int) (left : Int) : List (Nat × AObj) := [(700, .var 83 [.c (.sl 1 (l.map encI)), .c (.int .i64 left)])]
def Nums (l : List Int) : Prop := ∀ x ∈ l, i64 x
theorem c_next (l : List Int) (left : Int) (hl : Nums l) (hf : Fits l) : ImpC Tryz.prog 81 [.one (.vp 700 0)] (mkO l left) (I .i64 (nextR l).1) (mkO (nextR l).2 left) := by
  unfold Fits at hf
  refine impC (n := 26) tok Tryz.func81 rfl rfl rfl ?_
  refine awp_seq (ag [] rfl ?_)
  refine awp_seq (awp_seq (ag [] rfl ?_))
  cases l with
  | nil =>
    refine awp_cond rfl (fun hb => ?_) (fun hb => by simp at hb)
    refine awp_seq (ag [] rfl ?_)
    refine awp_ret ?_
    exact ⟨.inr rfl, ⟨_, _, .tmp rfl .nil, .cons .refl .nil, rfl⟩, ⟨⟨_, rfl, .var rfl⟩, trivial⟩, rfl⟩
  | cons x l =>
    refine awp_cond rfl (fun hb => by simp at hb; omega) (fun hb => ?_)
    refine awp_skip (awp_seq (awp_rg mixed ?_))
    refine ak 6 [] rfl ?_
    refine kc (c_around x 1000 (hl x (by simp)) (by omega)) ?_
    refine ak 1 [] rfl ?_
    refine az ?_
    refine awp_seq (ag [] rfl ?_)
    refine awp_seq (ag [] rfl ?_)
    refine awp_ret ?_
    exact ⟨.inr rfl, ⟨_, _, .tmp rfl .nil, .cons .refl .nil, rfl⟩, ⟨⟨_, rfl, .var rfl⟩, trivial⟩, rfl⟩
end Go.Proofs.YtmoekkcdkjopgaaGreatDoor

/- TYPES, made of numbers. -/
namespace Go.Proofs.YtmoekkcdkjopgaaGreatDoor
open Go Go.AM
set_option maxRecDepth 20000
theorem nextR_suf (l : List Int) : (nextR l).2 <:+ l := by
  cases l with
  | nil => exact List.suffix_refl _
  | cons x l => exact ⟨[x], rfl⟩
theorem nextR_lt (l : List Int) : 0 ≤ (nextR l).1 ∧ (nextR l).1 < 1000 := by
  cases l with
  | nil => simp [nextR]
  | cons x l => exact around_lt x (by omega)
theorem Nums.suf {l l' : List Int} (h : Nums l) (hs : l' <:+ l) : Nums l' := fun x hx => h x (hs.subset hx)
theorem Fits.suf {l l' : List Int} (h : Fits l) (hs : l' <:+ l) : Fits l' := by
  have := hs.length_le
  unfold Fits at *
  omega
def tInt : Ty := .mk 3 0 [73, 110, 116] []
def tL : Ty := .mk 3 0 [76] []
/-- A type, of the next numbers, so many levels deep yet. -/
def typR : Nat → List Int → Ty × List Int
  | 0, l => if (nextR l).1 % 3 < 2 then (.mk 2 0 (oneOf tnmL ((nextR l).1 / 6)) [], (nextR l).2) else (tInt, (nextR l).2)
  | f + 1, l =>
    if (nextR l).1 % 6 < 2 then (.mk 2 0 (oneOf tnmL ((nextR l).1 / 6)) [], (nextR l).2)
    else if (nextR l).1 % 6 = 2 then (tInt, (nextR l).2)
    else if (nextR l).1 % 6 = 3 then (tfun (typR f (nextR l).2).1 (typR f (typR f (nextR l).2).2).1, (typR f (typR f (nextR l).2).2).2)
    else if (nextR l).1 % 6 = 4 then (tapp tL (typR f (nextR l).2).1, (typR f (nextR l).2).2)
    else (.mk 5 0 (oneOf tnmL ((nextR l).1 / 6)) [(typR f (nextR l).2).1], (typR f (nextR l).2).2)
theorem typR_suf : ∀ (f : Nat) (l : List Int), (typR f l).2 <:+ l
  | 0, l => by
    unfold typR
    split <;> exact nextR_suf l
  | f + 1, l => by
    have h1 := (typR_suf f (nextR l).2).trans (nextR_suf l)
    have h2 := (typR_suf f (typR f (nextR l).2).2).trans h1
    unfold typR
    split
    · exact nextR_suf l
    · split
      · exact nextR_suf l
      · split
        · exact h2
        · split <;> exact h1
def tyV (t : Ty) : V := .pa (encTy t)
theorem c_typ (left : Int) : ∀ (f : Nat) (l : List Int) (dp : Int), Nums l → Fits l → dp + f = 3 → 1 ≤ dp → ImpC Tryz.prog 84 [.one (.vp 700 0), I .i64 dp] (mkO l left) (tyV (typR f l).1) (mkO (typR f l).2 left) := by
  intro f
  induction f with
  | zero =>
    intro l dp hl hf hd h1
    have hn := nextR_lt l
    refine impC (n := 57) tok Tryz.func84 rfl rfl rfl ?_
    refine awp_seq (ag [] rfl ?_)
    refine awp_seq (awp_rg mixed ?_)
    refine ak 1 [] rfl ?_
    refine kc (c_next l left hl hf) ?_
    refine ak 1 [] rfl ?_
    refine az ?_
    refine awp_seq (ag [] rfl ?_)
    refine awp_seq (awp_seq (ag [] rfl ?_))
    refine awp_cond rfl (fun hb => ?_) (fun hb => by simp at hb; omega)
    refine ag [] rfl ?_
    refine awp_seq (awp_seq (ag [] rfl ?_))
    refine awp_block (awp_seq (awp_seq (ag [] rfl ?_)))
    refine awp_cond rfl (fun hb => ?_) (fun hb => ?_)
    · have hr : typR 0 l = (.mk 2 0 (oneOf tnmL ((nextR l).1 / 6)) [], (nextR l).2) := by
        unfold typR
        rw [if_pos (by simp at hb; omega)]
      refine awp_skip (awp_cond rfl (fun _ => ?_) (fun hb' => by rw [hb] at hb'; cases hb'))
      refine awp_seq (awp_rg mixed ?_)
      refine ak 2 [] rfl ?_
      refine kc (c_tname ((nextR l).1 / 6) (by unfold i64; omega)) ?_
      refine ak 2 [] rfl ?_
      refine az ?_
      refine awp_ret ?_
      rw [hr]
      exact ⟨.inr rfl, ⟨_, _, .cell rfl (tg rfl) rfl rfl rfl .nil, .cons (.pa (.c .refl (.c .refl (.c .refl (.c .nl .nil))))) .nil, rfl⟩, ⟨⟨_, rfl, .var rfl⟩, trivial⟩, rfl⟩
    · refine ag [] rfl ?_
      refine awp_cond rfl (fun hb1 => ?_) (fun hb1 => ?_)
      · have hr : typR 0 l = (.mk 2 0 (oneOf tnmL ((nextR l).1 / 6)) [], (nextR l).2) := by
          unfold typR
          rw [if_pos (by simp at hb1; omega)]
        refine awp_seq (awp_rg mixed ?_)
        refine ak 2 [] rfl ?_
        refine kc (c_tname ((nextR l).1 / 6) (by unfold i64; omega)) ?_
        refine ak 2 [] rfl ?_
        refine az ?_
        refine awp_ret ?_
        rw [hr]
        exact ⟨.inr rfl, ⟨_, _, .cell rfl (tg rfl) rfl rfl rfl .nil, .cons (.pa (.c .refl (.c .refl (.c .refl (.c .nl .nil))))) .nil, rfl⟩, ⟨⟨_, rfl, .var rfl⟩, trivial⟩, rfl⟩
      · have hr : typR 0 l = (tInt, (nextR l).2) := by
          unfold typR
          rw [if_neg (by simp at hb hb1; omega)]
        refine awp_seq (ag [] rfl ?_)
        refine awp_cond rfl (fun hb2 => ?_) (fun hb2 => by simp at hb hb1 hb2; omega)
        refine awp_seq (ag [] rfl ?_)
        refine awp_ret ?_
        rw [hr]
        exact ⟨.inr rfl, ⟨_, _, .cell rfl (tg rfl) rfl rfl rfl .nil, .cons (.pa (.c .refl (.c .refl (.c .refl (.c .nl .nil))))) .nil, rfl⟩, ⟨⟨_, rfl, .var rfl⟩, trivial⟩, rfl⟩
  | succ f ih =>
    intro l dp hl hf hd h1
    have hn := nextR_lt l
    have hl1 := hl.suf (nextR_suf l)
    have hf1 := hf.suf (nextR_suf l)
    have hl2 := hl1.suf (typR_suf f (nextR l).2)
    have hf2 := hf1.suf (typR_suf f (nextR l).2)
    refine impC (n := 57) tok Tryz.func84 rfl rfl rfl ?_
    refine awp_seq (ag [] rfl ?_)
    refine awp_seq (awp_rg mixed ?_)
    refine ak 1 [] rfl ?_
    refine kc (c_next l left hl hf) ?_
    refine ak 1 [] rfl ?_
    refine az ?_
    refine awp_seq (ag [] rfl ?_)
    refine awp_seq (awp_seq (ag [] rfl ?_))
    refine awp_cond rfl (fun hb => by simp at hb; omega) (fun hb => ?_)
    refine awp_skip (awp_seq (awp_seq (ag [] rfl ?_)))
    refine awp_block (awp_seq (awp_seq (ag [] rfl ?_)))
    refine awp_cond rfl (fun hb => ?_) (fun hb => ?_)
    · have hr : typR (f + 1) l = (.mk 2 0 (oneOf tnmL ((nextR l).1 / 6)) [], (nextR l).2) := by
        unfold typR
        rw [if_pos (by simp at hb; omega)]
      refine awp_skip (awp_cond rfl (fun _ => ?_) (fun hb' => by rw [hb] at hb'; cases hb'))
      refine awp_seq (awp_rg mixed ?_)
      refine ak 2 [] rfl ?_
      refine kc (c_tname ((nextR l).1 / 6) (by unfold i64; omega)) ?_
      refine ak 2 [] rfl ?_
      refine az ?_
      refine awp_ret ?_
      rw [hr]
      exact ⟨.inr rfl, ⟨_, _, .cell rfl (tg rfl) rfl rfl rfl .nil, .cons (.pa (.c .refl (.c .refl (.c .refl (.c .nl .nil))))) .nil, rfl⟩, ⟨⟨_, rfl, .var rfl⟩, trivial⟩, rfl⟩
    · refine ag [] rfl ?_
      refine awp_cond rfl (fun hb1 => ?_) (fun hb1 => ?_)
      · have hr : typR (f + 1) l = (.mk 2 0 (oneOf tnmL ((nextR l).1 / 6)) [], (nextR l).2) := by
          unfold typR
          rw [if_pos (by simp at hb1; omega)]
        refine awp_seq (awp_rg mixed ?_)
        refine ak 2 [] rfl ?_
        refine kc (c_tname ((nextR l).1 / 6) (by unfold i64; omega)) ?_
        refine ak 2 [] rfl ?_
        refine az ?_
        refine awp_ret ?_
        rw [hr]
        exact ⟨.inr rfl, ⟨_, _, .cell rfl (tg rfl) rfl rfl rfl .nil, .cons (.pa (.c .refl (.c .refl (.c .refl (.c .nl .nil))))) .nil, rfl⟩, ⟨⟨_, rfl, .var rfl⟩, trivial⟩, rfl⟩
      · have hlt : ¬ (nextR l).1 % 6 < 2 := by simp at hb hb1; omega
        refine awp_seq (ag [] rfl ?_)
        refine awp_cond rfl (fun hb2 => ?_) (fun hb2 => ?_)
        · have hr : typR (f + 1) l = (tInt, (nextR l).2) := by
            have h2 : (nextR l).1 % 6 = 2 := by simpa using hb2
            unfold typR
            rw [if_neg hlt, if_pos h2]
          refine awp_seq (ag [] rfl ?_)
          refine awp_ret ?_
          rw [hr]
          exact ⟨.inr rfl, ⟨_, _, .cell rfl (tg rfl) rfl rfl rfl .nil, .cons (.pa (.c .refl (.c .refl (.c .refl (.c .nl .nil))))) .nil, rfl⟩, ⟨⟨_, rfl, .var rfl⟩, trivial⟩, rfl⟩
        · have h2 : ¬ (nextR l).1 % 6 = 2 := by simpa using hb2
          have ih1 := ih (nextR l).2 (dp + 1) hl1 hf1 (by omega) (by omega)
          have ih2 := ih (typR f (nextR l).2).2 (dp + 1) hl2 hf2 (by omega) (by omega)
          refine awp_seq (ag [] rfl ?_)
          refine awp_cond rfl (fun hb3 => ?_) (fun hb3 => ?_)
          · have h3 : (nextR l).1 % 6 = 3 := by simpa using hb3
            have hr : typR (f + 1) l = (tfun (typR f (nextR l).2).1 (typR f (typR f (nextR l).2).2).1, (typR f (typR f (nextR l).2).2).2) := by
              rw [typR, if_neg hlt, if_neg h2, if_pos h3]
            rw [hr]
            generalize typR f (typR f (nextR l).2).2 = r2 at ih2 ⊢
            generalize typR f (nextR l).2 = r1 at ih1 ih2 ⊢
            obtain ⟨⟨f1, n1, s1, a1⟩, l1⟩ := r1
            obtain ⟨⟨f2, n2, s2, a2⟩, l2⟩ := r2
            refine awp_seq (awp_rg mixed ?_)
            refine ak 3 [] rfl ?_
            refine kc ih1 ?_
            refine ak 2 [] rfl ?_
            refine az ?_
            refine awp_seq (awp_rg mixed ?_)
            refine ak 4 [] rfl ?_
            refine kc ih2 ?_
            refine kc (c_fun (.mk f1 n1 s1 a1) (.mk f2 n2 s2 a2)) ?_
            refine ak 1 [] rfl ?_
            refine az ?_
            refine awp_ret ?_
            exact ⟨.inr rfl, ⟨_, _, .cell rfl (tg rfl) rfl rfl rfl .nil, .cons .refl .nil, rfl⟩, ⟨⟨_, rfl, .var rfl⟩, trivial⟩, rfl⟩
          · have h3 : ¬ (nextR l).1 % 6 = 3 := by simpa using hb3
            refine awp_seq (ag [] rfl ?_)
            refine awp_cond rfl (fun hb4 => ?_) (fun hb4 => ?_)
            · have h4 : (nextR l).1 % 6 = 4 := by simpa using hb4
              have hr : typR (f + 1) l = (tapp tL (typR f (nextR l).2).1, (typR f (nextR l).2).2) := by
                rw [typR, if_neg hlt, if_neg h2, if_neg h3, if_pos h4]
              rw [hr]
              clear ih2
              generalize typR f (nextR l).2 = r1 at ih1 ⊢
              obtain ⟨⟨f1, n1, s1, a1⟩, l1⟩ := r1
              refine awp_seq (awp_rg mixed ?_)
              refine ak 4 [] rfl ?_
              refine kc ih1 ?_
              refine ak 3 [] rfl ?_
              refine az ?_
              refine AWp.sub (Sub.freeze (id := 46) rfl) (awp_ret ?_)
              exact ⟨.inr rfl, ⟨_, _, .cell rfl (tg rfl) rfl rfl rfl .nil, .cons (.agg (.c .refl (.c .refl (.c .refl (.hs rfl rfl rfl .nil))))) .nil, rfl⟩, ⟨⟨_, rfl, .var rfl⟩, trivial⟩, rfl⟩
            · have h4 : ¬ (nextR l).1 % 6 = 4 := by simpa using hb4
              have hr : typR (f + 1) l = (.mk 5 0 (oneOf tnmL ((nextR l).1 / 6)) [(typR f (nextR l).2).1], (typR f (nextR l).2).2) := by
                rw [typR, if_neg hlt, if_neg h2, if_neg h3, if_neg h4]
              rw [hr]
              clear ih2
              generalize typR f (nextR l).2 = r1 at ih1 ⊢
              obtain ⟨⟨f1, n1, s1, a1⟩, l1⟩ := r1
              refine awp_skip (awp_seq (awp_rg mixed ?_))
              refine ak 2 [] rfl ?_
              refine kc (c_tname ((nextR l).1 / 6) (by unfold i64; omega)) ?_
              refine ak 3 [] rfl ?_
              refine kc ih1 ?_
              refine ak 3 [] rfl ?_
              refine az ?_
              refine AWp.sub (Sub.freeze (id := 55) rfl) (awp_ret ?_)
              exact ⟨.inr rfl, ⟨_, _, .cell rfl (tg rfl) rfl rfl rfl .nil, .cons (.agg (.c .refl (.c .refl (.c .refl (.hs rfl rfl rfl .nil))))) .nil, rfl⟩, ⟨⟨_, rfl, .var rfl⟩, trivial⟩, rfl⟩
end Go.Proofs.YtmoekkcdkjopgaaGreatDoor

/- NAMES, made of numbers. -/
namespace Go.Proofs.YtmoekkcdkjopgaaGreatDoor
open Go Go.AM
set_option maxRecDepth 20000
/-- One more, if it is not there. -/
def addN (l : List Str) (s : Str) : List Str := if s ∈ l then l else l ++ [s]
def nameAt (n : Int) (i : Nat) : Str := oneOf nmL (n / 4 + (i : Int) * (1 + n % 2))
def namesTo (n : Int) : Nat → List Str
  | 0 => []
  | i + 1 => addN (namesTo n i) (nameAt n i)
def namesR (l : List Int) : List Str × List Int := (namesTo (nextR l).1 ((nextR l).1 % 4).toNat, (nextR l).2)
theorem addN_len (l : List Str) (s : Str) : (addN l s).length ≤ l.length + 1 := by
  unfold addN
  split <;> simp
theorem namesTo_len (n : Int) : ∀ i : Nat, (namesTo n i).length ≤ i
  | 0 => Nat.le_refl _
  | i + 1 => Nat.le_trans (addN_len _ _) (Nat.succ_le_succ (namesTo_len n i))
theorem c_names (left : Int) (l : List Int) (hl : Nums l) (hf : Fits l) : ImpC Tryz.prog 85 [.one (.vp 700 0)] (mkO l left) (.one (.c (.sl 1 ((namesR l).1.map encS)))) (mkO (namesR l).2 left) := by
  have hn := nextR_lt l
  refine impC (n := 33) tok Tryz.func85 rfl rfl rfl ?_
  refine awp_seq (ag [] rfl ?_)
  refine awp_seq (awp_rg mixed ?_)
  refine ak 1 [] rfl ?_
  refine kc (c_next l left hl hf) ?_
  refine ak 1 [] rfl ?_
  refine az ?_
  refine awp_seq (ag [] rfl ?_)
  refine awp_seq (awp_seq (ag [] rfl ?_))
  refine AWp.sub (Sub.own (t := 4) (id := 500) 9 1 rfl rfl) (AWp.sub (Sub.freeze (id := 500) rfl) ?_)
  refine awp_block (awp_loop (fun i : Nat => mk [(3, I .i64 (nextR l).1), (4, .one (.hs 500 0 (namesTo (nextR l).1 i).length (namesTo (nextR l).1 i).length)), (5, I .i64 i)] ((500, .arr 9 1 ((namesTo (nextR l).1 i).map encS) 2) :: mkO (nextR l).2 left)) (fun i => (i : Int) ≤ (nextR l).1 % 4) (fun i => 4 - i) 0 (by simp; omega) (.list (fun i => i) ⟨rfl, rfl, rfl, trivial⟩ ⟨⟨_, rfl, .arr⟩, ⟨_, rfl, .var rfl⟩, trivial⟩ rfl) ?_)
  intro i hi
  have hlen := namesTo_len (nextR l).1 i
  refine awp_seq (awp_seq (ag [] rfl ?_))
  refine awp_cond rfl (fun hb => ?_) (fun hb => ?_)
  · refine awp_skip ?_
    have hlt : (i : Int) < (nextR l).1 % 4 := by simpa using hb
    have hi64 : i64 ((nextR l).1 / 4 + (i : Int) * (1 + (nextR l).1 % 2)) := by
      have h1 : (i : Int) ≤ 4 := by omega
      have h2 : (i : Int) * (1 + (nextR l).1 % 2) ≤ 4 * 2 := Int.mul_le_mul h1 (by omega) (by omega) (by omega)
      have h3 : 0 ≤ (i : Int) * (1 + (nextR l).1 % 2) := Int.mul_nonneg (by omega) (by omega)
      unfold i64
      omega
    have hm : -9223372036854775808 ≤ (i : Int) * (1 + (nextR l).1 % 2) ∧ (i : Int) * (1 + (nextR l).1 % 2) ≤ 9223372036854775807 := by
      have h1 : (i : Int) ≤ 4 := by omega
      have h2 : (i : Int) * (1 + (nextR l).1 % 2) ≤ 4 * 2 := Int.mul_le_mul h1 (by omega) (by omega) (by omega)
      have h3 : 0 ≤ (i : Int) * (1 + (nextR l).1 % 2) := Int.mul_nonneg (by omega) (by omega)
      omega
    refine awp_seq (awp_block (awp_seq (awp_rg mixed ?_)))
    unfold i64 at hi64
    refine ak 8 [] rfl ?_
    refine kc (c_name _ hi64) ?_
    refine ak 1 [] rfl ?_
    refine az ?_
    refine awp_seq (awp_rg mixed ?_)
    refine ak 2 [] rfl ?_
    refine kc (c_has (namesTo (nextR l).1 i) (nameAt (nextR l).1 i) (by unfold Fits; omega)) ?_
    refine ak 1 [] rfl ?_
    refine az ?_
    refine awp_cond rfl (fun hb => ?_) (fun hb => ?_)
    · have hni : nameAt (nextR l).1 i ∉ namesTo (nextR l).1 i := by simpa using hb
      refine ag [] rfl ?_
      refine AWp.sub (Sub.freeze (id := 500) rfl) ?_
      refine ag [] rfl ?_
      have he : namesTo (nextR l).1 (i + 1) = namesTo (nextR l).1 i ++ [nameAt (nextR l).1 i] := by rw [namesTo, addN, if_neg hni]
      refine ⟨i + 1, by dsimp only; omega, by dsimp only; omega, .list (fun i => i) ⟨rfl, ?_, rfl, trivial⟩ ⟨⟨_, rfl, by rw [he, List.map_append]; exact .arr⟩, ⟨_, rfl, .var rfl⟩, trivial⟩ rfl⟩
      show some (V.one (R.hs 500 0 _ _)) = some (V.one (R.hs 500 0 _ _))
      rw [he]
      simp
    · have hni : nameAt (nextR l).1 i ∈ namesTo (nextR l).1 i := by simpa using hb
      have he : namesTo (nextR l).1 (i + 1) = namesTo (nextR l).1 i := by rw [namesTo, addN, if_pos hni]
      refine awp_skip (ag [] rfl ?_)
      refine ⟨i + 1, by dsimp only; omega, by dsimp only; omega, ?_⟩
      dsimp only
      rw [he]
      exact .list (fun i => i) ⟨rfl, rfl, rfl, trivial⟩ ⟨⟨_, rfl, .arr⟩, ⟨_, rfl, .var rfl⟩, trivial⟩ rfl
  · have hge : ((nextR l).1 % 4).toNat = i := by
      have : ¬ (i : Int) < (nextR l).1 % 4 := by simpa using hb
      omega
    have hr : namesR l = (namesTo (nextR l).1 i, (nextR l).2) := by unfold namesR; rw [hge]
    refine awp_exit (awp_seq (ag [] rfl (awp_ret ?_)))
    rw [hr]
    exact ⟨.inr rfl, ⟨_, _, .tmp rfl .nil, .cons (.one (.hs rfl (by simp) Go.AM.take_map.symm .nil)) .nil, rfl⟩, ⟨⟨_, rfl, .var rfl⟩, trivial⟩, rfl⟩
end Go.Proofs.YtmoekkcdkjopgaaGreatDoor

/- CORE, made of numbers: what is made. -/
namespace Go.Proofs.YtmoekkcdkjopgaaGreatDoor
open Go Go.AM
set_option maxRecDepth 20000
def zTy : Ty := .mk 0 0 [] []
abbrev Mk := Core × List Int × Int
/-- The binds of a let, one behind the other. -/
def bindsTo (g : List Int → Int → Mk) (ns : List Str) (l : List Int) (left : Int) : Nat → List Bind × List Int × Int
  | 0 => ([], l, left)
  | i + 1 => let r := bindsTo g ns l left i
    let c := g (typR 2 r.2.1).2 r.2.2
    (r.1 ++ [.mk (ns[i]?.getD []) (typR 2 r.2.1).1 c.1], c.2)
/-- The alternatives of a case, one behind the other. -/
def altsTo (g : List Int → Int → Mk) (n : Int) (l : List Int) (left : Int) : Nat → List Alt × List Int × Int
  | 0 => ([], l, left)
  | i + 1 => let r := altsTo g n l left i
    let c := g (namesR r.2.1).2 r.2.2
    (r.1 ++ [if i = 1 then .mk 2 (n / 14) [] [] c.1 else if i = 2 then .mk 3 0 [] [] c.1 else .mk 1 0 (oneOf conL (n / 14 + i)) (namesR r.2.1).1 c.1], c.2)
/-- Core of a kind, of the next numbers. -/
def coreK (g : List Int → Int → Mk) (n k : Int) (l : List Int) (left : Int) : Mk :=
  if k < 2 then (.mk 1 0 (oneOf nmL (n / 14)) zTy [] [] [], l, left)
  else if k = 2 then (.mk 2 0 (oneOf conL (n / 14)) zTy [] [] [], l, left)
  else if k = 3 then (.mk 3 (n / 14 - 3) [] zTy [] [] [], l, left)
  else if k < 6 then (.mk 4 0 [] zTy [(g l left).1, (g (g l left).2.1 (g l left).2.2).1] [] [], (g (g l left).2.1 (g l left).2.2).2)
  else if k < 8 then (.mk 5 0 (oneOf nmL (n / 14)) (typR 2 l).1 [(g (typR 2 l).2 left).1] [] [], (g (typR 2 l).2 left).2)
  else if k = 8 then (.mk 6 0 [] (typR 2 l).1 [(g (typR 2 l).2 left).1] [] [], (g (typR 2 l).2 left).2)
  else if k = 9 then (.mk 7 0 (oneOf tnmL (n / 14)) zTy [(g l left).1] [] [], (g l left).2)
  else if k = 10 then
    let r := bindsTo g (namesR l).1 (namesR l).2 left (namesR l).1.length
    (.mk 8 0 [] zTy [(g r.2.1 r.2.2).1] r.1 [], (g r.2.1 r.2.2).2)
  else if k = 11 then
    let c := g (typR 2 l).2 left
    let r := altsTo g n c.2.1 c.2.2 (n / 14 % 4).toNat
    (.mk 9 0 [] (typR 2 l).1 [c.1] [] r.1, r.2)
  else if k = 12 then (.mk 10 0 (oneOf primL (n / 14)) zTy [(g l left).1, (g (g l left).2.1 (g l left).2.2).1] [] [], (g (g l left).2.1 (g l left).2.2).2)
  else (.mk 11 0 [] (typR 2 l).1 [] [] [], (typR 2 l).2, left)
/-- Core, so many levels deep yet. -/
def coreR : Nat → List Int → Int → Mk
  | 0, l, left => coreK (fun l left => (.mk 0 0 [] zTy [] [] [], l, left)) (nextR l).1 ((nextR l).1 % 4) (nextR l).2 (left - 1)
  | f + 1, l, left => coreK (coreR f) (nextR l).1 (if left - 1 < 1 then (nextR l).1 % 4 else (nextR l).1 % 14) (nextR l).2 (left - 1)
/-- What a maker of core does: to its numbers, to what is left. -/
structure MkOk (g : List Int → Int → Mk) (N : Nat) : Prop where
  suf : ∀ l left, (g l left).2.1 <:+ l
  le : ∀ l left, (g l left).2.2 ≤ left
  ge : ∀ l left, left ≤ (g l left).2.2 + N
theorem namesR_suf (l : List Int) : (namesR l).2 <:+ l := nextR_suf l
theorem namesR_len (l : List Int) : (namesR l).1.length ≤ 3 := by
  have h1 := namesTo_len (nextR l).1 ((nextR l).1 % 4).toNat
  have h2 : ((nextR l).1 % 4).toNat ≤ 3 := by omega
  exact Nat.le_trans h1 h2
theorem bindsTo_ok {g : List Int → Int → Mk} {N : Nat} (h : MkOk g N) (ns : List Str) (l : List Int) (left : Int) : ∀ i : Nat, (bindsTo g ns l left i).2.1 <:+ l ∧ (bindsTo g ns l left i).2.2 ≤ left ∧ left ≤ (bindsTo g ns l left i).2.2 + (i : Int) * N ∧ (bindsTo g ns l left i).1.length = i
  | 0 => by simp [bindsTo]
  | i + 1 => by
    obtain ⟨h1, h2, h3, h4⟩ := bindsTo_ok h ns l left i
    simp only [bindsTo]
    refine ⟨((h.suf _ _).trans (typR_suf 2 _)).trans h1, Int.le_trans (h.le _ _) h2, ?_, by simp [h4]⟩
    have := h.ge (typR 2 (bindsTo g ns l left i).2.1).2 (bindsTo g ns l left i).2.2
    rw [show ((i + 1 : Nat) : Int) * (N : Int) = (i : Int) * N + N by rw [Int.natCast_add, Int.add_mul]; simp]
    omega
theorem altsTo_ok {g : List Int → Int → Mk} {N : Nat} (h : MkOk g N) (n : Int) (l : List Int) (left : Int) : ∀ i : Nat, (altsTo g n l left i).2.1 <:+ l ∧ (altsTo g n l left i).2.2 ≤ left ∧ left ≤ (altsTo g n l left i).2.2 + (i : Int) * N ∧ (altsTo g n l left i).1.length = i
  | 0 => by simp [altsTo]
  | i + 1 => by
    obtain ⟨h1, h2, h3, h4⟩ := altsTo_ok h n l left i
    simp only [altsTo]
    refine ⟨((h.suf _ _).trans (namesR_suf _)).trans h1, Int.le_trans (h.le _ _) h2, ?_, by simp [h4]⟩
    have := h.ge (namesR (altsTo g n l left i).2.1).2 (altsTo g n l left i).2.2
    rw [show ((i + 1 : Nat) : Int) * (N : Int) = (i : Int) * N + N by rw [Int.natCast_add, Int.add_mul]; simp]
    omega
theorem coreK_ok {g : List Int → Int → Mk} {N : Nat} (h : MkOk g N) (n k : Int) (l : List Int) (left : Int) : (coreK g n k l left).2.1 <:+ l ∧ (coreK g n k l left).2.2 ≤ left ∧ left ≤ (coreK g n k l left).2.2 + 4 * N := by
  have ht := typR_suf 2 l
  have hg1 := h.suf l left
  have hg2 := h.le l left
  have hg3 := h.ge l left
  have hh1 := h.suf (g l left).2.1 (g l left).2.2
  have hh2 := h.le (g l left).2.1 (g l left).2.2
  have hh3 := h.ge (g l left).2.1 (g l left).2.2
  have hu1 := h.suf (typR 2 l).2 left
  have hu2 := h.le (typR 2 l).2 left
  have hu3 := h.ge (typR 2 l).2 left
  unfold coreK
  split
  · exact ⟨List.suffix_refl _, Int.le_refl _, by dsimp only; omega⟩
  split
  · exact ⟨List.suffix_refl _, Int.le_refl _, by dsimp only; omega⟩
  split
  · exact ⟨List.suffix_refl _, Int.le_refl _, by dsimp only; omega⟩
  split
  · exact ⟨hh1.trans hg1, by dsimp only; omega, by dsimp only; omega⟩
  split
  · exact ⟨hu1.trans ht, by dsimp only; omega, by dsimp only; omega⟩
  split
  · exact ⟨hu1.trans ht, by dsimp only; omega, by dsimp only; omega⟩
  split
  · exact ⟨hg1, by dsimp only; omega, by dsimp only; omega⟩
  split
  · have hl := namesR_len l
    obtain ⟨b1, b2, b3, _⟩ := bindsTo_ok h (namesR l).1 (namesR l).2 left (namesR l).1.length
    have c1 := h.suf (bindsTo g (namesR l).1 (namesR l).2 left (namesR l).1.length).2.1 (bindsTo g (namesR l).1 (namesR l).2 left (namesR l).1.length).2.2
    have c2 := h.le (bindsTo g (namesR l).1 (namesR l).2 left (namesR l).1.length).2.1 (bindsTo g (namesR l).1 (namesR l).2 left (namesR l).1.length).2.2
    have c3 := h.ge (bindsTo g (namesR l).1 (namesR l).2 left (namesR l).1.length).2.1 (bindsTo g (namesR l).1 (namesR l).2 left (namesR l).1.length).2.2
    have hm : (((namesR l).1.length : Nat) : Int) * (N : Int) ≤ 3 * (N : Int) := Int.mul_le_mul_of_nonneg_right (by omega) (by omega)
    exact ⟨(c1.trans b1).trans (namesR_suf l), by dsimp only; omega, by dsimp only; omega⟩
  split
  · obtain ⟨b1, b2, b3, _⟩ := altsTo_ok h n (g (typR 2 l).2 left).2.1 (g (typR 2 l).2 left).2.2 (n / 14 % 4).toNat
    have hm : (((n / 14 % 4).toNat : Nat) : Int) * (N : Int) ≤ 3 * (N : Int) := Int.mul_le_mul_of_nonneg_right (by omega) (by omega)
    exact ⟨(b1.trans hu1).trans ht, by dsimp only; omega, by dsimp only; omega⟩
  split
  · exact ⟨hh1.trans hg1, by dsimp only; omega, by dsimp only; omega⟩
  · exact ⟨ht, Int.le_refl _, by dsimp only; omega⟩
/-- How much may be used up, so many levels deep. -/
def use : Nat → Nat
  | 0 => 1
  | f + 1 => 1 + 4 * use f
theorem coreR_ok : ∀ f : Nat, MkOk (coreR f) (use f)
  | 0 => by
    have h : MkOk (fun l left => ((.mk 0 0 [] zTy [] [] [], l, left) : Mk)) 0 := ⟨fun _ _ => List.suffix_refl _, fun _ _ => Int.le_refl _, fun _ _ => by simp⟩
    refine ⟨fun l left => ?_, fun l left => ?_, fun l left => ?_⟩ <;> obtain ⟨h1, h2, h3⟩ := coreK_ok h (nextR l).1 ((nextR l).1 % 4) (nextR l).2 (left - 1) <;> simp only [coreR, use]
    · exact h1.trans (nextR_suf l)
    · omega
    · simp only [Int.natCast_zero, Int.mul_zero, Int.add_zero] at h3; omega
  | f + 1 => by
    have h := coreR_ok f
    refine ⟨fun l left => ?_, fun l left => ?_, fun l left => ?_⟩ <;> obtain ⟨h1, h2, h3⟩ := coreK_ok h (nextR l).1 (if left - 1 < 1 then (nextR l).1 % 4 else (nextR l).1 % 14) (nextR l).2 (left - 1) <;> simp only [coreR, use]
    · exact h1.trans (nextR_suf l)
    · omega
    · simp only [Int.natCast_add, Int.natCast_mul]; omega
end Go.Proofs.YtmoekkcdkjopgaaGreatDoor
