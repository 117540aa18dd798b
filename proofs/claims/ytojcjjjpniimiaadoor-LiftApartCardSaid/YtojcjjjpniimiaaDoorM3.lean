/-
  Texts Am13, Am14, Am15, Am16, Am17, Am18 in one.
-/
import Derived.Test.YtojcjjjpniimiaaDoorM2
import Derived.RangeFuncRecord
import Derived.IntWalk
import Derived.Laws.StructEq
/- A FUNCTION's BODY; steps of the proof's own: an array is frozen, a nil slice is an empty array. -/
namespace Go.AM
open Go

/-! ### Steps of the proof's own -/
/-- An array's cells stay from now on. -/
theorem Sim.freeze {G : Ctx} {n : Nat} {S : Sto} {μ : Mu} {a : Act} {w : World} {st : St} {id te es : Nat} {elems : List (List C)} {fz : Nat} (h : st.h id = some (.arr te es elems fz)) (hs : Sim G n S μ st a w) : ∃ S' μ', Sim G n S' μ' ⟨st.e, upd st.h id (some (.arr te es elems 2)), st.d⟩ a w := by
  have hO := hs.inv.obj id _ h
  have hE0 : ∀ S', S.le S' → Evolve S μ st.h S' μ (upd st.h id (some (.arr te es elems 2))) := fun S' hle => ⟨hle, fun j x hj => by
    by_cases hne : j = id
    · subst hne
      rw [h] at hj; cases hj
      exact ⟨_, upd_same _ _ _, by simp [AObj.succ]⟩
    · exact ⟨x, by rw [upd_ne _ _ _ hne]; exact hj, x.succ_refl rfl⟩⟩
  have hold : ∀ j x, upd st.h id (some (.arr te es elems 2)) j = some x → ∃ x', st.h j = some x' := fun j x hj => by
    by_cases hne : j = id
    · subst hne; exact ⟨_, h⟩
    · rw [upd_ne _ _ _ hne] at hj; exact ⟨_, hj⟩
  obtain ⟨h1, h2, h3, h4, h5, h6, h7, h8⟩ := hs.inv
  obtain ⟨g0, ⟨g1, g2⟩ | ⟨b, base, cap, vs, g1, g2, g3, g4, g5, g6, g7, g8, g9⟩⟩ := hO
  · -- no block yet
    have hE := hE0 S S.le_refl
    refine ⟨S, μ, ⟨h1, fun j x hj => ?_, fun i j x x' b c c' hi hj hm hm' => ?_, fun i x b c hi hm => ?_, h5, h6, h7, h8.trans hE⟩, hs.size, hs.defers.evolve hE, fun t v e => VRel.evolve hE v _ (hs.env t v e)⟩
    · by_cases hne : j = id
      · subst hne
        have hj' : some (AObj.arr te es elems 2) = some x := by rw [← hj]; exact (upd_same _ _ _).symm
        cases hj'
        exact ⟨g0, .inl ⟨g1, g2⟩⟩
      · have hj' : st.h j = some x := by rw [← hj]; exact (upd_ne _ _ _ hne).symm
        exact (h2 j x hj').evolve hE rfl fun _ _ _ => ⟨rfl, fun _ => rfl, rfl⟩
    · obtain ⟨_, hi'⟩ := hold _ _ hi
      obtain ⟨_, hj'⟩ := hold _ _ hj
      exact h3 i j _ _ b c c' hi' hj' hm hm'
    · obtain ⟨_, hi'⟩ := hold _ _ hi
      exact h4 i _ b c hi' hm
  · let S' : Sto := ⟨fun b' o => if b' = b ∧ base ≤ o ∧ o < base + elems.length * es then vs[o]? else S.cell b' o, S.mapo⟩
    have hcell : ∀ o v, S.cell b o = some v → vs[o]? = some v := fun o v e => by
      obtain ⟨vs0, t0, fr0, p1, p2⟩ := h1.1 b o v e
      rw [g2] at p1; cases p1
      simpa using p2
    have hle : S.le S' := ⟨fun b' o v e => by
      show (if b' = b ∧ base ≤ o ∧ o < base + elems.length * es then vs[o]? else S.cell b' o) = some v
      by_cases hc : b' = b ∧ base ≤ o ∧ o < base + elems.length * es
      · rw [if_pos hc]
        obtain ⟨rfl, _⟩ := hc
        exact hcell o v e
      · rw [if_neg hc]; exact e, fun b' m e => e⟩
    have hE := hE0 S' hle
    have hsame : ∀ b' o, b' ≠ b → S'.cell b' o = S.cell b' o := fun b' o hne => if_neg fun hc => hne hc.1
    refine ⟨S', μ, ⟨⟨fun b' o v e => ?_, h1.2⟩, fun j x hj => ?_, fun i j x x' b c c' hi hj hm hm' => ?_, fun i x b c hi hm => ?_, h5, Sto.le_trans h6 hle, fun b' hb hF => ?_, h8.trans hE⟩, hs.size, hs.defers.evolve hE, fun t v e => VRel.evolve hE v _ (hs.env t v e)⟩
    · by_cases hc : b' = b ∧ base ≤ o ∧ o < base + elems.length * es
      · have e' : vs[o]? = some v := by rw [← e]; exact (if_pos hc).symm
        obtain ⟨rfl, _⟩ := hc
        exact ⟨⟨vs⟩, te, (0, 0), g2, by simpa using e'⟩
      · have e' : S.cell b' o = some v := by rw [← e]; exact (if_neg hc).symm
        exact h1.1 b' o v e'
    · by_cases hne : j = id
      · subst hne
        have hj' : some (AObj.arr te es elems 2) = some x := by rw [← hj]; exact (upd_same _ _ _).symm
        cases hj'
        refine ⟨g0, .inr ⟨b, base, cap, vs, g1, g2, g3, g4, g5, RepL.mono hle _ _ g6, (fun e => by cases e), fun o ho => ?_, fun _ i v hi => ?_⟩⟩
        · show (if b = b ∧ base ≤ o ∧ o < base + elems.length * es then vs[o]? else S.cell b o) = none
          rw [if_neg (by omega)]
          exact g8 o ho
        · rw [List.getElem?_take] at hi
          split at hi
          · rw [List.getElem?_drop] at hi
            show (if b = b ∧ base ≤ base + i ∧ base + i < base + elems.length * es then vs[base + i]? else S.cell b (base + i)) = some v
            rw [if_pos ⟨rfl, by omega, by omega⟩]
            exact hi
          · cases hi
      · have hj' : st.h j = some x := by rw [← hj]; exact (upd_ne _ _ _ hne).symm
        refine (h2 j x hj').evolve hE rfl fun b' c' hm => ⟨rfl, fun o => hsame b' o ?_, rfl⟩
        rintro rfl
        exact hne (h3 j id x _ b' c' _ hj' h hm g1)
    · obtain ⟨_, hi'⟩ := hold _ _ hi
      obtain ⟨_, hj'⟩ := hold _ _ hj
      exact h3 i j _ _ b c c' hi' hj' hm hm'
    · obtain ⟨_, hi'⟩ := hold _ _ hi
      exact h4 i _ b c hi' hm
    · have hne : b' ≠ b := by
        rintro rfl
        rcases h4 id _ b' _ h g1 with h9 | h9
        · omega
        · exact hF h9
      exact ⟨fun o => (hsame b' o hne).trans ((h7 b' hb hF).1 o), (h7 b' hb hF).2⟩

theorem Sub.freeze {kf : List Nat} {st : St} {id te es : Nat} {elems : List (List C)} {fz : Nat} (h : st.h id = some (.arr te es elems fz)) : Sub kf ⟨st.e, upd st.h id (some (.arr te es elems 2)), st.d⟩ st :=
  fun _ _ _ _ _ _ _ hs => hs.freeze h
theorem Inv.empty {G : Ctx} {S : Sto} {μ : Mu} {H : Heap} {w : World} {id : Nat} (te es : Nat) (h : Inv G S μ H w) (hid : H id = none) : Inv G S (upd μ id none) (upd H id (some (.arr te es [] 0))) w ∧ Evolve S μ H S (upd μ id none) (upd H id (some (.arr te es [] 0))) := by
  have hE : Evolve S μ H S (upd μ id none) (upd H id (some (.arr te es [] 0))) := evolve_new hid _ _
  refine ⟨⟨h.holds, fun j x hj => ?_, fun i j x x' b c c' hi hj hm hm' => ?_, fun i x b c hi hm => ?_, h.frame, h.sle, h.sto, h.evo.trans hE⟩, hE⟩
  · by_cases hne : j = id
    · subst hne
      rw [upd_same] at hj; cases hj
      exact ⟨by simp, .inl ⟨upd_same _ _ _, rfl⟩⟩
    · rw [upd_ne _ _ _ hne] at hj
      exact (h.obj j x hj).evolve hE (upd_ne _ _ _ hne) fun _ _ _ => ⟨rfl, fun _ => rfl, rfl⟩
  · have h1 : i ≠ id := fun e => by subst e; rw [upd_same] at hm; cases hm
    have h2 : j ≠ id := fun e => by subst e; rw [upd_same] at hm'; cases hm'
    rw [upd_ne _ _ _ h1] at hi hm
    rw [upd_ne _ _ _ h2] at hj hm'
    exact h.inj i j x x' b c c' hi hj hm hm'
  · have h1 : i ≠ id := fun e => by subst e; rw [upd_same] at hm; cases hm
    rw [upd_ne _ _ _ h1] at hi hm
    exact h.own i x b c hi hm

/-- A slot that holds nil holds an empty array of the call's own. -/
theorem Sub.own {kf : List Nat} {st : St} {t id : Nat} (te es : Nat) (h : st.e t = some (.one (.c .nl))) (hid : st.h id = none) : Sub kf ⟨upd st.e t (some (.one (.hs id 0 0 0))), upd st.h id (some (.arr te es [] 0)), st.d⟩ st := by
  intro G n S μ a w _ hs
  obtain ⟨hi, hE⟩ := hs.inv.empty te es hid
  refine ⟨S, upd μ id none, ⟨hi, hs.size, hs.defers.evolve hE, fun s v e => ?_⟩⟩
  by_cases hst : s = t
  · subst hst
    have hv := hs.env s _ h
    have e' : v = .one (.hs id 0 0 0) := by
      have : some v = some (V.one (.hs id 0 0 0)) := by rw [← e]; exact upd_same _ _ _
      cases this; rfl
    subst e'
    simp only [VRel, RRel, Rep] at hv ⊢
    exact ⟨⟨_, _, _, hv⟩, .inr ⟨te, es, [], 0, upd_same _ _ _, Nat.le_refl _, fun _ => ⟨Nat.le_refl _, .inl ⟨upd_same _ _ _, rfl, hv⟩⟩⟩⟩
  · have e' : st.e s = some v := by rw [← e]; exact (upd_ne _ _ _ hst).symm
    exact VRel.evolve hE v _ (hs.env s v e')

/-- A cell of a variable that holds nil, likewise. -/
theorem Sub.ownCell {kf : List Nat} {st : St} {x k id tv : Nat} {cells : List R} (te es : Nat) (h : st.h x = some (.var tv cells)) (hk : cells[k]? = some (.c .nl)) (hid : st.h id = none) :
    Sub kf ⟨st.e, upd (upd st.h id (some (.arr te es [] 0))) x (some (.var tv (cells.set k (.hs id 0 0 0)))), st.d⟩ st := by
  intro G n S μ a w _ hs
  obtain ⟨hi, hE⟩ := hs.inv.empty te es hid
  have hne : x ≠ id := fun e => by subst e; rw [h] at hid; cases hid
  have hx : upd st.h id (some (.arr te es [] 0)) x = some (.var tv cells) := by rw [upd_ne _ _ _ hne]; exact h
  obtain ⟨b, vs, g1, g2, g3, g4⟩ := hi.obj x _ hx
  have hE2 : Evolve S (upd μ id none) (upd st.h id (some (.arr te es [] 0))) S (upd μ id none) (upd (upd st.h id (some (.arr te es [] 0))) x (some (.var tv (cells.set k (.hs id 0 0 0))))) := ⟨S.le_refl, fun j y hj => by
    by_cases hjx : j = x
    · subst hjx
      rw [hx] at hj; cases hj
      exact ⟨_, upd_same _ _ _, by simp [AObj.succ]⟩
    · exact ⟨y, by rw [upd_ne _ _ _ hjx]; exact hj, y.succ_refl rfl⟩⟩
  have hold : ∀ j y, upd (upd st.h id (some (.arr te es [] 0))) x (some (.var tv (cells.set k (.hs id 0 0 0)))) j = some y → ∃ y', upd st.h id (some (.arr te es [] 0)) j = some y' := fun j y hj => by
    by_cases hjx : j = x
    · subst hjx; exact ⟨_, hx⟩
    · rw [upd_ne _ _ _ hjx] at hj; exact ⟨_, hj⟩
  refine ⟨S, upd μ id none, ⟨⟨hi.holds, fun j y hj => ?_, fun i j y y' b c c' hi' hj hm hm' => ?_, fun i y b c hi' hm => ?_, hi.frame, hi.sle, hi.sto, hi.evo.trans hE2⟩, hs.size, hs.defers.evolve (hE.trans hE2), fun s v e => VRel.evolve (hE.trans hE2) v _ (hs.env s v e)⟩⟩
  · by_cases hjx : j = x
    · subst hjx
      have hj' : some (AObj.var tv (cells.set k (.hs id 0 0 0))) = some y := by rw [← hj]; exact (upd_same _ _ _).symm
      cases hj'
      refine ⟨b, vs, g1, g2, ?_, g4⟩
      have h3 := RRelL.evolve hE2 _ _ g3
      obtain ⟨u, hu, hru⟩ := g3.get k _ hk
      simp only [RRel, Rep] at hru
      have hkl : k < cells.length := (List.getElem?_eq_some_iff.1 hk).1
      have hsplit : cells.set k (.hs id 0 0 0) = splice cells k [.hs id 0 0 0] := by
        unfold splice
        rw [List.set_eq_take_append_cons_drop, if_pos hkl]
        simp
      have hvl := g3.length
      have hvs : vs = splice vs k [u] := by
        unfold splice
        apply List.ext_getElem?
        intro i
        simp only [List.getElem?_append, List.length_append, List.length_take, List.length_cons, List.length_nil, List.getElem?_take, List.getElem?_drop]
        have hm : min k vs.length = k := by omega
        rw [hm]
        by_cases c1 : i < k
        · simp [c1, show i < k + 1 by omega]
        · by_cases c2 : i = k
          · subst c2; simp [hu]
          · simp [show ¬ i < k + 1 by omega, show k + 1 + (i - (k + 1)) = i by omega]
      rw [hsplit] at h3 ⊢
      rw [hvs]
      refine splice_rel h3 ?_
      simp only [RRelL, RRel]
      exact ⟨u, [], rfl, ⟨⟨_, _, _, hru⟩, .inr ⟨te, es, [], 0, by rw [upd_ne _ _ _ hne.symm]; exact upd_same _ _ _, Nat.le_refl _, fun _ => ⟨Nat.le_refl _, .inl ⟨upd_same _ _ _, rfl, hru⟩⟩⟩⟩, rfl⟩
    · have hj' : upd st.h id (some (.arr te es [] 0)) j = some y := by rw [← hj]; exact (upd_ne _ _ _ hjx).symm
      exact (hi.obj j y hj').evolve hE2 rfl fun _ _ _ => ⟨rfl, fun _ => rfl, rfl⟩
  · obtain ⟨_, h1⟩ := hold _ _ hi'
    obtain ⟨_, h2⟩ := hold _ _ hj
    exact hi.inj i j _ _ b c c' h1 h2 hm hm'
  · obtain ⟨_, h1⟩ := hold _ _ hi'
    exact hi.own i _ b c h1 hm
end Go.AM

/- A FUNCTION's BODY: from its code to its contract. -/
namespace Go.AM
open Go

def argE : Nat → List V → List (Nat × V)
  | _, [] => []
  | k, v :: vs => (k, v) :: argE (k + 1) vs

/-- The results, as they are read at the end. -/
inductive ResV (T : TT) (st : St) : List ResultVar → List V → Prop
  | nil : ResV T st [] []
  | tmp {t v rs vs} : st.e t = some v → ResV T st rs vs → ResV T st (.tmp t :: rs) (v :: vs)
  | cell {a t i id off tv cells v rs vs} : st.e a = some (.one (.vp id off)) → T[t]? = some (some i) → st.h id = some (.var tv cells) → Nat.ble (off + i.size) cells.length = true → loadV i ((cells.drop off).take i.size) = some v → ResV T st rs vs →
      ResV T st (.cell a t :: rs) (v :: vs)
inductive Convs (h : Heap) : List V → List V → Prop
  | nil : Convs h [] []
  | cons {ids v v' vs vs'} : Conv h ids v v' → Convs h vs vs' → Convs h (v :: vs) (v' :: vs')
def tupU : List Value → Value
  | [u] => u
  | us => .tuple ⟨us⟩
def tupV : List V → V
  | [v] => v
  | vs => .tup vs

theorem Convs.rel {S : Sto} {μ : Mu} {H : Heap} {w : World} : ∀ {vs vs' : List V} {us : List Value}, Convs H vs vs' → (∀ id o, H id = some o → ORel S μ H w id o) → VRelL S μ H vs us → VRelL S μ H vs' us := by
  intro vs vs' us h
  induction h generalizing us with
  | nil => intro _ hv; exact hv
  | cons hc _ ih =>
    intro hO hv
    simp only [VRelL] at hv ⊢
    obtain ⟨v, us', rfl, h1, h2⟩ := hv
    exact ⟨v, us', rfl, hc.rel (fun _ _ => rfl) hO h1, ih hO h2⟩

section
variable {P : Program} {T : TT}

theorem run_mapM_results {G : Ctx} {n : Nat} {S : Sto} {μ : Mu} {st : St} {a : Act} {w : World} (hT : Tok P T) (hs : Sim G n S μ st a w) : ∀ {rs : List ResultVar} {vs : List V}, ResV T st rs vs →
    ∃ us, (rs.mapM fun (x : ResultVar) => (match x with | .tmp t => pure (a.tmps.getD t undef) | .cell p t => do loadVar t (← asAddr (a.tmps.getD p undef)) : Sem Value)).run P w = .ok us w ∧ VRelL S μ st.h vs us := by
  intro rs vs h
  induction h with
  | nil => exact ⟨[], by simp, by simp [VRelL]⟩
  | @tmp t v rs vs ht _ ih =>
    obtain ⟨us, h1, h2⟩ := ih
    refine ⟨a.tmps.getD t undef :: us, ?_, ?_⟩
    · simp only [List.mapM_cons, Sem.run_bind, Sem.run_pure, Result.andThen_ok, h1]
    · simp only [VRelL]
      exact ⟨_, _, rfl, hs.env _ _ ht, h2⟩
  | @cell p t i id off tv cells v rs vs ht hi hh hb hl _ ih =>
    obtain ⟨us, h1, h2⟩ := ih
    have hv := hs.env _ _ ht
    simp only [VRel, RRel] at hv
    obtain ⟨t', cells', b, c, g1, g2, g3⟩ := hv
    obtain ⟨b', ws, q1, q2, q3, q4⟩ := hs.inv.obj id _ hh
    rw [q1] at g2; cases g2
    have hlen := Nat.le_of_ble_eq_true hb
    have hvl := q3.length
    have hld := run_load (hT.get hi) w b off _ (range_of_vs q2 off i.size) (cutL (by omega))
    have hres := loadV_rel ((q3.drop off).take i.size) hl
    generalize (if i.k.agg then Value.agg ⟨(ws.drop off).take i.size⟩ else ((ws.drop off).take i.size).headD undef) = u at hld hres
    refine ⟨u :: us, ?_, by simp only [VRelL]; exact ⟨_, _, rfl, hres, h2⟩⟩
    · simp only [Instr.loadAt, Instr.sureAddr, Sem.run_bind, Sem.run_pure, Result.andThen_ok] at hld
      have hA : (asAddr (a.tmps.getD p undef)).run P w = .ok ⟨b, off, none⟩ w := by rw [g3]; rfl
      simp only [List.mapM_cons, Sem.run_bind, Sem.run_pure, Result.andThen_ok, hA, hld, h1]

theorem run_results {G : Ctx} {n : Nat} {S : Sto} {μ : Mu} {st : St} {a : Act} {w : World} {fn : Func} {vs : List V} (hT : Tok P T) (hs : Sim G n S μ st a w) (h : ResV T st fn.results.toList vs) :
    ∃ us, (results fn a.tmps).run P w = .ok (tupU us) w ∧ VRelL S μ st.h vs us := by
  obtain ⟨us, h1, h2⟩ := run_mapM_results hT hs h
  refine ⟨us, ?_, h2⟩
  unfold results
  rw [Array.mapM_eq_mapM_toList, Sem.run_bind, Sem.run_map]
  erw [h1]
  simp only [Result.andThen_ok, Sem.run_pure]
  congr 1
  match us with
  | [] => simp [tupU]
  | [u] => simp [tupU]
  | u :: u' :: us => simp [tupU]

/-! ### The marks of loops over functions are taken -/
def AObj.plain : AObj → Bool
  | .dfr => false
  | _ => true
theorem AObj.plain_ne {o : AObj} (h : o.plain = true) : o ≠ .dfr := by rintro rfl; cases h
theorem succ_dfr {o : AObj} {p : Prop} (h : o.succ p .dfr) : o = .dfr := by cases o <;> simp only [AObj.succ] at h; rfl
/-- One mark is taken. -/
theorem Sim.take {P : Program} {G : Ctx} {n : Nat} {S : Sto} {μ : Mu} {st : St} {a : Act} {w : World} {id : Nat} {ids : List Nat} (hs : Sim G n S μ st a w) (hd : st.d = id :: ids) (hG : ∀ id, G.h0 id ≠ some .dfr) :
    ∃ b ds w', a.defers = { target := .collected b, args := #[] } :: ds ∧ (Instr.takeDeferred b).run P w = .ok [] w' ∧ Sim G n S μ ⟨st.e, upd st.h id none, ids⟩ { a with defers := ds } w' := by
  have hm := hs.defers
  rw [hd] at hm
  obtain ⟨b, c, ds, h1, h2, h3, h4, h5, h6⟩ := hm
  obtain ⟨b', g1, g2, g3, g4⟩ := hs.inv.obj _ _ h3
  rw [h2] at g1; cases g1
  have hlt : b < w.heap.size := (Array.getElem?_eq_some_iff.1 g2).1
  have hne : ∀ j, upd st.h id none j = none ∨ j ≠ id := fun j => by
    by_cases hj : j = id
    · exact .inl (by rw [hj, upd_same])
    · exact .inr hj
  have hget : ∀ {j o}, upd st.h id none j = some o → j ≠ id ∧ st.h j = some o := by
    intro j o hj
    rcases hne j with h | h
    · rw [h] at hj; cases hj
    · exact ⟨h, by rwa [upd_ne _ _ _ h] at hj⟩
  have hE : Evo0 S μ st.h S μ (upd st.h id none) := ⟨S.le_refl, fun j o hj ho => by
    have hji : j ≠ id := by rintro rfl; rw [h3] at hj; cases hj; exact ho rfl
    exact ⟨o, by rw [upd_ne _ _ _ hji]; exact hj, o.succ_refl rfl⟩⟩
  refine ⟨b, ds, w.putObj b (.deferred none), h1, run_takeDeferred g2, ⟨⟨⟨fun b' o v e => ?_, fun b' es clk e => ?_⟩, fun j o hj => ?_, fun i j o o' b1 c1 c2 hi hj m1 m2 => ?_, fun i o b1 c1 hi m1 => ?_, ?_, hs.inv.sle, hs.inv.sto, ⟨hs.inv.evo.le, fun j o hj => ?_⟩⟩, hs.size, ?_, fun t v e => VRel.evolve0 hE _ _ (hs.env t v e)⟩⟩
  · obtain ⟨vs, t, fr, k1, k2⟩ := hs.inv.holds.1 b' o v e
    have : b' ≠ b := by rintro rfl; rw [g3] at e; cases e
    exact ⟨vs, t, fr, by rw [World.putObj_heap_other this]; exact k1, k2⟩
  · have : b' ≠ b := by rintro rfl; rw [g4] at e; cases e
    rw [World.putObj_heap_other this]; exact hs.inv.holds.2 b' es clk e
  · obtain ⟨k1, k2⟩ := hget hj
    refine (hs.inv.obj j o k2).evolve0 hE rfl fun b1 c1 m1 => ⟨World.putObj_heap_other ?_, fun _ => rfl, rfl⟩
    rintro rfl
    exact k1 (hs.inv.inj j id o .dfr b1 c1 _ k2 h3 m1 h2)
  · exact hs.inv.inj i j o o' b1 c1 c2 (hget hi).2 (hget hj).2 m1 m2
  · exact hs.inv.own i o b1 c1 (hget hi).2 m1
  · obtain ⟨f1, f2, f3, f4, f5, f6⟩ := hs.inv.frame
    refine ⟨f1, f2, f3, by simpa using f4, fun k hk hF => ?_, f6⟩
    rw [World.putObj_heap_other (by omega)]
    exact f5 k hk hF
  · obtain ⟨o', k1, k2⟩ := hs.inv.evo.obj j o hj
    have hji : j ≠ id := by
      rintro rfl
      rw [h3] at k1; cases k1
      rw [succ_dfr k2] at hj
      exact hG _ hj
    exact ⟨o', by show upd st.h id none j = some o'; rw [upd_ne _ _ _ hji]; exact k1, k2⟩
  · exact h6.go fun j hj hjd => ⟨rfl, by
      have hji : j ≠ id := by rintro rfl; exact h5 hj
      show upd st.h id none j = some .dfr
      rw [upd_ne _ _ _ hji]; exact hjd⟩
/-- All marks are taken. -/
theorem Sim.leave {P : Program} {fn : Func} {R : Ending → World → Prop} {G : Ctx} {n : Nat} {S : Sto} {μ : Mu} (hG : ∀ id, G.h0 id ≠ some .dfr) : ∀ (ids : List Nat) {e : Nat → Option V} {h : Heap} {a : Act} {w : World}, Sim G n S μ ⟨e, h, ids⟩ a w →
    (∀ h' w', (∀ id o, h id = some o → o ≠ .dfr → h' id = some o) → Sim G n S μ ⟨e, h', []⟩ { a with defers := [] } w' → ∃ v, (results fn a.tmps).run P w' = .ok v w' ∧ R (.returned v) w') →
    LeavesInM (Wd none) 0 P fn a.tmps R a.defers .returning w
  | [], e, h, a, w, hs, hk => by
    have hd : a.defers = [] := hs.defers
    rw [hd]
    refine hk h w (fun _ _ h _ => h) ?_
    obtain ⟨h1, h2, h3, h4⟩ := hs
    exact ⟨h1, h2, rfl, h4⟩
  | id :: ids, e, h, a, w, hs, hk => by
    have h3 : h id = some .dfr := by
      obtain ⟨b, c, ds', q1, q2, q3, _⟩ := hs.defers
      exact q3
    obtain ⟨b, ds, w', h1, h2, hs'⟩ := hs.take (P := P) rfl hG
    rw [h1]
    refine ⟨by simp, .inl ⟨b, w', rfl, h2, ?_⟩⟩
    refine Sim.leave hG ids (a := { a with defers := ds }) hs' fun h' w'' hh hs'' => hk h' w'' (fun j o hj ho => hh j o ?_ ho) hs''
    have hji : j ≠ id := by rintro rfl; rw [h3] at hj; cases hj; exact ho rfl
    rw [upd_ne _ _ _ hji]; exact hj

/-- The end of a body. -/
structure Fin (T : TT) (fn : Func) (st : St) (hin : List (Nat × AObj)) (res : V) (hout : List (Nat × AObj)) : Prop where
  ex : ∃ vs vs', ResV T st fn.results.toList vs ∧ Convs st.h vs vs' ∧ tupV vs' = res
  out : AllP (fun p => ∃ o, st.h p.1 = some o ∧ Ole (fun i => i) o p.2) hout
  ok : (subset res.refs (keys hout) && subset (refsH hout) (keys hout) && distinct (keys hout) && subset (keys hin) (keys hout) && (hin.all fun p => p.2.plain) && (hout.all fun p => p.2.plain)) = true

theorem ResV.keep {st : St} {h' : Heap} {d : List Nat} (hh : ∀ id o, st.h id = some o → o ≠ .dfr → h' id = some o) : ∀ {rs : List ResultVar} {vs : List V}, ResV T st rs vs → ResV T ⟨st.e, h', d⟩ rs vs := by
  intro rs vs h
  induction h with
  | nil => exact .nil
  | tmp h1 _ ih => exact .tmp h1 ih
  | cell h1 h2 h3 h4 h5 _ ih => exact .cell h1 h2 (hh _ _ h3 (by simp)) h4 h5 ih
theorem PureL.keep {h h' : Heap} (hh : ∀ id o, h id = some o → o ≠ .dfr → h' id = some o) : ∀ {ids : List Nat} {rs : List R} {cs : List C}, PureL h ids rs cs → PureL h' ids rs cs := by
  intro ids rs cs k
  induction k with
  | nil => exact .nil
  | c h1 _ ih => exact .c h1 ih
  | hs h1 h2 h3 _ ih => exact .hs (hh _ _ h1 (by simp)) h2 h3 ih
  | any _ ih => exact .any ih
theorem Convs.keep {h h' : Heap} (hh : ∀ id o, h id = some o → o ≠ .dfr → h' id = some o) : ∀ {vs vs' : List V}, Convs h vs vs' → Convs h' vs vs' := by
  intro vs vs' k
  induction k with
  | nil => exact .nil
  | @cons ids v v' vs vs' h1 _ ih =>
    refine .cons (ids := ids) ?_ ih
    cases h1 with
    | refl => exact .refl
    | one h => exact .one (h.keep hh)
    | agg h => exact .agg (h.keep hh)
    | pa h => exact .pa (h.keep hh)

theorem impC {f : FuncId} {fn : Func} {c : Code} {n : Nat} {args : List V} {hin hout : List (Nat × AObj)} {res : V} (hT : Tok P T) (hf : P.funcs[f]? = some fn) (hb : fn.body = some c) (hn : fn.ntmps = n) (hle : Nat.ble args.length n = true)
    (h : AWp none P n (keys hin) c (mk (argE 0 args) hin) (fun ex st => (ex = .normal ∨ ex = .ret) ∧ Fin T fn st hin res hout)) : ImpC P f args hin res hout := by
  intro S μ w vals hI hv
  refine (Wd.calls (ro := none) (n := 0)).1 (callsIn_of_wp_marks hf hb trivial ?_)
  have hvl : ∀ (l : List V) (us : List Value), VRelL S μ (look hin) l us → us.length = l.length := by
    intro l
    induction l with
    | nil => intro us h; simp only [VRelL] at h; subst h; rfl
    | cons x l ih =>
      intro us h
      simp only [VRelL] at h
      obtain ⟨v, vs', rfl, _, h2⟩ := h
      simp [ih _ h2]
  have hvals := hvl _ _ hv
  have hle' := Nat.le_of_ble_eq_true hle
  have hkeep : Ctx.keeps ⟨w, S, Foot μ (look hin), μ, look hin⟩ (keys hin) := fun id o ho => List.mem_map.2 ⟨_, look_mem ho, rfl⟩
  refine h ⟨w, S, Foot μ (look hin), μ, look hin⟩ S μ _ w _ ⟨hkeep, trivial⟩ ⟨hI, by simp; omega, rfl, fun t v ht => ?_⟩ ?_
  · have key : ∀ (l : List V) (us : List Value) (k : Nat), VRelL S μ (look hin) l us → look (argE k l) t = some v → ∃ j, t = k + j ∧ ∃ u, us[j]? = some u ∧ VRel S μ (look hin) v u := by
      intro l
      induction l with
      | nil => intro us k _ h; simp [argE, look] at h
      | cons x l ih =>
        intro us k hr hl
        simp only [VRelL] at hr
        obtain ⟨u, us', rfl, h1, h2⟩ := hr
        simp only [argE, look] at hl
        split at hl
        · rename_i hbq
          cases hl
          exact ⟨0, by rw [Nat.eq_of_beq_eq_true hbq]; rfl, u, rfl, h1⟩
        · obtain ⟨j, h3, u', h4, h5⟩ := ih us' (k + 1) h2 hl
          exact ⟨j + 1, by omega, u', by simpa using h4, h5⟩
    obtain ⟨j, h1, u, h2, h3⟩ := key args vals 0 hv ht
    rw [Nat.zero_add] at h1
    subst h1
    have hj : t < vals.length := (List.getElem?_eq_some_iff.1 h2).1
    have : ((⟨vals⟩ : Array Value) ++ Array.replicate (fn.ntmps - (⟨vals⟩ : Array Value).size) undef).getD t undef = u := by
      rw [Array.getD_eq_getD_getElem?, Array.getElem?_append_left (by simpa using hj)]
      simp [h2]
    show VRel S μ (look hin) v (((⟨vals⟩ : Array Value) ++ Array.replicate (fn.ntmps - (⟨vals⟩ : Array Value).size) undef).getD t undef)
    rw [this]
    exact h3
  · intro ex st' S' μ' a' w' ⟨hex, hfin⟩ hs
    obtain ⟨⟨vs, vs', hr, hc, hres⟩, hout', hok⟩ := hfin
    simp only [Bool.and_eq_true] at hok
    obtain ⟨⟨⟨⟨⟨k1, k2⟩, k3⟩, k4⟩, k5⟩, k6⟩ := hok
    have hleave : LeavesInM (Wd none) 0 P fn a'.tmps (fun e w' => ∃ S' μ' v, e = .returned v ∧ Inv ⟨w, S, Foot μ (look hin), μ, look hin⟩ S' μ' (look hout) w' ∧ VRel S' μ' (look hout) res v) a'.defers .returning w' := by
      refine Sim.leave (G := ⟨w, S, Foot μ (look hin), μ, look hin⟩) (n := n) (S := S') (μ := μ') (fun id e => ?_) st'.d (e := st'.e) (h := st'.h) hs fun h' w'' hh hs => ?_
      · have := (List.all_eq_true.1 k5) _ (look_mem (show look hin id = some .dfr from e))
        cases this
      have hr : ResV T ⟨st'.e, h', []⟩ fn.results.toList vs := ResV.keep (fun id o ho hne => hh id o ho hne) hr
      have hc : Convs h' vs vs' := hc.keep fun id o ho hne => hh id o ho hne
      have hout' : AllP (fun p => ∃ o, h' p.1 = some o ∧ Ole (fun i => i) o p.2) hout := by
        have hk : ∀ l : List (Nat × AObj), (∀ p ∈ l, p ∈ hout) → AllP (fun p => ∃ o, h' p.1 = some o ∧ Ole (fun i => i) o p.2) l := by
          intro l
          induction l with
          | nil => intro _; trivial
          | cons p l ih =>
            intro hl
            refine ⟨?_, ih fun q hq => hl q (by simp [hq])⟩
            obtain ⟨o, g1, g2⟩ := hout'.mem p (hl p (by simp))
            refine ⟨o, hh _ _ g1 ?_, g2⟩
            rintro rfl
            have hp := (List.all_eq_true.1 k6) p (hl p (by simp))
            cases hq : p.2 <;> rw [hq] at g2 hp <;> cases g2
            cases hp
        exact hk hout fun p hp => hp
      obtain ⟨us, h1, h2⟩ := run_results hT hs hr
      refine ⟨_, h1, ?_⟩
      have h3 := hc.rel hs.inv.obj h2
      have hgood : ∀ i ∈ keys hout, Good h' (look hout) (fun i => i) i := by
        intro i hi
        obtain ⟨o', ho'⟩ := look_some hi
        obtain ⟨o, g1, g2⟩ := hout'.mem _ (look_mem ho')
        exact ⟨o, o', g1, ho', g2⟩
      have hv4 : VRel S' μ' h' res (tupU us) := by
        rw [← hres]
        match vs', us, h3 with
        | [], us, h3 => simp only [VRelL] at h3; subst h3; simp [tupV, tupU, VRel, VRelL]
        | [v], us, h3 =>
          simp only [VRelL] at h3
          obtain ⟨u, us', rfl, h5, rfl⟩ := h3
          exact h5
        | v :: v' :: l, us, h3 =>
          have h3' := h3
          simp only [VRelL] at h3'
          obtain ⟨u, us', rfl, _, u', us'', rfl, _, _⟩ := h3'
          simp only [tupV, tupU, VRel]
          exact ⟨_, rfl, h3⟩
      have hI' : Inv ⟨w, S, Foot μ (look hin), μ, look hin⟩ S' μ' (look hout) w'' := by
        refine ⟨hs.inv.holds, fun id o ho => ?_, fun i j o o' b c c' hi hj hm hm' => ?_, fun i o b c hi hm => ?_, hs.inv.frame, hs.inv.sle, hs.inv.sto, ⟨hs.inv.evo.le, fun id o ho => ?_⟩⟩
        · obtain ⟨o1, g1, g2⟩ := hout'.mem _ (look_mem ho)
          exact (hs.inv.obj _ _ g1).ren g2 fun i hi => hgood i (subset_spec k2 i (refsH_mem (look_mem ho) i hi))
        · obtain ⟨o1, g1, g2⟩ := hout'.mem _ (look_mem hi)
          obtain ⟨o2, g3, g4⟩ := hout'.mem _ (look_mem hj)
          exact hs.inv.inj _ _ _ _ b c c' g1 g3 hm hm'
        · obtain ⟨o1, g1, g2⟩ := hout'.mem _ (look_mem hi)
          exact hs.inv.own _ _ b c g1 hm
        · obtain ⟨o', (g1 : h' id = some o'), g2⟩ := hs.inv.evo.obj id o ho
          have hk : id ∈ keys hin := List.mem_map.2 ⟨_, look_mem (show look hin id = some o from ho), rfl⟩
          obtain ⟨o1, o2, g3, g4, g5⟩ := hgood id (subset_spec k4 id hk)
          rw [g1] at g3; cases g3
          exact ⟨o2, g4, AObj.succ_trans g2 g5.succ fun e _ => e⟩
      have hR : VRel S' μ' (look hout) res (tupU us) := by
        have := VRel.ren (H := h') (H' := look hout) (σ := fun i => i) res _ (fun i hi => hgood i (subset_spec k1 i hi)) (by rw [V.ren_id]; exact hv4)
        exact this
      exact ⟨S', μ', _, rfl, hI', hR⟩
    rcases hex with rfl | rfl
    · exact hleave
    · exact hleave
end
theorem lt_ {d n : Nat} (h : Nat.ble (d + 1) n = true) : d < n := Nat.le_of_ble_eq_true h
theorem le_ {a b : Nat} (h : Nat.ble a b = true) : a ≤ b := Nat.le_of_ble_eq_true h
theorem nz_ {a : Nat} (h : Nat.beq a 0 = false) : a ≠ 0 := fun e => by subst e; cases h
theorem pl {P : Program} {n : Nat} {ops : Array Oper} {i : Nat} {o : Oper} {st : St} {rd : Rd} {f : Eff} (ho : ops[i]? = some o) (h : Step P n o st rd f) (hg : o.guard = none := by rfl) : GStep P n ops i st rd f := GStep.plain ho hg h
end Go.AM

/- A REGION STEP BY STEP; integers within their range; more operations. -/
namespace Go.AM
open Go

/-! ### A region, step by step -/
def RunK (P : Program) (n : Nat) (ops : Array Oper) (draw : Bool) (k : Nat) (st : St) (pre : REs) (Q : St → Prop) : Prop :=
  ∃ xs st', Run P n ops k st xs st' ∧ Nat.beq (k + xs.length) ops.size = true ∧ (!draw || (apartGo (preds ops) (pre.reverse ++ xs) [] && edgesOk ops)) = true ∧ Q st'
section
variable {ro : Option Nat} {P : Program} {n : Nat} {ops : Array Oper} {draw : Bool} {k : Nat} {st : St} {pre : REs} {Q : St → Prop}
theorem k_ {rd : Rd} {f : Eff} (h : GStep P n ops k st rd f) (hk : RunK P n ops draw (k + 1) (f.apply st) ((rd, f) :: pre) Q) : RunK P n ops draw k st pre Q := by
  obtain ⟨xs, st', h1, h2, h3, h4⟩ := hk
  refine ⟨(rd, f) :: xs, st', .cons h h1, ?_, ?_, h4⟩
  · rw [List.length_cons, show k + (xs.length + 1) = k + 1 + xs.length by omega]
    exact h2
  · rw [List.reverse_cons, List.append_assoc] at h3
    exact h3
theorem z_ (h1 : Nat.beq k ops.size = true) (h2 : (!draw || (apartGo (preds ops) pre.reverse [] && edgesOk ops)) = true) (hq : Q st) : RunK P n ops draw k st pre Q :=
  ⟨[], st, .nil, h1, by rw [List.append_nil]; exact h2, hq⟩
theorem awp_rg {kf : List Nat} {id : Nat} {Q : Exit → St → Prop} (hm : P.follows .mixedOrders = true) (h : RunK P n ops draw 0 st [] (fun st' => Q .normal st')) : AWp ro P n kf (.region id ops draw) st Q := by
  obtain ⟨xs, st', h1, h2, h4, h3⟩ := h
  rw [Nat.zero_add] at h2
  exact awp_region hm h1 h2 h4 h3
/-- With a state behind it that says less. -/
theorem awp_rgw {kf : List Nat} {id : Nat} {Q : Exit → St → Prop} (st2 : St) (hm : P.follows .mixedOrders = true) (h : RunK P n ops draw 0 st [] (fun st' => Sub kf st2 st')) (hq : Q .normal st2) : AWp ro P n kf (.region id ops draw) st Q := by
  obtain ⟨xs, st', h1, h2, h4, h3⟩ := h
  rw [Nat.zero_add] at h2
  refine AWp.post (Q := fun ex s => ex = .normal ∧ Sub kf st2 s) (awp_region hm h1 h2 h4 ⟨rfl, h3⟩) ?_
  rintro ex s ⟨rfl, hs⟩
  exact ⟨st2, hs, hq⟩
theorem g_ {i : Nat} {o : Oper} {rd : Rd} {f : Eff} (ho : ops[i]? = some o) (hg : o.guard = none) (h : Step P n o st rd f) : GStep P n ops i st rd f := GStep.plain ho hg h
/-- A cut: behind it the state says less. -/
theorem AWp.cut {kf : List Nat} {c : Code} {Q : Exit → St → Prop} (st2 : St) (h : AWp ro P n kf c st (fun ex s => match ex with | .normal => Sub kf st2 s | ex => Q ex s)) (hq : Q .normal st2) : AWp ro P n kf c st Q := by
  refine AWp.post h ?_
  intro ex s hs
  cases ex with
  | normal => exact ⟨st2, hs, hq⟩
  | _ => exact ⟨s, Sub.refl _ _, hs⟩
/-- One of two states. -/
theorem AWp.split {kf : List Nat} {c : Code} {Q : Exit → St → Prop} {st1 st2 : St} (h : ∀ G n S μ a w, Sim G n S μ st a w → Sim G n S μ st1 a w ∨ Sim G n S μ st2 a w) (h1 : AWp ro P n kf c st1 Q) (h2 : AWp ro P n kf c st2 Q) : AWp ro P n kf c st Q := fun G S μ a w Q' hg hs hQ => by
  rcases h G n S μ a w hs with h | h
  · exact h1 G S μ a w Q' hg h hQ
  · exact h2 G S μ a w Q' hg h hQ
end

/-- A slice is nil, or it isn't. -/
theorem split_nil {st : St} {t es : Nat} {l : List (List C)} (h : st.e t = some (.one (.c (.sl es l)))) : ∀ G n S μ a w, Sim G n S μ st a w → (Sim G n S μ ⟨upd st.e t (some (.one (.c .nl))), st.h, st.d⟩ a w ∧ l = []) ∨ Sim G n S μ ⟨upd st.e t (some (.one (.c (.sn es l)))), st.h, st.d⟩ a w := by
  intro G n S μ a w hs
  have hv := hs.env t _ h
  simp only [VRel, RRel, Rep] at hv
  obtain ⟨ad, len, cap, h1, h2, h3, h4, h5, h6, b, off, h7, h8⟩ := hv
  have key : ∀ v : V, VRel S μ st.h v (a.tmps.getD t undef) → Sim G n S μ ⟨upd st.e t (some v), st.h, st.d⟩ a w := fun v hv => by
    refine ⟨hs.inv, hs.size, hs.defers, fun s u e => ?_⟩
    by_cases hst : s = t
    · subst hst
      have : some v = some u := by rw [← e]; exact (upd_same _ _ _).symm
      cases this
      exact hv
    · exact hs.env s u (by rw [← e]; exact (upd_ne _ _ _ hst).symm)
  cases ad with
  | none =>
    obtain ⟨hl0, hc0⟩ := h5 rfl
    refine .inl ⟨key _ (by simp only [VRel, RRel, Rep]; rw [h1, hl0, hc0]), List.eq_nil_of_length_eq_zero (by omega)⟩
  | some ad =>
    obtain ⟨h9, h10⟩ := h7 ad rfl
    have h11 := h6 ad rfl
    obtain ⟨b', o', sp⟩ := ad
    dsimp only at h9 h10 h11
    subst h9 h10
    exact .inr (key _ (by simp only [VRel, RRel, Rep]; exact ⟨b', o', sp, len, cap, h1, h2, h3, h4, h11, h8⟩))

section
variable {P : Program} {n : Nat} {o : Oper} {st : St} {d : Nat} {T : TT}

/-! ### Integers within their range -/
theorem r_addI {tx ty : TypeId} {x y : Operand} {a b : Int} (ho : o.op = .binOp .add tx x y ty) (hd : o.dst = some d) (hdn : d < n) (hx : opv st x = some (I .i64 a)) (hy : opv st y = some (I .i64 b)) (hr : -9223372036854775808 ≤ a + b ∧ a + b ≤ 9223372036854775807) :
    Step P n o st ⟨opr x ++ opr y, []⟩ ⟨some (d, some (I .i64 (a + b))), []⟩ := r_add ho hd hdn hx hy (IntWalk.i64_in _ hr)
theorem r_subI {tx ty : TypeId} {x y : Operand} {a b : Int} (ho : o.op = .binOp .sub tx x y ty) (hd : o.dst = some d) (hdn : d < n) (hx : opv st x = some (I .i64 a)) (hy : opv st y = some (I .i64 b)) (hr : -9223372036854775808 ≤ a - b ∧ a - b ≤ 9223372036854775807) :
    Step P n o st ⟨opr x ++ opr y, []⟩ ⟨some (d, some (I .i64 (a - b))), []⟩ := r_sub ho hd hdn hx hy (IntWalk.i64_in _ hr)
theorem r_mulI {tx ty : TypeId} {x y : Operand} {a b : Int} (ho : o.op = .binOp .mul tx x y ty) (hd : o.dst = some d) (hdn : d < n) (hx : opv st x = some (I .i64 a)) (hy : opv st y = some (I .i64 b)) (hr : -9223372036854775808 ≤ a * b ∧ a * b ≤ 9223372036854775807) :
    Step P n o st ⟨opr x ++ opr y, []⟩ ⟨some (d, some (I .i64 (a * b))), []⟩ := r_mul ho hd hdn hx hy (IntWalk.i64_in _ hr)
theorem r_quoI {tx ty : TypeId} {x y : Operand} {a b : Int} (ho : o.op = .binOp .quo tx x y ty) (hd : o.dst = some d) (hdn : d < n) (hx : opv st x = some (I .i64 a)) (hy : opv st y = some (I .i64 b)) (hr : 0 ≤ a ∧ a ≤ 9223372036854775807 ∧ 1 ≤ b) :
    Step P n o st ⟨opr x ++ opr y, []⟩ ⟨some (d, some (I .i64 (a / b))), []⟩ := r_quo ho hd hdn hx hy (by omega) (by
      have h1 : a.tdiv b = a / b := Int.tdiv_eq_ediv_of_nonneg hr.1
      rw [h1]
      refine IntWalk.i64_in _ ⟨?_, ?_⟩
      · have := Int.ediv_nonneg hr.1 (show (0 : Int) ≤ b by omega); omega
      · have := Int.ediv_le_self b hr.1; omega)
theorem r_remI {tx ty : TypeId} {x y : Operand} {k : IntKind} {a b : Int} (ho : o.op = .binOp .rem tx x y ty) (hd : o.dst = some d) (hdn : d < n) (hx : opv st x = some (I k a)) (hy : opv st y = some (I k b)) (hr : 0 ≤ a ∧ 1 ≤ b) :
    Step P n o st ⟨opr x ++ opr y, []⟩ ⟨some (d, some (I k (a % b))), []⟩ := r_rem ho hd hdn hx hy (by omega) (Int.tmod_eq_emod_of_nonneg hr.1)

/-! ### Equality -/
theorem eqGuard_run (op : BinOp) (t : TypeId) (x y : Operand) (u v : Value) (w : World) (h1 : (match u with | .agg _ => true | .nilIface => true | _ => false) = false) : (eqGuard op t x y u v).run P w = .ok () w := by
  unfold eqGuard
  cases u <;> simp at h1 <;> (split <;> rfl)

theorem run_eqBool {t : TypeId} (hu : P.underlying t = some .bool) (d : Nat) (a b : Bool) (w : World) : (Op.equalIn (d + 1) t (.bool a) (.bool b)).run P w = .ok (a == b) w := by
  simp only [Op.equalIn, Sem.run_bind, run_underlying hu w, Result.andThen_ok, Sem.run_pure]
theorem run_eqPtr {t e : TypeId} (hu : P.underlying t = some (.pointer e)) (d : Nat) (p : Option Addr) (w : World) : (Op.equalIn (d + 1) t (.pointer p) (.pointer none)).run P w = .ok p.isNone w := by
  cases p <;> simp only [Op.equalIn, Sem.run_bind, run_underlying hu w, Result.andThen_ok, Sem.run_pure] <;> rfl
theorem run_eqSl {t e : TypeId} (hu : P.underlying t = some (.slice e)) (d : Nat) (p : Option Addr) (l c : Nat) (w : World) : (Op.equalIn (d + 1) t (.slice p l c) (.slice none 0 0)).run P w = .ok p.isNone w := by
  cases p <;> simp only [Op.equalIn, Sem.run_bind, run_underlying hu w, Result.andThen_ok, Sem.run_pure] <;> rfl
theorem run_eql {tx ty : TypeId} {x y : Operand} {a : Act} {w : World} {u v : Value} {b : Bool} (ho : o.op = .binOp .eql tx x y ty) (hx : a.eval x = u) (hy : a.eval y = v) (hg : (eqGuard .eql tx x y u v).run P w = .ok () w)
    (hb : binOp .eql tx u v = (do pure (.bool (← Op.equal tx u v)))) (hr : (Op.equalIn (9999 + 1) tx u v).run P w = .ok b w) : (execOp a.eval o).run P w = .ok (.value (.bool b)) w := by
  have hr' : (Op.equal tx u v).run P w = .ok b w := hr
  simp only [execOp, ho, hx, hy, Sem.run_bind, hg, Result.andThen_ok, hb, hr', Sem.run_pure]
theorem run_neq {tx ty : TypeId} {x y : Operand} {a : Act} {w : World} {u v : Value} {b : Bool} (ho : o.op = .binOp .neq tx x y ty) (hx : a.eval x = u) (hy : a.eval y = v) (hg : (eqGuard .neq tx x y u v).run P w = .ok () w)
    (hb : binOp .neq tx u v = (do pure (.bool (!(← Op.equal tx u v))))) (hr : (Op.equalIn (9999 + 1) tx u v).run P w = .ok b w) : (execOp a.eval o).run P w = .ok (.value (.bool (!b))) w := by
  have hr' : (Op.equal tx u v).run P w = .ok b w := hr
  simp only [execOp, ho, hx, hy, Sem.run_bind, hg, Result.andThen_ok, hb, hr', Sem.run_pure]

theorem r_beql {tx ty : TypeId} {i : TI} {x y : Operand} {a b : Bool} (hT : Tok P T) (ho : o.op = .binOp .eql tx x y ty) (hd : o.dst = some d) (hdn : d < n) (hi : T[tx]? = some (some i)) (hk : i.k = .bool) (hx : opv st x = some (B a)) (hy : opv st y = some (B b)) :
    Step P n o st ⟨opr x ++ opr y, []⟩ ⟨some (d, some (B (a == b))), []⟩ := by
  refine Step.value hd hdn fun _ ha _ _ _ ac w hs => ?_
  have h1 := one_bool (opv_rel hs hx (agree2 ha).1)
  have h2 := one_bool (opv_rel hs hy (agree2 ha).2)
  exact ⟨.bool (a == b), run_eql ho h1 h2 (eqGuard_run _ _ _ _ _ _ _ rfl) rfl (run_eqBool ((hT.get hi).bool hk) _ _ _ _), by simp [VRel, RRel, Rep]⟩
theorem r_bneq {tx ty : TypeId} {i : TI} {x y : Operand} {a b : Bool} (hT : Tok P T) (ho : o.op = .binOp .neq tx x y ty) (hd : o.dst = some d) (hdn : d < n) (hi : T[tx]? = some (some i)) (hk : i.k = .bool) (hx : opv st x = some (B a)) (hy : opv st y = some (B b)) :
    Step P n o st ⟨opr x ++ opr y, []⟩ ⟨some (d, some (B (!(a == b)))), []⟩ := by
  refine Step.value hd hdn fun _ ha _ _ _ ac w hs => ?_
  have h1 := one_bool (opv_rel hs hx (agree2 ha).1)
  have h2 := one_bool (opv_rel hs hy (agree2 ha).2)
  exact ⟨.bool (!(a == b)), run_neq ho h1 h2 (eqGuard_run _ _ _ _ _ _ _ rfl) rfl (run_eqBool ((hT.get hi).bool hk) _ _ _ _), by simp [VRel, RRel, Rep]⟩

/-- A pointer against nil. -/
def ptrNil : V → Option Bool
  | .one (.c .np) => some true
  | .one (.c (.pt _)) => some false
  | .one (.vp _ _) => some false
  | _ => none
theorem ptrNil_rel {S : Sto} {μ : Mu} {H : Heap} {v : V} {u : Value} {b : Bool} (h : VRel S μ H v u) (hb : ptrNil v = some b) : ∃ p, u = .pointer p ∧ p.isNone = b := by
  unfold ptrNil at hb
  split at hb
  · cases hb; simp only [VRel, RRel, Rep] at h; exact ⟨none, h, rfl⟩
  · cases hb; simp only [VRel, RRel, Rep] at h; obtain ⟨b, o, h, _⟩ := h; exact ⟨_, h, rfl⟩
  · cases hb; simp only [VRel, RRel] at h; obtain ⟨t, cells, b, c, _, _, h⟩ := h; exact ⟨_, h, rfl⟩
  · cases hb
theorem r_peql {tx ty e : TypeId} {i : TI} {x y : Operand} {v : V} {b : Bool} (hT : Tok P T) (ho : o.op = .binOp .eql tx x y ty) (hd : o.dst = some d) (hdn : d < n) (hi : T[tx]? = some (some i)) (hk : i.k = .pt e) (hx : opv st x = some v) (hv : ptrNil v = some b) (hy : opv st y = some (.one (.c .np))) :
    Step P n o st ⟨opr x ++ opr y, []⟩ ⟨some (d, some (B b)), []⟩ := by
  refine Step.value hd hdn fun _ ha _ _ _ ac w hs => ?_
  obtain ⟨p, h1, hp⟩ := ptrNil_rel (opv_rel hs hx (agree2 ha).1) hv
  have h2 := opv_rel hs hy (agree2 ha).2
  simp only [VRel, RRel, Rep] at h2
  subst hp
  exact ⟨.bool p.isNone, run_eql ho h1 h2 (eqGuard_run _ _ _ _ _ _ _ rfl) (by cases p <;> rfl) (run_eqPtr ((hT.get hi).ptr hk) _ _ _), by simp [VRel, RRel, Rep]⟩
theorem r_pneq {tx ty e : TypeId} {i : TI} {x y : Operand} {v : V} {b : Bool} (hT : Tok P T) (ho : o.op = .binOp .neq tx x y ty) (hd : o.dst = some d) (hdn : d < n) (hi : T[tx]? = some (some i)) (hk : i.k = .pt e) (hx : opv st x = some v) (hv : ptrNil v = some b) (hy : opv st y = some (.one (.c .np))) :
    Step P n o st ⟨opr x ++ opr y, []⟩ ⟨some (d, some (B (!b))), []⟩ := by
  refine Step.value hd hdn fun _ ha _ _ _ ac w hs => ?_
  obtain ⟨p, h1, hp⟩ := ptrNil_rel (opv_rel hs hx (agree2 ha).1) hv
  have h2 := opv_rel hs hy (agree2 ha).2
  simp only [VRel, RRel, Rep] at h2
  subst hp
  exact ⟨.bool (!p.isNone), run_neq ho h1 h2 (eqGuard_run _ _ _ _ _ _ _ rfl) (by cases p <;> rfl) (run_eqPtr ((hT.get hi).ptr hk) _ _ _), by simp [VRel, RRel, Rep]⟩

/-- A slice against nil. -/
def slNil : V → Option Bool
  | .one (.c .nl) => some true
  | .one (.c (.sn _ _)) => some false
  | _ => none
theorem slNil_rel {S : Sto} {μ : Mu} {H : Heap} {v : V} {u : Value} {b : Bool} (h : VRel S μ H v u) (hb : slNil v = some b) : ∃ p l c, u = .slice p l c ∧ p.isNone = b := by
  unfold slNil at hb
  split at hb
  · cases hb; simp only [VRel, RRel, Rep] at h; exact ⟨none, _, _, h, rfl⟩
  · cases hb; simp only [VRel, RRel, Rep] at h; obtain ⟨b, o, sp, l, c, h, _⟩ := h; exact ⟨_, _, _, h, rfl⟩
  · cases hb
theorem r_sleql {tx ty e : TypeId} {i : TI} {x y : Operand} {v : V} {b : Bool} (hT : Tok P T) (ho : o.op = .binOp .eql tx x y ty) (hd : o.dst = some d) (hdn : d < n) (hi : T[tx]? = some (some i)) (hk : i.k = .sl e) (hx : opv st x = some v) (hv : slNil v = some b) (hy : opv st y = some (.one (.c .nl))) :
    Step P n o st ⟨opr x ++ opr y, []⟩ ⟨some (d, some (B b)), []⟩ := by
  refine Step.value hd hdn fun _ ha _ _ _ ac w hs => ?_
  obtain ⟨p, l, c, h1, hp⟩ := slNil_rel (opv_rel hs hx (agree2 ha).1) hv
  have h2 := opv_rel hs hy (agree2 ha).2
  simp only [VRel, RRel, Rep] at h2
  subst hp
  exact ⟨.bool p.isNone, run_eql ho h1 h2 (eqGuard_run _ _ _ _ _ _ _ rfl) (by cases p <;> rfl) (run_eqSl ((hT.get hi).slice hk) _ _ _ _ _), by simp [VRel, RRel, Rep]⟩

/-! ### Structs of scalars against one another -/
def ceq : C → C → Bool
  | .int _ a, .int _ b => decide (a = b)
  | .str a, .str b => decide (a = b)
  | .bool a, .bool b => a == b
  | _, _ => false
def ceqL : List C → List C → Bool
  | a :: as, b :: bs => ceq a b && ceqL as bs
  | _, _ => true
def scalar : TK → C → C → Bool
  | .int k, .int k1 _, .int k2 _ => k == k1 && k == k2
  | .str, .str _, .str _ => true
  | .bool, .bool _, .bool _ => true
  | _, _, _ => false
/-- Fields that are scalars, one behind the other. -/
def scalars (T : TT) : Nat → List (Nat × TypeId) → List C → List C → Bool
  | _, [], [], [] => true
  | k, (off, t) :: fs, a :: as, b :: bs => Nat.beq off k && (match T[t]? with | some (some i) => scalar i.k a b | _ => false) && scalars T (k + 1) fs as bs
  | _, _, _, _ => false
def EqOk.check (P : Program) (t : TypeId) : Bool := (match P.underlying t with | some (.struct fs) => fs.toList.all fun f => f.name != "_" | _ => false) && !P.stoodInHeld t && !P.eqGuardType P.depth t
def EqOk (P : Program) (t : TypeId) : Prop := EqOk.check P t = true

theorem run_eqScalar {t : TypeId} {i : TI} {a b : C} {u v : Value} (hi : TIok P t i) (h : scalar i.k a b = true) {S : Sto} (ha : Rep S a u) (hb : Rep S b v) (d : Nat) (w : World) : (Op.equalIn (d + 1) t u v).run P w = .ok (ceq a b) w := by
  cases hk : i.k <;> rw [hk] at h <;> cases a <;> cases b <;> simp only [scalar] at h <;> try (cases h; done)
  · simp only [Rep] at ha hb; subst ha; subst hb
    rw [run_eqBool (hi.bool hk)]; rfl
  · rename_i k k1 m1 k2 m2
    simp only [Bool.and_eq_true, beq_iff_eq] at h
    obtain ⟨rfl, rfl⟩ := h
    simp only [Rep] at ha hb; subst ha; subst hb
    simp only [Op.equalIn, Sem.run_bind, run_underlying (hi.int hk) w, Result.andThen_ok, if_true, Sem.run_pure, ceq]
    congr 1
  · simp only [Rep] at ha hb; subst ha; subst hb
    simp only [Op.equalIn, Sem.run_bind, run_underlying (hi.str hk) w, Result.andThen_ok, Sem.run_pure, ceq]
    congr 1
    rw [beq_toListBytes, mk_toList, mk_toList]
    exact Bool.beq_eq_decide_eq _ _
theorem scalar_agg {k : TK} {a b : C} (h : scalar k a b = true) : k.agg = false := by cases k <;> first | rfl | (cases a <;> cases b <;> cases h)

theorem run_eqFields (hT : Tok P T) {S : Sto} (xs ys : Array Value) (d : Nat) (w : World) : ∀ (fields : List Field) (k : Nat) (as bs : List C), scalars T k (fields.map fun f => (f.offset, f.type)) as bs = true → (∀ f ∈ fields, f.name ≠ "_") →
    RepL S as (xs.toList.drop k) → RepL S bs (ys.toList.drop k) → (Op.eqFields (d + 1) xs ys fields).run P w = .ok (ceqL as bs) w := by
  intro fields
  induction fields with
  | nil =>
    intro k as bs h _ _ _
    cases as <;> cases bs <;> simp [scalars] at h
    rfl
  | cons f fields ih =>
    intro k as bs h hn hx hy
    cases as with
    | nil => cases bs <;> simp [scalars] at h
    | cons a as =>
      cases bs with
      | nil => simp [scalars] at h
      | cons b bs =>
        simp only [List.map_cons, scalars, Bool.and_eq_true] at h
        obtain ⟨⟨h1, h2⟩, h3⟩ := h
        have hoff := Nat.eq_of_beq_eq_true h1
        split at h2
        · rename_i i hi
          simp only [RepL] at hx hy
          obtain ⟨u, us, hu1, hu2, hu3⟩ := hx
          obtain ⟨v, vs, hv1, hv2, hv3⟩ := hy
          have e1 : xs[k]? = some u := by
            have := congrArg (fun l => l[0]?) hu1
            simpa using this
          have e2 : ys[k]? = some v := by
            have := congrArg (fun l => l[0]?) hv1
            simpa using this
          have e3 : xs.toList.drop (k + 1) = us := by rw [← List.drop_drop, hu1]; rfl
          have e4 : ys.toList.drop (k + 1) = vs := by rw [← List.drop_drop, hv1]; rfl
          have hag := (hT.get hi).agg_run w
          rw [scalar_agg h2] at hag
          have p1 : (part f.type xs f.offset).run P w = .ok u w := by
            simp only [part, Sem.run_bind, hag, Result.andThen_ok, Bool.false_eq_true, if_false, hoff, e1, Sem.run_pure]
          have p2 : (part f.type ys f.offset).run P w = .ok v w := by
            simp only [part, Sem.run_bind, hag, Result.andThen_ok, Bool.false_eq_true, if_false, hoff, e2, Sem.run_pure]
          have hrest := ih (k + 1) as bs h3 (fun g hg => hn g (by simp [hg])) (by rw [e3]; exact hu3) (by rw [e4]; exact hv3)
          simp only [Op.eqFields]
          rw [if_pos (hn f (by simp))]
          simp only [Sem.run_bind, p1, p2, Result.andThen_ok, run_eqScalar (hT.get hi) h2 hu2 hv2]
          cases hc : ceq a b with
          | true => simp [hrest, ceqL, hc]
          | false => simp [ceqL, hc]
        · cases h2

theorem r_steql {tx ty : TypeId} {i : TI} {fs : List (Nat × TypeId)} {x y : Operand} {as bs : List C} (hT : Tok P T) (hq : EqOk P tx) (ho : o.op = .binOp .eql tx x y ty) (hd : o.dst = some d) (hdn : d < n) (hi : T[tx]? = some (some i)) (hk : i.k = .st fs)
    (hx : opv st x = some (.pa as)) (hy : opv st y = some (.pa bs)) (hs : scalars T 0 fs as bs = true) : Step P n o st ⟨opr x ++ opr y, []⟩ ⟨some (d, some (B (ceqL as bs))), []⟩ := by
  refine Step.value hd hdn fun _ ha _ S μ ac w hsim => ?_
  have h1 := opv_rel hsim hx (agree2 ha).1
  have h2 := opv_rel hsim hy (agree2 ha).2
  simp only [VRel] at h1 h2
  obtain ⟨us, h1, h3⟩ := h1
  obtain ⟨vs, h2, h4⟩ := h2
  obtain ⟨fields, hu, hf⟩ := (hT.get hi).struct hk
  unfold EqOk EqOk.check at hq
  simp only [hu, Bool.and_eq_true, Bool.not_eq_true'] at hq
  obtain ⟨⟨q1, q2⟩, q3⟩ := hq
  have hfo : P.fieldsOf tx = fields := by simp [Program.fieldsOf, hu]
  have hn : ∀ f ∈ fields.toList, f.name ≠ "_" := fun f hf => by
    have := (List.all_eq_true.1 q1) f hf
    simpa using this
  refine ⟨.bool (ceqL as bs), run_eql ho h1 h2 ?_ rfl ?_, by simp [VRel, RRel, Rep]⟩
  · have hp : (program : Sem Program).run P w = .ok P w := rfl
    simp only [eqGuard]
    simp [hp, q3]
  · rw [run_equalIn_struct w 9999 tx _ _ (by rw [hfo, hu]) q2, hfo]
    exact run_eqFields hT ⟨us⟩ ⟨vs⟩ 9998 w fields.toList 0 as bs (by rw [← hf]; exact hs) hn (by simpa using h3) (by simpa using h4)
end
theorem take_map {α β : Type} {f : α → β} {l : List α} : (l.map f).take l.length = l.map f := List.take_of_length_le (by simp)
theorem hs_len {id a b : Nat} (h : a = b) : some (V.one (.hs id 0 a a)) = some (V.one (.hs id 0 b b)) := by rw [h]
theorem Ole.arrE {σ : Nat → Nat} {te es fz : Nat} {e e' : List (List C)} (h : e = e') : Ole σ (.arr te es e fz) (.arr te es e' 1) := by subst h; exact .arr1
theorem int_eq {k : IntKind} {a b : Int} (h : a = b) : some (I k a) = some (I k b) := by rw [h]
theorem bool_eq {a b : Bool} (h : a = b) : some (B a) = some (B b) := by rw [h]
/-- One of two states, and what the first one tells. -/
theorem AWp.split' {ro : Option Nat} {P : Program} {n : Nat} {st : St} {kf : List Nat} {c : Code} {Q : Exit → St → Prop} {st1 st2 : St} {p : Prop} (h : ∀ G n S μ a w, Sim G n S μ st a w → (Sim G n S μ st1 a w ∧ p) ∨ Sim G n S μ st2 a w) (h1 : p → AWp ro P n kf c st1 Q) (h2 : AWp ro P n kf c st2 Q) : AWp ro P n kf c st Q := fun G S μ a w Q' hg hs hQ => by
  rcases h G n S μ a w hs with ⟨h, hp⟩ | h
  · exact h1 hp G S μ a w Q' hg h hQ
  · exact h2 G S μ a w Q' hg h hQ
theorem Ole.arr0 {σ : Nat → Nat} {te es fz : Nat} {e e' : List (List C)} (h : e = e') : Ole σ (.arr te es e fz) (.arr te es e' fz) := by subst h; exact .arr
end Go.AM

/- MORE OPERATIONS: closures; maps whose keys are strings; pieces of slices and strings. -/
namespace Go.AM
open Go

section
variable {P : Program} {n : Nat} {o : Oper} {st : St} {d : Nat} {T : TT}

/-- What a closure has captured. -/
def capsV (st : St) : List Operand → Option (List R)
  | [] => some []
  | x :: xs => match opv st x with
    | some (.one r) => match capsV st xs with | some l => some (r :: l) | none => none
    | _ => none
theorem capsV_rel {G : Ctx} {S : Sto} {μ : Mu} {st' : St} {a : Act} {w : World} (hs : Sim G n S μ st' a w) : ∀ (xs : List Operand) (l : List R), capsV st xs = some l → (∀ t ∈ operandsR xs, st'.e t = st.e t) → RRelL S μ st'.h l (xs.map a.eval)
  | [], l, h, _ => by simp [capsV] at h; subst h; simp [RRelL]
  | x :: xs, l, h, ht => by
    simp only [capsV] at h
    split at h
    · rename_i r hr
      split at h
      · rename_i l' hl'
        cases h
        have h1 := opv_rel hs hr fun t h => ht t (by simp [operandsR, h])
        simp only [VRel] at h1
        simp only [List.map_cons, RRelL]
        exact ⟨_, _, rfl, h1, capsV_rel hs xs l' hl' fun t h => ht t (by simp [operandsR, h])⟩
      · cases h
    · cases h
theorem r_makeFunc {f : FuncId} {caps : Array Operand} {l : List R} (ho : o.op = .makeFunc (.func f) #[] caps) (hd : o.dst = some d) (hdn : d < n) (hc : capsV st caps.toList = some l) : Step P n o st ⟨operandsR caps.toList, []⟩ ⟨some (d, some (.one (.clo f l))), []⟩ := by
  refine Step.value hd hdn fun st' ha _ S μ ac w hs => ?_
  have h := capsV_rel hs _ _ hc ha.1
  refine ⟨.func (.func f) #[] (caps.map ac.eval), by simp [execOp, ho, Instr.makeFunc], ?_⟩
  simp only [VRel, RRel]
  refine ⟨caps.toList.map ac.eval, ?_, h⟩
  congr 1
  apply Array.ext'
  simp

/-- A method that holds its receiver. -/
theorem r_makeMethod {f : FuncId} {x : Operand} {c : R} (ho : o.op = .makeFunc (.func f) #[x] #[]) (hd : o.dst = some d) (hdn : d < n) (hx : opv st x = some (.one c)) : Step P n o st ⟨opr x, []⟩ ⟨some (d, some (.one (.mth f c))), []⟩ := by
  refine Step.value hd hdn fun st' ha _ S μ ac w hs => ?_
  have h := opv_rel hs hx ha.1
  refine ⟨.func (.func f) #[ac.eval x] #[], by simp [execOp, ho, Instr.makeFunc], ?_⟩
  simp only [VRel, RRel] at h ⊢
  exact ⟨_, rfl, h⟩
/-! ### Maps with string keys -/
def mfind (k : List UInt8) : List (List C) → Option (List C)
  | [] => none
  | (.str s :: vs) :: r => if s = k then some vs else mfind k r
  | _ :: r => mfind k r
/-- All keys are strings. -/
def mput (k : List UInt8) (vs : List C) : List (List C) → List (List C)
  | [] => [.str k :: vs]
  | (.str s :: us) :: r => if s = k then (.str k :: vs) :: r else (.str s :: us) :: mput k vs r
  | x :: r => x :: mput k vs r

theorem beq_mk (a b : List UInt8) : ((ByteArray.mk ⟨a⟩) == (ByteArray.mk ⟨b⟩)) = decide (b = a) := by
  rw [beq_toListBytes, mk_toList, mk_toList, Bool.beq_eq_decide_eq]
  by_cases h : a = b
  · subst h; simp
  · have h' : ¬ b = a := fun e => h e.symm
    simp [h, h']

theorem findNow_rel {S : Sto} {agg : Bool} {k : List UInt8} : ∀ (l : List (List C)) (es : List MapEntry) (i : Nat), RepEnts S agg l es → mstr l →
    (∀ vs, mfind k l = some vs → ∃ j e, Instr.findNow .string (.string ⟨⟨k⟩⟩) es i = some (some (i + j, e.val)) ∧ es[j]? = some e ∧ (∃ us, RepL S vs us ∧ e.val = (if agg then .agg ⟨us⟩ else us.headD undef) ∧ (agg = false → us.length = 1)) ∧ e.key = .string ⟨⟨k⟩⟩ ∧ j < es.length ∧
      ∀ ws, mput k ws l = (l.take j) ++ (.str k :: ws) :: l.drop (j + 1)) ∧
    (mfind k l = none → Instr.findNow .string (.string ⟨⟨k⟩⟩) es i = some none ∧ ∀ ws, mput k ws l = l ++ [.str k :: ws])
  | [], es, i, h, _ => by
    simp only [RepEnts] at h
    subst h
    exact ⟨fun vs hv => by simp [mfind] at hv, fun _ => ⟨rfl, fun ws => rfl⟩⟩
  | r :: l, es, i, h, hm => by
    simp only [RepEnts] at h
    obtain ⟨e, es', rfl, ⟨vs, h1, h2, h3⟩, h4⟩ := h
    match r, h1, hm with
    | .str s :: us, h1, hm =>
      simp only [mstr] at hm
      simp only [RepL] at h1
      obtain ⟨v, vs', hv, h5, h6⟩ := h1
      simp only [Rep] at h5
      injection hv with hv1 hv2
      subst hv2
      have hkey : e.key = .string ⟨⟨s⟩⟩ := by rw [hv1, h5]
      have ih := findNow_rel (k := k) l es' (i + 1) h4 hm
      by_cases hs : s = k
      · subst hs
        refine ⟨fun ws hw => ?_, fun hn => by simp [mfind] at hn⟩
        simp only [mfind, if_true, Option.some.injEq] at hw
        subst hw
        refine ⟨0, e, ?_, rfl, ⟨vs, h6, h2, h3⟩, hkey, by simp, fun ws => by simp [mput]⟩
        simp only [Instr.findNow, hkey, Instr.sameNow]
        rw [beq_mk]
        simp
      · have hfn : Instr.findNow .string (.string ⟨⟨k⟩⟩) (e :: es') i = Instr.findNow .string (.string ⟨⟨k⟩⟩) es' (i + 1) := by
          simp only [Instr.findNow, hkey, Instr.sameNow]
          rw [beq_mk]
          simp [hs]
        refine ⟨fun ws hw => ?_, fun hn => ?_⟩
        · simp only [mfind, hs, if_false] at hw
          obtain ⟨j, e', q1, q2, q3, q4, q5, q6⟩ := ih.1 ws hw
          refine ⟨j + 1, e', ?_, by simpa using q2, q3, q4, by simpa using q5, fun ws => ?_⟩
          · rw [hfn, q1, show i + 1 + j = i + (j + 1) by omega]
          · simp only [mput, hs, if_false, q6 ws]
            simp
        · simp only [mfind, hs, if_false] at hn
          obtain ⟨q1, q2⟩ := ih.2 hn
          exact ⟨by rw [hfn, q1], fun ws => by simp only [mput, hs, if_false, q2 ws]; simp⟩
    | [], h1, _ => simp only [RepL] at h1; cases h1
    | .int _ _ :: _, _, hm => simp [mstr] at hm
    | .bool _ :: _, _, hm => simp [mstr] at hm
    | .nl :: _, _, hm => simp [mstr] at hm
    | .sl _ _ :: _, _, hm => simp [mstr] at hm
    | .sn _ _ :: _, _, hm => simp [mstr] at hm
    | .np :: _, _, hm => simp [mstr] at hm
    | .pt _ :: _, _, hm => simp [mstr] at hm
    | .mp _ _ :: _, _, hm => simp [mstr] at hm
    | .zv _ :: _, _, hm => simp [mstr] at hm

theorem checkKey_str {t : TypeId} (hu : P.underlying t = some .string) (b : Bool) (d : Nat) (s : ByteArray) (w : World) : (Instr.checkKey b (d + 1) t (.string s)).run P w = .ok () w := by
  simp only [Instr.checkKey, Sem.run_bind, run_underlying hu w, Result.andThen_ok, Sem.run_pure]

/-- The entries of a map that is read. -/
inductive MapE (st : St) : List Nat → V → Bool → List (List C) → Prop
  | mr {id agg ents} : st.h id = some (.map agg ents) → MapE st [id] (.one (.mr id)) agg ents
  | mp {agg ents} : MapE st [] (.one (.c (.mp agg ents))) agg ents
  | nil {agg} : MapE st [] (.one (.c (.zv 0))) agg []

theorem MapE.rel {G : Ctx} {S : Sto} {μ : Mu} {st' : St} {a : Act} {w : World} {ids : List Nat} {v : V} {agg : Bool} {ents : List (List C)} {u : Value} (hs : Sim G n S μ st' a w) (h : MapE st ids v agg ents) (hms : mstr ents) (hi : ∀ i ∈ ids, st'.h i = st.h i) (hv : VRel S μ st'.h v u) :
    ∃ es : Array MapEntry, RepEnts S agg ents es.toList ∧ ((u = .map none ∧ es = #[]) ∨ ∃ b clk, u = .map (some b) ∧ w.heap[b]? = some (.map es clk)) := by
  cases h with
  | mr hh =>
    have hh' := (hi _ (by simp)).trans hh
    simp only [VRel, RRel] at hv
    obtain ⟨agg', ents', b, c, h1, h2, h3⟩ := hv
    rw [hh'] at h1; cases h1
    obtain ⟨b', es, clk, g1, g2, g3, g4⟩ := hs.inv.obj _ _ hh'
    rw [h2] at g1; cases g1
    exact ⟨es, g3.rep hms, .inr ⟨_, clk, h3, g2⟩⟩
  | mp =>
    simp only [VRel, RRel, Rep] at hv
    obtain ⟨b, es, clk, h1, h2, h3⟩ := hv
    exact ⟨es, h3, .inr ⟨b, clk, h1, hs.inv.holds.2 _ _ _ h2⟩⟩
  | nil =>
    simp only [VRel, RRel, Rep, zval] at hv
    exact ⟨#[], by simp [RepEnts], .inl ⟨hv, rfl⟩⟩

/-- What a look-up brings. -/
def lookR (i : TI) (r : Option (List C)) : V := match r with
  | some vs => if i.k.agg then .pa vs else match vs with | [c] => .one (.c c) | _ => .tup []
  | none => if i.k.agg then .pa i.zero else match i.zero with | [c] => .one (.c c) | _ => .tup []
def lookB (r : Option (List C)) : Bool := r.isSome

def foundV (r : Option (Nat × Value)) (z : Value) : Value := match r with | some p => p.2 | none => z
theorem run_getMap (w : World) (b : Nat) (es : Array MapEntry) (clk : Nat) (h : w.heap[b]? = some (.map es clk)) : (getObj b).run P w = .ok (.map es clk) w := by
  exact MapKept.run_getObj_map h

theorem r_lookup {t kt et : TypeId} {i ki ei : TI} {x y : Operand} {ok : Bool} {v : V} {ids : List Nat} {agg : Bool} {ents : List (List C)} {k : List UInt8} {r : Option (List C)} (hT : Tok P T) (ho : o.op = .lookup t x y ok) (hd : o.dst = some d) (hdn : d < n) (hi : T[t]? = some (some i)) (hk : i.k = .mp kt et)
    (hki : T[kt]? = some (some ki)) (hkk : ki.k = .str) (hei : T[et]? = some (some ei)) (hag : ei.k.agg = agg) (hx : opv st x = some v) (hm : MapE st ids v agg ents) (hms : mstr ents) (hy : opv st y = some (Go.AM.T k)) (hr : mfind k ents = r) :
    Step P n o st ⟨opr x ++ opr y, ids⟩ ⟨some (d, some (if ok then .tup [lookR ei r, B (lookB r)] else lookR ei r)), []⟩ := by
  refine Step.value hd hdn fun st' ha G S μ a w hs => ?_
  obtain ⟨es, h1, h2⟩ := hm.rel hs hms ha.2 (opv_rel hs hx fun t h => ha.1 t (by simp [h]))
  have h3 := one_str (opv_rel hs hy fun t h => ha.1 t (by simp [h]))
  have hu := run_underlying ((hT.get hi).map hk) w
  have hks := (hT.get hki).str hkk
  obtain ⟨z, hz, hzr, hz1, hz2⟩ := (hT.get hei).zero_run
  have hfind := findNow_rel (k := k) ents es.toList 0 h1 hms
  -- what comes
  have key : ∃ r0 : Option (Nat × Value), (Instr.findKey kt (.string ⟨⟨k⟩⟩) es.toList).run P w = .ok r0 w ∧ VRel S μ st'.h (lookR ei r) (foundV r0 z) ∧ lookB r = r0.isSome := by
    cases hq : mfind k ents with
    | some vs =>
      obtain ⟨j, e, q1, q2, ⟨us, q3, q4, q5⟩, q6, q7, q8⟩ := hfind.1 vs hq
      refine ⟨some (0 + j, e.val), ?_, ?_, by rw [← hr, hq]; rfl⟩
      · simp only [Instr.findKey, Sem.run_bind, run_underlying hks w, Result.andThen_ok, q1, Sem.run_pure]
      · rw [← hr, hq]
        simp only [lookR, hag]
        cases agg with
        | true =>
          simp only [if_true, VRel] at q4 ⊢
          exact ⟨us, q4, q3⟩
        | false =>
          simp only [Bool.false_eq_true, if_false] at q4 ⊢
          have hl := q5 rfl
          have hl2 := q3.length
          match vs, us, q3, hl, hl2 with
          | [c], [u], q3, _, _ =>
            simp only [RepL] at q3
            obtain ⟨v, vs', hv, hc, _⟩ := q3
            cases hv
            rw [q4]
            simp only [VRel, RRel]
            exact hc
    | none =>
      obtain ⟨q1, _⟩ := hfind.2 hq
      refine ⟨none, ?_, ?_, by rw [← hr, hq]; rfl⟩
      · simp only [Instr.findKey, Sem.run_bind, run_underlying hks w, Result.andThen_ok, q1, Sem.run_pure]
      · rw [← hr, hq]
        simp only [lookR, hag]
        have hzr' := hzr S
        cases agg with
        | true =>
          rw [hag, if_pos rfl] at hz1
          simp only [if_true, VRel]
          exact ⟨z.cells.toList, hz1, hzr'⟩
        | false =>
          obtain ⟨u, hu1, hu2⟩ := hz2 hag
          simp only [Bool.false_eq_true, if_false]
          have hl := (hT.get hei).len
          rw [(hT.get hei).one hag] at hl
          match hzz : ei.zero, hl with
          | [c], _ =>
            rw [hzz, hu1] at hzr'
            simp only [RepL] at hzr'
            obtain ⟨v, vs', hv, hc, _⟩ := hzr'
            cases hv
            rw [hu2]
            simp only [VRel, RRel]
            exact hc
  obtain ⟨r0, hf, hv, hb⟩ := key
  have hck := fun b => checkKey_str (P := P) hks b 9999 ⟨⟨k⟩⟩ w
  have fin : VRel S μ st'.h (if ok then .tup [lookR ei r, B (lookB r)] else lookR ei r) (if ok then .tuple #[(foundV r0 z), .bool r0.isSome] else (foundV r0 z)) := by
    cases ok with
    | false => exact hv
    | true =>
      simp only [if_true, VRel, VRelL]
      exact ⟨[_, .bool r0.isSome], rfl, _, [.bool r0.isSome], rfl, hv, .bool r0.isSome, [], rfl, by rw [hb]; simp [RRel, Rep], rfl⟩
  refine ⟨_, ?_, fin⟩
  rcases h2 with ⟨h2, rfl⟩ | ⟨b, clk, h2, h4⟩
  · simp only [execOp, ho, h2, h3, Sem.run_bind, Instr.lookup, hu, Result.andThen_ok, Sem.run_pure]
    rw [show (10000 : Nat) = 9999 + 1 from rfl, hck]
    simp only [Result.andThen_ok, hf]
    cases r0 with
    | none => simp only [Sem.run_bind, hz w, Result.andThen_ok, Sem.run_pure]; rfl
    | some p => rfl
  · simp only [execOp, ho, h2, h3, Sem.run_bind, Instr.lookup, hu, Result.andThen_ok, Sem.run_pure, run_getMap w b es clk h4]
    rw [show (10000 : Nat) = 9999 + 1 from rfl, hck]
    simp only [Result.andThen_ok, hf]
    cases r0 with
    | none => simp only [Sem.run_bind, hz w, Result.andThen_ok, Sem.run_pure]; rfl
    | some p => rfl

theorem repEnts_append {S : Sto} {agg : Bool} : ∀ {a : List (List C)} {x : List MapEntry} {b : List (List C)} {y : List MapEntry}, RepEnts S agg a x → RepEnts S agg b y → RepEnts S agg (a ++ b) (x ++ y)
  | [], _, _, _, h, k => by simp only [RepEnts] at h; subst h; simpa using k
  | _ :: _, _, _, _, h, k => by
    simp only [RepEnts, List.cons_append] at h ⊢
    obtain ⟨v, vs', rfl, h1, h2⟩ := h
    exact ⟨v, vs' ++ _, rfl, h1, repEnts_append h2 k⟩
theorem repEnts_take {S : Sto} {agg : Bool} : ∀ {a : List (List C)} {x : List MapEntry} (n : Nat), RepEnts S agg a x → RepEnts S agg (a.take n) (x.take n)
  | _, _, 0, _ => by simp [RepEnts]
  | [], _, n + 1, h => by simp only [RepEnts] at h; subst h; simp [RepEnts]
  | _ :: _, _, n + 1, h => by
    simp only [RepEnts, List.take_succ_cons] at h ⊢
    obtain ⟨v, vs', rfl, h1, h2⟩ := h
    exact ⟨v, vs'.take n, by simp, h1, repEnts_take n h2⟩
theorem repEnts_drop {S : Sto} {agg : Bool} : ∀ {a : List (List C)} {x : List MapEntry} (n : Nat), RepEnts S agg a x → RepEnts S agg (a.drop n) (x.drop n)
  | _, _, 0, h => by simpa using h
  | [], _, n + 1, h => by simp only [RepEnts] at h; subst h; simp [RepEnts]
  | _ :: _, _, n + 1, h => by
    simp only [RepEnts, List.drop_succ_cons] at h ⊢
    obtain ⟨v, vs', rfl, h1, h2⟩ := h
    simpa using repEnts_drop n h2

/-- 'm[k] = v'. -/
theorem r_mapUpdate {t kt et : TypeId} {i ki : TI} {x y z : Operand} {id : Nat} {agg : Bool} {ents : List (List C)} {k : List UInt8} {v : V} {rs : List R} {cs : List C} {ids : List Nat} (hT : Tok P T) (ho : o.op = .mapUpdate t x y z) (hd : o.dst = none) (hi : T[t]? = some (some i)) (hk : i.k = .mp kt et)
    (hki : T[kt]? = some (some ki)) (hkk : ki.k = .str) (hx : opv st x = some (.one (.mr id))) (hh : st.h id = some (.map agg ents)) (hms : mstr ents) (hy : opv st y = some (Go.AM.T k))
    (hz : opv st z = some v) (hva : (match v with | .one _ => !agg | .pa _ => agg | .ma _ => agg | _ => false) = true) (hc : cellsV v = some rs) (hp : PureL st.h ids rs cs) :
    Step P n o st ⟨opr x ++ opr y ++ opr z, id :: ids⟩ ⟨none, [(id, some (.map agg (mput k cs ents)))]⟩ := by
  refine Step.turn hd hh (by simp) (by simp [AObj.succ]) fun st' ha hh' G S μ a w hs => ?_
  have h1 := opv_rel hs hx fun t h => ha.1 t (by simp [h])
  have h3 := one_str (opv_rel hs hy fun t h => ha.1 t (by simp [h]))
  have hv := opv_rel hs hz fun t h => ha.1 t (by simp [h])
  simp only [VRel, RRel] at h1
  obtain ⟨agg', ents', b, c, q1, q2, q3⟩ := h1
  obtain ⟨b', es, clk, g1, g2, g3, g4⟩ := hs.inv.obj id _ hh'
  rw [g1] at q2; cases q2
  have g3 := g3.rep hms
  have hrep := hp.rel (fun i h => ha.2 i (by simp [h])) hs.inv.obj (cellsV_rel hv hc)
  -- the value, as an entry holds it
  have hval : a.eval z = (if agg then .agg ⟨(a.eval z).cells.toList⟩ else (a.eval z).cells.toList.headD undef) ∧ (agg = false → (a.eval z).cells.toList.length = 1) := by
    cases v with
    | one r =>
      simp at hva
      subst hva
      simp only [VRel] at hv
      rw [hv.one.1]
      simp
    | pa l =>
      simp at hva
      subst hva
      simp only [VRel] at hv
      obtain ⟨vs, hv, _⟩ := hv
      rw [hv]
      simp [Value.cells]
    | ma l =>
      simp at hva
      subst hva
      simp only [VRel] at hv
      obtain ⟨vs, hv, _⟩ := hv
      rw [hv]
      simp [Value.cells]
    | tup l => simp at hva
  have hks := (hT.get hki).str hkk
  have hu := run_underlying ((hT.get hi).map hk) w
  have hfind := findNow_rel (k := k) ents es.toList 0 g3 hms
  have hck := fun b => checkKey_str (P := P) hks b 9999 ⟨⟨k⟩⟩ w
  have hone : ∀ e : MapEntry, e.key = .string ⟨⟨k⟩⟩ → e.val = a.eval z → RepEnts S agg [.str k :: cs] [e] := by
    intro e he1 he2
    simp only [RepEnts]
    refine ⟨e, [], rfl, ⟨(a.eval z).cells.toList, ?_, by rw [he2]; exact hval.1, hval.2⟩, rfl⟩
    simp only [RepL]
    exact ⟨e.key, _, rfl, by simp [Rep, he1], hrep⟩
  have hset : ∀ (ob : Obj), (setObj b ob).run P w = .ok () { w with heap := w.heap.setIfInBounds b ob } := by
    intro ob
    exact MapKept.run_setObj_map _ g2
  have hW : ∀ ob, WChg w { w with heap := w.heap.setIfInBounds b ob } b ob := fun ob => by
    have hlt := lt_of_some g2
    refine ⟨rfl, rfl, rfl, by simp, by simp [hlt], fun k _ hne => ?_⟩
    show (w.heap.setIfInBounds b ob)[k]? = _
    rw [Array.getElem?_setIfInBounds, if_neg (fun e => hne e.symm)]
  have hSc : ∀ (ob : Obj) (o : Nat) (v : Value), S.cell b o = some v → ∃ vs t fr, ob = .cells vs t fr ∧ vs[o]? = some v := fun ob o v e => by
    obtain ⟨vs, t, fr, p1, _⟩ := hs.inv.holds.1 b o v e
    rw [g2] at p1; cases p1
  have hSm : ∀ m, S.mapo b = some m → w.heap.size ≤ b := fun m e => by rw [g4] at e; cases e
  cases hq : mfind k ents with
  | some vs =>
    obtain ⟨j, e, p1, p2, _, p4, p5, p6⟩ := hfind.1 vs hq
    refine ⟨_, .map (es.modify j fun e => { e with key := .string ⟨⟨k⟩⟩, val := a.eval z }) clk, b, (0, 0), ?_, g1, hW _, ⟨b, _, clk, upd_same _ _ _, (hW _).new, .inr ?_, g4⟩, hSc _, hSm⟩
    · have hkey : ((es[j]?).map (·.key)).getD (.string ⟨⟨k⟩⟩) = .string ⟨⟨k⟩⟩ := by
        rw [← Array.getElem?_toList, p2]
        simpa using p4
      have hkt : (Instr.keyThatStays (.string ⟨⟨k⟩⟩) (.string ⟨⟨k⟩⟩)).run P w = .ok (.string ⟨⟨k⟩⟩) w := by
        have hsb : Instr.sameBits 10000 (.string ⟨⟨k⟩⟩) (.string ⟨⟨k⟩⟩) = true := by simp [Instr.sameBits, beq_mk]
        simp only [Instr.keyThatStays, hsb, if_true, Sem.run_pure]
      simp only [execOp, ho, q3, h3, Sem.run_bind, Instr.mapUpdate, hu, Result.andThen_ok, run_getMap w b es clk g2]
      rw [show (10000 : Nat) = 9999 + 1 from rfl, hck]
      simp only [Result.andThen_ok, Instr.findKey, Sem.run_bind, run_underlying hks w, p1, Sem.run_pure, Nat.zero_add, hkey, hkt, hset]
    · rw [p6 cs, Array.toList_modify]
      have hmod : es.toList.modify j (fun e => { e with key := .string ⟨⟨k⟩⟩, val := a.eval z }) = es.toList.take j ++ { e with key := .string ⟨⟨k⟩⟩, val := a.eval z } :: es.toList.drop (j + 1) := by
        apply List.ext_getElem?
        intro i
        rw [List.getElem?_modify]
        have p5' : j < es.size := by simpa using p5
        by_cases c1 : i < j
        · rw [List.getElem?_append_left (by simp; omega), List.getElem?_take, if_pos c1]
          simp [show ¬ j = i by omega]
        · rw [List.getElem?_append_right (by simp; omega)]
          simp only [List.length_take]
          by_cases c2 : j = i
          · subst c2
            rw [p2]
            have hm : min j es.toList.length = j := by simp; omega
            rw [hm]
            simp
          · rw [Nat.min_eq_left (Nat.le_of_lt p5), show i - j = (i - j - 1) + 1 by omega, List.getElem?_cons_succ, List.getElem?_drop]
            simp [c2, show j + 1 + (i - j - 1) = i by omega]
      rw [hmod]
      have := repEnts_append (repEnts_take j g3) (repEnts_append (hone { e with key := .string ⟨⟨k⟩⟩, val := a.eval z } rfl rfl) (repEnts_drop (j + 1) g3))
      exact this
  | none =>
    obtain ⟨p1, p2⟩ := hfind.2 hq
    refine ⟨_, .map (es.push { key := .string ⟨⟨k⟩⟩, val := a.eval z, born := clk }) (clk + 1), b, (0, 0), ?_, g1, hW _, ⟨b, _, clk + 1, upd_same _ _ _, (hW _).new, .inr ?_, g4⟩, hSc _, hSm⟩
    · simp only [execOp, ho, q3, h3, Sem.run_bind, Instr.mapUpdate, hu, Result.andThen_ok, run_getMap w b es clk g2]
      rw [show (10000 : Nat) = 9999 + 1 from rfl, hck]
      simp only [Result.andThen_ok, Instr.findKey, Sem.run_bind, run_underlying hks w, p1, Sem.run_pure, hset]
    · rw [p2 cs, Array.toList_push]
      exact repEnts_append g3 (hone _ rfl rfl)
/-- In a map's literal. -/
theorem r_insert {t kt et : TypeId} {i ki : TI} {x y z : Operand} {id : Nat} {agg : Bool} {ents : List (List C)} {k : List UInt8} {v : V} {rs : List R} {cs : List C} {ids : List Nat} (hT : Tok P T) (ho : o.op = .insert t x y z) (hd : o.dst = none) (hi : T[t]? = some (some i)) (hk : i.k = .mp kt et)
    (hki : T[kt]? = some (some ki)) (hkk : ki.k = .str) (hx : opv st x = some (.one (.mr id))) (hh : st.h id = some (.map agg ents)) (hms : mstr ents) (hy : opv st y = some (Go.AM.T k))
    (hz : opv st z = some v) (hva : (match v with | .one _ => !agg | .pa _ => agg | .ma _ => agg | _ => false) = true) (hc : cellsV v = some rs) (hp : PureL st.h ids rs cs) :
    Step P n o st ⟨opr x ++ opr y ++ opr z, id :: ids⟩ ⟨none, [(id, some (.map agg (mput k cs ents)))]⟩ := by
  refine Step.turn hd hh (by simp) (by simp [AObj.succ]) fun st' ha hh' G S μ a w hs => ?_
  have h1 := opv_rel hs hx fun t h => ha.1 t (by simp [h])
  have h3 := one_str (opv_rel hs hy fun t h => ha.1 t (by simp [h]))
  have hv := opv_rel hs hz fun t h => ha.1 t (by simp [h])
  simp only [VRel, RRel] at h1
  obtain ⟨agg', ents', b, c, q1, q2, q3⟩ := h1
  obtain ⟨b', es, clk, g1, g2, g3, g4⟩ := hs.inv.obj id _ hh'
  rw [g1] at q2; cases q2
  have g3 := g3.rep hms
  have hrep := hp.rel (fun i h => ha.2 i (by simp [h])) hs.inv.obj (cellsV_rel hv hc)
  -- the value, as an entry holds it
  have hval : a.eval z = (if agg then .agg ⟨(a.eval z).cells.toList⟩ else (a.eval z).cells.toList.headD undef) ∧ (agg = false → (a.eval z).cells.toList.length = 1) := by
    cases v with
    | one r =>
      simp at hva
      subst hva
      simp only [VRel] at hv
      rw [hv.one.1]
      simp
    | pa l =>
      simp at hva
      subst hva
      simp only [VRel] at hv
      obtain ⟨vs, hv, _⟩ := hv
      rw [hv]
      simp [Value.cells]
    | ma l =>
      simp at hva
      subst hva
      simp only [VRel] at hv
      obtain ⟨vs, hv, _⟩ := hv
      rw [hv]
      simp [Value.cells]
    | tup l => simp at hva
  have hks := (hT.get hki).str hkk
  have hu := run_underlying ((hT.get hi).map hk) w
  have hfind := findNow_rel (k := k) ents es.toList 0 g3 hms
  have hck := fun b => checkKey_str (P := P) hks b 9999 ⟨⟨k⟩⟩ w
  have hone : ∀ e : MapEntry, e.key = .string ⟨⟨k⟩⟩ → e.val = a.eval z → RepEnts S agg [.str k :: cs] [e] := by
    intro e he1 he2
    simp only [RepEnts]
    refine ⟨e, [], rfl, ⟨(a.eval z).cells.toList, ?_, by rw [he2]; exact hval.1, hval.2⟩, rfl⟩
    simp only [RepL]
    exact ⟨e.key, _, rfl, by simp [Rep, he1], hrep⟩
  have hset : ∀ (ob : Obj), (setObj b ob).run P w = .ok () { w with heap := w.heap.setIfInBounds b ob } := by
    intro ob
    exact MapKept.run_setObj_map _ g2
  have hW : ∀ ob, WChg w { w with heap := w.heap.setIfInBounds b ob } b ob := fun ob => by
    have hlt := lt_of_some g2
    refine ⟨rfl, rfl, rfl, by simp, by simp [hlt], fun k _ hne => ?_⟩
    show (w.heap.setIfInBounds b ob)[k]? = _
    rw [Array.getElem?_setIfInBounds, if_neg (fun e => hne e.symm)]
  have hSc : ∀ (ob : Obj) (o : Nat) (v : Value), S.cell b o = some v → ∃ vs t fr, ob = .cells vs t fr ∧ vs[o]? = some v := fun ob o v e => by
    obtain ⟨vs, t, fr, p1, _⟩ := hs.inv.holds.1 b o v e
    rw [g2] at p1; cases p1
  have hSm : ∀ m, S.mapo b = some m → w.heap.size ≤ b := fun m e => by rw [g4] at e; cases e
  cases hq : mfind k ents with
  | some vs =>
    obtain ⟨j, e, p1, p2, _, p4, p5, p6⟩ := hfind.1 vs hq
    refine ⟨_, .map (es.modify j fun e => { e with key := .string ⟨⟨k⟩⟩, val := a.eval z }) clk, b, (0, 0), ?_, g1, hW _, ⟨b, _, clk, upd_same _ _ _, (hW _).new, .inr ?_, g4⟩, hSc _, hSm⟩
    · have hkey : ((es[j]?).map (·.key)).getD (.string ⟨⟨k⟩⟩) = .string ⟨⟨k⟩⟩ := by
        rw [← Array.getElem?_toList, p2]
        simpa using p4
      have hkt : (Instr.keyThatStays (.string ⟨⟨k⟩⟩) (.string ⟨⟨k⟩⟩)).run P w = .ok (.string ⟨⟨k⟩⟩) w := by
        have hsb : Instr.sameBits 10000 (.string ⟨⟨k⟩⟩) (.string ⟨⟨k⟩⟩) = true := by simp [Instr.sameBits, beq_mk]
        simp only [Instr.keyThatStays, hsb, if_true, Sem.run_pure]
      simp only [execOp, ho, q3, h3, Sem.run_bind, Instr.mapUpdate, hu, Result.andThen_ok, run_getMap w b es clk g2]
      rw [show (10000 : Nat) = 9999 + 1 from rfl, hck]
      simp only [Result.andThen_ok, Instr.findKey, Sem.run_bind, run_underlying hks w, p1, Sem.run_pure, Nat.zero_add, hkey, hkt, hset]
    · rw [p6 cs, Array.toList_modify]
      have hmod : es.toList.modify j (fun e => { e with key := .string ⟨⟨k⟩⟩, val := a.eval z }) = es.toList.take j ++ { e with key := .string ⟨⟨k⟩⟩, val := a.eval z } :: es.toList.drop (j + 1) := by
        apply List.ext_getElem?
        intro i
        rw [List.getElem?_modify]
        have p5' : j < es.size := by simpa using p5
        by_cases c1 : i < j
        · rw [List.getElem?_append_left (by simp; omega), List.getElem?_take, if_pos c1]
          simp [show ¬ j = i by omega]
        · rw [List.getElem?_append_right (by simp; omega)]
          simp only [List.length_take]
          by_cases c2 : j = i
          · subst c2
            rw [p2]
            have hm : min j es.toList.length = j := by simp; omega
            rw [hm]
            simp
          · rw [Nat.min_eq_left (Nat.le_of_lt p5), show i - j = (i - j - 1) + 1 by omega, List.getElem?_cons_succ, List.getElem?_drop]
            simp [c2, show j + 1 + (i - j - 1) = i by omega]
      rw [hmod]
      have := repEnts_append (repEnts_take j g3) (repEnts_append (hone { e with key := .string ⟨⟨k⟩⟩, val := a.eval z } rfl rfl) (repEnts_drop (j + 1) g3))
      exact this
  | none =>
    obtain ⟨p1, p2⟩ := hfind.2 hq
    refine ⟨_, .map (es.push { key := .string ⟨⟨k⟩⟩, val := a.eval z, born := clk }) (clk + 1), b, (0, 0), ?_, g1, hW _, ⟨b, _, clk + 1, upd_same _ _ _, (hW _).new, .inr ?_, g4⟩, hSc _, hSm⟩
    · simp only [execOp, ho, q3, h3, Sem.run_bind, Instr.mapUpdate, hu, Result.andThen_ok, run_getMap w b es clk g2]
      rw [show (10000 : Nat) = 9999 + 1 from rfl, hck]
      simp only [Result.andThen_ok, Instr.findKey, Sem.run_bind, run_underlying hks w, p1, Sem.run_pure, hset]
    · rw [p2 cs, Array.toList_push]
      exact repEnts_append g3 (hone _ rfl rfl)
end
end Go.AM

/- THE OPERATIONS, ONE BY ONE (9): append onto nil; the rest of an array; max. -/
namespace Go.AM
open Go

section
variable {P : Program} {n : Nat} {o : Oper} {st : St} {d : Nat} {T : TT}

theorem upd_upd {α : Type} (f : Nat → Option α) (k : Nat) (x y : Option α) : upd (upd f k x) k y = upd f k y := by
  funext i
  simp only [upd]
  split <;> rfl

/-- append, onto nil. -/
theorem r_append0 {t e : TypeId} {i ei : TI} {x y : Operand} {rows : List (List C)} {vy : V} {ids : List Nat} (id : Nat) (hT : Tok P T) (ho : o.op = .call { callee := .builtin .append, args := #[x, y], argTypes := #[t, t] }) (hd : o.dst = some d) (hdn : d < n)
    (hi : T[t]? = some (some i)) (hk : i.k = .sl e) (hei : T[e]? = some (some ei)) (hes : Nat.ble 1 ei.size = true) (heb : Nat.ble 1 ei.bytes = true)
    (hx : opv st x = some (.one (.c .nl))) (hid : st.h id = none) (hy : opv st y = some vy) (hsrc : Src st ei.size ids vy rows)
    (hroom : rows.length * ei.bytes ≤ 140737488355328) :
    Step P n o st ⟨opr x ++ opr y, id :: ids⟩ ⟨some (d, some (.one (.hs id 0 rows.length rows.length))), [(id, some (.arr e ei.size rows 0))]⟩ := by
  intro st' ha G S μ a w K Q hs hk'
  have hid' : st'.h id = none := by rw [ha.2 id (by simp), hid]
  obtain ⟨hi', hE⟩ := hs.inv.empty e ei.size hid'
  have hs2 : Sim G n S (upd μ id none) ⟨st'.e, upd st'.h id (some (.arr e ei.size [] 0)), st'.d⟩ a w := ⟨hi', hs.size, hs.defers.evolve hE, fun t v e => VRel.evolve hE v _ (hs.env t v e)⟩
  have hvx := opv_rel hs hx fun t ht => ha.1 t (by simp [ht])
  have hvy := opv_rel hs hy fun t ht => ha.1 t (by simp [ht])
  simp only [VRel, RRel, Rep] at hvx
  have hvx' : VRel S (upd μ id none) (upd st'.h id (some (.arr e ei.size [] 0))) (.one (.hs id 0 0 0)) (a.eval x) := by
    simp only [VRel, RRel]
    exact ⟨⟨_, _, _, hvx⟩, .inr ⟨e, ei.size, [], 0, upd_same _ _ _, Nat.le_refl _, fun _ => ⟨Nat.le_refl _, .inl ⟨upd_same _ _ _, rfl, hvx⟩⟩⟩⟩
  have hne : ∀ j ∈ ids, j ≠ id := by
    intro j hj e
    subst e
    cases hsrc with
    | hs h1 _ _ => simp at hj; subst hj; rw [hid] at h1; cases h1
    | all h1 _ => simp at hj; subst hj; rw [hid] at h1; cases h1
    | sl => simp at hj
    | nl => simp at hj
    | sn => simp at hj
  have := append_at (fz := 0) (elems := []) (id := id) hT ho hi hk hei hes heb rfl (by simpa using hroom) (upd_same _ _ _) hs2 hvx' (VRel.evolve hE _ _ hvy) hsrc fun j hj => by
    show upd st'.h id (some (.arr e ei.size [] 0)) j = _
    rw [upd_ne _ _ _ (hne j hj)]
    exact ha.2 j (by simp [hj])
  refine grow_at hd hdn (by simp) _ (upd_same _ _ _) hs2 (fun S' μ' a' w' h => hk' S' μ' a' w' ?_) this
  have e1 : Eff.apply ⟨some (d, some (.one (.hs id 0 (([] : List (List C)).length + rows.length) (([] : List (List C)).length + rows.length)))), [(id, some (.arr e ei.size ([] ++ rows) (if 0 = 0 then 0 else 1)))]⟩ ⟨st'.e, upd st'.h id (some (.arr e ei.size [] 0)), st'.d⟩
      = Eff.apply ⟨some (d, some (.one (.hs id 0 rows.length rows.length))), [(id, some (.arr e ei.size rows 0))]⟩ st' := by
    unfold Eff.apply
    rw [updL_one, updL_one, upd_upd]
    simp
  rw [e1] at h
  exact h

/-- A slot read as plain data. -/
theorem Sub.conv {kf ids : List Nat} {t : Nat} {v v' : V} (h : st.e t = some v) (hc : Conv st.h ids v v') : Sub kf ⟨upd st.e t (some v'), st.h, st.d⟩ st := by
  intro G n S μ a w _ hs
  refine ⟨S, μ, ⟨hs.inv, hs.size, hs.defers, fun s u e => ?_⟩⟩
  by_cases hst : s = t
  · subst hst
    have : some v' = some u := by rw [← e]; exact (upd_same _ _ _).symm
    cases this
    exact hc.rel (fun _ _ => rfl) hs.inv.obj (hs.env s _ h)
  · exact hs.env s u (by rw [← e]; exact (upd_ne _ _ _ hst).symm)

/-- '[]T{..}', as plain data. -/
theorem r_sliceC {t e : TypeId} {i ei : TI} {len : Nat} {parts : Array (Nat × Operand)} {ids : List Nat} {rows : List (List C)} (id : Nat) (hT : Tok P T) (ho : o.op = .buildSlice t len parts) (hd : o.dst = some d) (hdn : d < n) (hi : T[t]? = some (some i)) (hk : i.k = .sl e) (hei : T[e]? = some (some ei)) (hrows : RowsV st ei.size 0 ids parts.toList rows) (hlen : Nat.beq len parts.size = true) (hsmall : Nat.ble (len * ei.size) 16777216 = true) (hsm1 : Nat.ble len 16777216 = true) (hid : st.h id = none) :
    Step P n o st ⟨partsR parts.toList, id :: ids⟩ ⟨some (d, some (.one (.c (.sl ei.size rows)))), [(id, some (.arr e ei.size rows 2))]⟩ := by
  intro st' ha G S μ a w K Q hs hk'
  refine r_slice id hT ho hd hdn hi hk hei hrows hlen hsmall hsm1 hid st' ha G S μ a w K Q hs fun S1 μ1 a1 w1 h1 => ?_
  have hlen' : len = rows.length := by rw [hrows.lengths]; simpa using Nat.eq_of_beq_eq_true hlen
  have hh : (Eff.apply ⟨some (d, some (.one (.hs id 0 len len))), [(id, some (.arr e ei.size rows 0))]⟩ st').h id = some (.arr e ei.size rows 0) := by
    show updL st'.h [(id, some (.arr e ei.size rows 0))] id = _
    rw [updL_one, upd_same]
  obtain ⟨S2, μ2, h2⟩ := h1.freeze hh
  refine hk' S2 μ2 a1 w1 ⟨?_, h2.size, ?_, fun s u e1 => ?_⟩
  · have := h2.inv
    show Inv G S2 μ2 (updL st'.h [(id, some (.arr e ei.size rows 2))]) w1
    rw [updL_one]
    have e2 : upd (Eff.apply ⟨some (d, some (.one (.hs id 0 len len))), [(id, some (.arr e ei.size rows 0))]⟩ st').h id (some (.arr e ei.size rows 2)) = upd st'.h id (some (.arr e ei.size rows 2)) := by
      show upd (updL st'.h [(id, some (.arr e ei.size rows 0))]) id _ = _
      rw [updL_one, upd_upd]
    rw [← e2]; exact this
  · have := h2.defers
    show Marks _ μ2 (updL st'.h [(id, some (.arr e ei.size rows 2))]) st'.d a1.defers
    rw [updL_one]
    have e2 : upd (Eff.apply ⟨some (d, some (.one (.hs id 0 len len))), [(id, some (.arr e ei.size rows 0))]⟩ st').h id (some (.arr e ei.size rows 2)) = upd st'.h id (some (.arr e ei.size rows 2)) := by
      show upd (updL st'.h [(id, some (.arr e ei.size rows 0))]) id _ = _
      rw [updL_one, upd_upd]
    rw [← e2]; exact this
  · have e2 : upd (Eff.apply ⟨some (d, some (.one (.hs id 0 len len))), [(id, some (.arr e ei.size rows 0))]⟩ st').h id (some (.arr e ei.size rows 2)) = updL st'.h [(id, some (.arr e ei.size rows 2))] := by
      show upd (updL st'.h [(id, some (.arr e ei.size rows 0))]) id _ = _
      rw [updL_one, updL_one, upd_upd]
    show VRel S2 μ2 (updL st'.h [(id, some (.arr e ei.size rows 2))]) u (a1.tmps.getD s undef)
    by_cases hsd : s = d
    · subst hsd
      have hu : u = .one (.c (.sl ei.size rows)) := by
        have : upd st'.e s (some (.one (.c (.sl ei.size rows)))) s = some u := e1
        rw [upd_same] at this
        cases this; rfl
      subst hu
      have hv := h2.env s (.one (.hs id 0 len len)) (upd_same _ _ _)
      have hO := h2.inv.obj id _ (upd_same _ _ _)
      have := (Conv.one (h := upd (Eff.apply ⟨some (s, some (.one (.hs id 0 len len))), [(id, some (.arr e ei.size rows 0))]⟩ st').h id (some (.arr e ei.size rows 2))) (PureL.hs (e := rows) (upd_same _ _ _) hlen' (by rw [hlen']; simp) .nil)).rel (fun _ _ => rfl) h2.inv.obj hv
      rw [← e2]
      exact this
    · have : upd st'.e d (some (.one (.c (.sl ei.size rows)))) s = some u := e1
      rw [upd_ne _ _ _ hsd] at this
      have hv := h2.env s u (by show upd st'.e d _ s = some u; rw [upd_ne _ _ _ hsd]; exact this)
      rw [← e2]
      exact hv

/-! ### Arithmetic of numbers that are no less than 0 -/
theorem r_addN {tx ty : TypeId} {x y : Operand} {a b : Nat} (ho : o.op = .binOp .add tx x y ty) (hd : o.dst = some d) (hdn : d < n) (hx : opv st x = some (I .i64 (a : Nat))) (hy : opv st y = some (I .i64 (b : Nat))) (hr : a + b ≤ 9223372036854775807) :
    Step P n o st ⟨opr x ++ opr y, []⟩ ⟨some (d, some (I .i64 ((a + b : Nat) : Int))), []⟩ := r_add ho hd hdn hx hy (by rw [← Int.natCast_add]; exact IntWalk.i64_in _ (by omega))
theorem r_mulN {tx ty : TypeId} {x y : Operand} {a b : Nat} (ho : o.op = .binOp .mul tx x y ty) (hd : o.dst = some d) (hdn : d < n) (hx : opv st x = some (I .i64 (a : Nat))) (hy : opv st y = some (I .i64 (b : Nat))) (hr : a * b ≤ 9223372036854775807) :
    Step P n o st ⟨opr x ++ opr y, []⟩ ⟨some (d, some (I .i64 ((a * b : Nat) : Int))), []⟩ := r_mul ho hd hdn hx hy (by rw [← Int.natCast_mul]; exact IntWalk.i64_in _ (by omega))
theorem r_subN {tx ty : TypeId} {x y : Operand} {a b : Nat} (ho : o.op = .binOp .sub tx x y ty) (hd : o.dst = some d) (hdn : d < n) (hx : opv st x = some (I .i64 (a : Nat))) (hy : opv st y = some (I .i64 (b : Nat))) (hr : b ≤ a ∧ a ≤ 9223372036854775807) :
    Step P n o st ⟨opr x ++ opr y, []⟩ ⟨some (d, some (I .i64 ((a - b : Nat) : Int))), []⟩ := r_sub ho hd hdn hx hy (by rw [show (a : Int) - b = ((a - b : Nat) : Int) by omega]; exact IntWalk.i64_in _ (by omega))
theorem r_quoN {tx ty : TypeId} {x y : Operand} {a b : Nat} (ho : o.op = .binOp .quo tx x y ty) (hd : o.dst = some d) (hdn : d < n) (hx : opv st x = some (I .i64 (a : Nat))) (hy : opv st y = some (I .i64 (b : Nat))) (hr : a ≤ 9223372036854775807 ∧ 1 ≤ b) :
    Step P n o st ⟨opr x ++ opr y, []⟩ ⟨some (d, some (I .i64 ((a / b : Nat) : Int))), []⟩ := by
  have := r_quoI (P := P) (n := n) ho hd hdn hx hy (by omega)
  rwa [← Int.natCast_ediv] at this
theorem r_remN {tx ty : TypeId} {x y : Operand} {a b : Nat} (ho : o.op = .binOp .rem tx x y ty) (hd : o.dst = some d) (hdn : d < n) (hx : opv st x = some (I .i64 (a : Nat))) (hy : opv st y = some (I .i64 (b : Nat))) (hr : 1 ≤ b) :
    Step P n o st ⟨opr x ++ opr y, []⟩ ⟨some (d, some (I .i64 ((a % b : Nat) : Int))), []⟩ := by
  have := r_remI (P := P) (n := n) ho hd hdn hx hy (by omega)
  rwa [← Int.natCast_emod] at this

/-- The greater one. -/
theorem r_max {t1 t2 : TypeId} {x y : Operand} {k : IntKind} {a b r : Int} (ho : o.op = .call { callee := .builtin .max, args := #[x, y], argTypes := #[t1, t2] }) (hd : o.dst = some d) (hdn : d < n) (hx : opv st x = some (I k a)) (hy : opv st y = some (I k b)) (hr : (if b > a then b else a) = r) :
    Step P n o st ⟨opr x ++ opr y, []⟩ ⟨some (d, some (I k r)), []⟩ := by
  refine Step.value hd hdn fun st' ha G S μ ac w hs => ?_
  have h1 := one_int (opv_rel hs hx fun t h => ha.1 t (by simp [h]))
  have h2 := one_int (opv_rel hs hy fun t h => ha.1 t (by simp [h]))
  refine ⟨.int k r, ?_, by simp [VRel, RRel, Rep]⟩
  simp only [execOp, ho, resolve, List.map_toArray, List.map_cons, List.map_nil, h1, h2, Sem.run_bind, Sem.run_pure, Result.andThen_ok, invoke, builtin, Builtin.max_, List.foldlM_cons, List.foldlM_nil, Builtin.max2, hr]
end
end Go.AM

/- THE REST OF AN ARRAY ('l[k:]'), and what is no more written: maps, variables. -/
namespace Go.AM
open Go

section
variable {P : Program} {n : Nat} {o : Oper} {st : St} {d : Nat} {T : TT}

theorem run_tail {t e : TypeId} {i ei : TI} (hT : Tok P T) (hi : T[t]? = some (some i)) (hk : i.k = .sl e) (hei : T[e]? = some (some ei)) (w : World) (ad : Option Addr) (len cap l : Nat) (kk : IntKind) (h : l ≤ len) :
    (Instr.sliceAt t (.slice ad len cap) (some (.int kk (l : Int))) none none).run P w = .ok (.slice (if cap = l then ad else ad.map (·.add (l * ei.size))) (len - l) (cap - l)) w := by
  have hu := run_underlying ((hT.get hi).slice hk) w
  simp [Instr.sliceAt, hu, Instr.slice, Instr.sliceBounds, Instr.sliceBound, asIntOf, h, (hT.get hei).size_run w]

/-- 'l[k:]', of an array of the call's own. -/
theorem r_tail {t e : TypeId} {i ei : TI} {x y : Operand} {te es id len sz : Nat} {kk : IntKind} {elems : List (List C)} {fz : Nat} (l : Nat) (hT : Tok P T) (ho : o.op = .slice t x (some y) none none) (hd : o.dst = some d) (hdn : d < n) (hi : T[t]? = some (some i)) (hk : i.k = .sl e) (hei : T[e]? = some (some ei)) (hes : ei.size = es)
    (hx : opv st x = some (.one (.hs id 0 len sz))) (hh : st.h id = some (.arr te es elems fz)) (hsz : sz = elems.length) (hlen : len = sz) (hy : opv st y = some (I kk (l : Nat))) (hl : 1 ≤ l ∧ l ≤ len) : Step P n o st ⟨opr x ++ opr y, [id]⟩ ⟨some (d, some (.one (.tl id l (len - l) sz))), []⟩ := by
  refine Step.value hd hdn fun st' ha G S μ a w hs => ?_
  have hv := opv_rel hs hx fun t ht => ha.1 t (by simp [ht])
  have hv2 := one_int (opv_rel hs hy fun t ht => ha.1 t (by simp [ht]))
  have hh' : st'.h id = some (.arr te es elems fz) := by rw [ha.2 id (by simp), hh]
  simp only [VRel, RRel] at hv
  obtain ⟨_, hv | ⟨te', es', elems', fz', h1, h2, h3⟩⟩ := hv
  · rw [hh'] at hv; cases hv
  rw [hh'] at h1; cases h1
  obtain ⟨h4, ⟨h5, h6, h7⟩ | ⟨b, base, cap, h5, h6⟩⟩ := h3 hsz
  · subst h6; simp at hsz; omega
  obtain ⟨q0, vs, q1, q2, q3, q4, q5⟩ := (hs.inv.obj id _ hh').arr h5
  rw [Nat.zero_mul, Nat.add_zero, Nat.sub_zero] at h6
  refine ⟨.slice (if cap = l then some ⟨b, base, none⟩ else (some ⟨b, base, none⟩ : Option Addr).map (·.add (l * ei.size))) (len - l) (cap - l), ?_, ?_⟩
  · have hr := run_tail (P := P) hT hi hk hei w (some ⟨b, base, none⟩) len cap l kk hl.2
    simp only [execOp, ho, Option.map_some, Option.map_none, h6, hv2, Sem.run_bind, Sem.run_pure] at hr ⊢
    rw [hr]
    rfl
  · simp only [VRel, RRel]
    refine ⟨⟨_, _, _, rfl⟩, .inr ⟨te, es, elems, fz, hh', h2, fun _ => ⟨by omega, b, base, cap, h5, by omega, ?_⟩⟩⟩
    by_cases hc : cap = l
    · simp [hc]
    · simp [hc, hes, Addr.add_mid]

/-- The rest of an array is an array of its own; what was ahead of it is given up. -/
theorem Sub.tail {kf : List Nat} {x k id id' tv te es off len sz : Nat} {cells : List R} {elems : List (List C)} (h : st.h x = some (.var tv cells)) (hk : cells[k]? = some (.tl id off len sz)) (ha : st.h id = some (.arr te es elems 0)) (hsz : sz = elems.length) (hid : st.h id' = none) :
    Sub kf ⟨st.e, upd (upd (upd st.h id (some .dead)) id' (some (.arr te es (elems.drop off) 0))) x (some (.var tv (cells.set k (.hs id' 0 len len)))), st.d⟩ st := by
  intro G n S μ a w _ hs
  have hxi : x ≠ id := fun e => by subst e; rw [h] at ha; cases ha
  have hxi' : x ≠ id' := fun e => by subst e; rw [h] at hid; cases hid
  have hii : id ≠ id' := fun e => by subst e; rw [ha] at hid; cases hid
  obtain ⟨bx, vx, g1, g2, g3, g4⟩ := hs.inv.obj x _ h
  obtain ⟨u, hu, hru⟩ := g3.get k _ hk
  simp only [RRel] at hru
  obtain ⟨_, hru | ⟨te', es', elems', fz', p1, p2, p3⟩⟩ := hru
  · rw [ha] at hru; cases hru
  rw [ha] at p1; cases p1
  obtain ⟨p4, b, base, cap, p5, p6, p7⟩ := p3 hsz
  obtain ⟨q0, vs, q1, q2, q3, q4, q5, q6, q7, q8⟩ := (hs.inv.obj id _ ha).arr p5
  generalize hbase : (if cap = off then base else base + off * es) = base' at p7
  have hble : base ≤ base' := by rw [← hbase]; split <;> omega
  have hEA : Evolve S μ st.h S (upd (upd μ id none) id' (some (b, base', cap - off))) (upd (upd st.h id (some .dead)) id' (some (.arr te es (elems.drop off) 0))) := ⟨S.le_refl, fun j y hj => by
    by_cases h1 : j = id'
    · subst h1; rw [hid] at hj; cases hj
    · by_cases h2 : j = id
      · subst h2
        rw [ha] at hj; cases hj
        exact ⟨.dead, by rw [upd_ne _ _ _ h1]; exact upd_same _ _ _, trivial⟩
      · exact ⟨y, by rw [upd_ne _ _ _ h1, upd_ne _ _ _ h2]; exact hj, y.succ_refl (by rw [upd_ne _ _ _ h1, upd_ne _ _ _ h2])⟩⟩
  generalize hμ : upd (upd μ id none) id' (some (b, base', cap - off)) = μ' at hEA
  generalize hH : upd (upd st.h id (some .dead)) id' (some (.arr te es (elems.drop off) 0)) = H1 at hEA
  have hμid : μ' id = none := by rw [← hμ, upd_ne _ _ _ hii]; exact upd_same _ _ _
  have hμid' : μ' id' = some (b, base', cap - off) := by rw [← hμ]; exact upd_same _ _ _
  have hμo : ∀ j, j ≠ id → j ≠ id' → μ' j = μ j := fun j h1 h2 => by rw [← hμ, upd_ne _ _ _ h2, upd_ne _ _ _ h1]
  have hHid : H1 id = some .dead := by rw [← hH, upd_ne _ _ _ hii]; exact upd_same _ _ _
  have hHid' : H1 id' = some (.arr te es (elems.drop off) 0) := by rw [← hH]; exact upd_same _ _ _
  have hHo : ∀ j, j ≠ id → j ≠ id' → H1 j = st.h j := fun j h1 h2 => by rw [← hH, upd_ne _ _ _ h2, upd_ne _ _ _ h1]
  have hHx : H1 x = some (.var tv cells) := by rw [hHo x hxi hxi', h]
  have hEB : Evolve S μ' H1 S μ' (upd H1 x (some (.var tv (cells.set k (.hs id' 0 len len))))) := ⟨S.le_refl, fun j y hj => by
    by_cases hjx : j = x
    · subst hjx
      rw [hHx] at hj; cases hj
      exact ⟨_, upd_same _ _ _, by simp [AObj.succ]⟩
    · exact ⟨y, by rw [upd_ne _ _ _ hjx]; exact hj, y.succ_refl rfl⟩⟩
  have hE := hEA.trans hEB
  have hkl : k < cells.length := (List.getElem?_eq_some_iff.1 hk).1
  have hdl : (elems.drop off).length = len := by rw [List.length_drop]; omega
  have hold : ∀ j y, upd H1 x (some (.var tv (cells.set k (.hs id' 0 len len)))) j = some y → ∀ b1 c1, μ' j = some (b1, c1) → ∃ j0 y0 c0, st.h j0 = some y0 ∧ μ j0 = some (b1, c0) ∧ (j0 = if j = id' then id else j) := by
    intro j y hj b1 c1 hm
    by_cases h1 : j = id'
    · subst h1
      rw [hμid'] at hm; cases hm
      exact ⟨id, _, _, ha, p5, by simp⟩
    · by_cases h2 : j = id
      · subst h2; rw [hμid] at hm; cases hm
      · rw [hμo j h2 h1] at hm
        by_cases hjx : j = x
        · subst hjx; exact ⟨_, _, c1, h, hm, by simp [h1]⟩
        · rw [upd_ne _ _ _ hjx, hHo j h2 h1] at hj
          exact ⟨j, y, c1, hj, hm, by simp [h1]⟩
  refine ⟨S, μ', ⟨⟨hs.inv.holds, fun j y hj => ?_, fun i j y y' b1 c c' hi hj hm hm' => ?_, fun i y b1 c hi hm => ?_, hs.inv.frame, hs.inv.sle, hs.inv.sto, hs.inv.evo.trans hE⟩, hs.size, hs.defers.evolve hE, fun s v e => VRel.evolve hE v _ (hs.env s v e)⟩⟩
  · by_cases hjx : j = x
    · subst hjx
      have hj' : some (AObj.var tv (cells.set k (.hs id' 0 len len))) = some y := by rw [← hj]; exact (upd_same _ _ _).symm
      cases hj'
      refine ⟨bx, vx, by rw [hμo _ hxi hxi', g1], g2, ?_, g4⟩
      have h3 := RRelL.evolve hE _ _ g3
      have hsplit : cells.set k (.hs id' 0 len len) = splice cells k [.hs id' 0 len len] := by
        unfold splice
        rw [List.set_eq_take_append_cons_drop, if_pos hkl]
        simp
      have hvl := g3.length
      have hvs : vx = splice vx k [u] := by
        unfold splice
        apply List.ext_getElem?
        intro i
        simp only [List.getElem?_append, List.length_append, List.length_take, List.length_cons, List.length_nil, List.getElem?_take, List.getElem?_drop]
        have hm : min k vx.length = k := by omega
        rw [hm]
        by_cases c1 : i < k
        · simp [c1, show i < k + 1 by omega]
        · by_cases c2 : i = k
          · subst c2; simp [hu]
          · simp [show ¬ i < k + 1 by omega, show k + 1 + (i - (k + 1)) = i by omega]
      rw [hsplit] at h3 ⊢
      rw [hvs]
      refine splice_rel h3 ?_
      simp only [RRelL, RRel]
      refine ⟨u, [], rfl, ⟨⟨_, _, _, p7⟩, .inr ⟨te, es, elems.drop off, 0, by rw [upd_ne _ _ _ (Ne.symm hxi')]; exact hHid', by omega, fun _ => ⟨by omega, .inr ⟨b, base', cap - off, hμid', by rw [p7]; simp⟩⟩⟩⟩, rfl⟩
    · have hj' : H1 j = some y := by rw [← hj]; exact (upd_ne _ _ _ hjx).symm
      by_cases h1 : j = id'
      · subst h1
        rw [hHid'] at hj'; cases hj'
        refine ⟨fun r hr => q0 r (List.mem_of_mem_drop hr), .inr ⟨b, base', cap - off, vs, hμid', q1, ?_, by omega, by omega, ?_, fun _ o ho => q6 rfl o (by omega), fun o ho => q6 rfl o (by omega), fun e => by cases e⟩⟩
        · rw [← hbase]
          split
          · rename_i hc; rw [hc]; simp; omega
          · have : cap * es = off * es + (cap - off) * es := by rw [← Nat.add_mul]; congr 1; omega
            omega
        · rw [hdl]
          by_cases hc : cap = off
          · have : len = 0 := by omega
            have hd0 : elems.drop off = [] := List.drop_of_length_le (by omega)
            rw [hd0, this]; simp [RepL]
          · rw [if_neg hc] at hbase
            have h1 := q5.drop (off * es)
            rw [← flat_drop q0, List.drop_take, List.drop_drop, hbase] at h1
            rwa [show elems.length * es - off * es = len * es by rw [← Nat.sub_mul]; congr 1; omega] at h1
      · by_cases h2 : j = id
        · subst h2
          rw [hHid] at hj'; cases hj'
          exact hμid
        · rw [hHo j h2 h1] at hj'
          exact (hs.inv.obj j y hj').evolve hE (hμo j h2 h1) fun _ _ _ => ⟨rfl, fun _ => rfl, rfl⟩
  · obtain ⟨i0, yi, ci, e1, e2, e3⟩ := hold _ _ hi _ _ hm
    obtain ⟨j0, yj, cj, f1, f2, f3⟩ := hold _ _ hj _ _ hm'
    have := hs.inv.inj i0 j0 _ _ b1 ci cj e1 f1 e2 f2
    rw [e3, f3] at this
    by_cases h1 : i = id' <;> by_cases h2 : j = id'
    · rw [h1, h2]
    · simp [h1, h2] at this; subst this; rw [hμid] at hm'; cases hm'
    · simp [h1, h2] at this; subst this; rw [hμid] at hm; cases hm
    · simpa [h1, h2] using this
  · obtain ⟨i0, yi, ci, e1, e2, e3⟩ := hold _ _ hi _ _ hm
    exact hs.inv.own i0 _ b1 ci e1 e2
end
end Go.AM
