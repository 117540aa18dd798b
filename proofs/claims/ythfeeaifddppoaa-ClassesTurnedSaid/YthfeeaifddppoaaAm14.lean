/-
  A FUNCTION's BODY: from its code to its contract.
-/
import Derived.Test.YthfeeaifddppoaaAm13
import Derived.RangeFuncRecord
namespace Go.AM
open Go

def argE : Nat → List V → List (Nat × V)
  | _, [] => []
  | k, v :: vs => (k, v) :: argE (k + 1) vs

/-- The results, as they are read at the end. -/
inductive ResV (T : TT) (st : St) : List ResultVar → List V → Prop
  | nil : ResV T st [] []
  | tmp {t v rs vs} : st.e t = some v → ResV T st rs vs → ResV T st (.tmp t :: rs) (v :: vs)
  | cell {a t i id off tv cells v rs vs} : st.e a = some (.one (.vp id off)) → T[t]? = some (some i) → st.h id = some (.var tv cells) → Nat.ble (off + i.size) cells.length = true → loadV i ((cells.drop off).take i.size) = some v → ResV T st rs vs →
      ResV T st (.cell a t :: rs) (v :: vs)
inductive Convs (h : Heap) : List V → List V → Prop
  | nil : Convs h [] []
  | cons {ids v v' vs vs'} : Conv h ids v v' → Convs h vs vs' → Convs h (v :: vs) (v' :: vs')
def tupU : List Value → Value
  | [u] => u
  | us => .tuple ⟨us⟩
def tupV : List V → V
  | [v] => v
  | vs => .tup vs

theorem Convs.rel {S : Sto} {μ : Mu} {H : Heap} {w : World} : ∀ {vs vs' : List V} {us : List Value}, Convs H vs vs' → (∀ id o, H id = some o → ORel S μ H w id o) → VRelL S μ H vs us → VRelL S μ H vs' us := by
  intro vs vs' us h
  induction h generalizing us with
  | nil => intro _ hv; exact hv
  | cons hc _ ih =>
    intro hO hv
    simp only [VRelL] at hv ⊢
    obtain ⟨v, us', rfl, h1, h2⟩ := hv
    exact ⟨v, us', rfl, hc.rel (fun _ _ => rfl) hO h1, ih hO h2⟩

section
variable {P : Program} {T : TT}

theorem run_mapM_results {G : Ctx} {n : Nat} {S : Sto} {μ : Mu} {st : St} {a : Act} {w : World} (hT : Tok P T) (hs : Sim G n S μ st a w) : ∀ {rs : List ResultVar} {vs : List V}, ResV T st rs vs →
    ∃ us, (rs.mapM fun (x : ResultVar) => (match x with | .tmp t => pure (a.tmps.getD t undef) | .cell p t => do loadVar t (← asAddr (a.tmps.getD p undef)) : Sem Value)).run P w = .ok us w ∧ VRelL S μ st.h vs us := by
  intro rs vs h
  induction h with
  | nil => exact ⟨[], by simp, by simp [VRelL]⟩
  | @tmp t v rs vs ht _ ih =>
    obtain ⟨us, h1, h2⟩ := ih
    refine ⟨a.tmps.getD t undef :: us, ?_, ?_⟩
    · simp only [List.mapM_cons, Sem.run_bind, Sem.run_pure, Result.andThen_ok, h1]
    · simp only [VRelL]
      exact ⟨_, _, rfl, hs.env _ _ ht, h2⟩
  | @cell p t i id off tv cells v rs vs ht hi hh hb hl _ ih =>
    obtain ⟨us, h1, h2⟩ := ih
    have hv := hs.env _ _ ht
    simp only [VRel, RRel] at hv
    obtain ⟨t', cells', b, c, g1, g2, g3⟩ := hv
    obtain ⟨b', ws, q1, q2, q3, q4⟩ := hs.inv.obj id _ hh
    rw [q1] at g2; cases g2
    have hlen := Nat.le_of_ble_eq_true hb
    have hvl := q3.length
    have hld := run_load (hT.get hi) w b off _ (range_of_vs q2 off i.size) (cutL (by omega))
    have hres := loadV_rel ((q3.drop off).take i.size) hl
    generalize (if i.k.agg then Value.agg ⟨(ws.drop off).take i.size⟩ else ((ws.drop off).take i.size).headD undef) = u at hld hres
    refine ⟨u :: us, ?_, by simp only [VRelL]; exact ⟨_, _, rfl, hres, h2⟩⟩
    · simp only [Instr.loadAt, Instr.sureAddr, Sem.run_bind, Sem.run_pure, Result.andThen_ok] at hld
      have hA : (asAddr (a.tmps.getD p undef)).run P w = .ok ⟨b, off, none⟩ w := by rw [g3]; rfl
      simp only [List.mapM_cons, Sem.run_bind, Sem.run_pure, Result.andThen_ok, hA, hld, h1]

theorem run_results {G : Ctx} {n : Nat} {S : Sto} {μ : Mu} {st : St} {a : Act} {w : World} {fn : Func} {vs : List V} (hT : Tok P T) (hs : Sim G n S μ st a w) (h : ResV T st fn.results.toList vs) :
    ∃ us, (results fn a.tmps).run P w = .ok (tupU us) w ∧ VRelL S μ st.h vs us := by
  obtain ⟨us, h1, h2⟩ := run_mapM_results hT hs h
  refine ⟨us, ?_, h2⟩
  unfold results
  rw [Array.mapM_eq_mapM_toList, Sem.run_bind, Sem.run_map]
  erw [h1]
  simp only [Result.andThen_ok, Sem.run_pure]
  congr 1
  match us with
  | [] => simp [tupU]
  | [u] => simp [tupU]
  | u :: u' :: us => simp [tupU]

/-! ### The marks of loops over functions are taken -/
def AObj.plain : AObj → Bool
  | .dfr => false
  | _ => true
theorem AObj.plain_ne {o : AObj} (h : o.plain = true) : o ≠ .dfr := by rintro rfl; cases h
theorem succ_dfr {o : AObj} {p : Prop} (h : o.succ p .dfr) : o = .dfr := by cases o <;> simp only [AObj.succ] at h; rfl
/-- One mark is taken. -/
theorem Sim.take {P : Program} {G : Ctx} {n : Nat} {S : Sto} {μ : Mu} {st : St} {a : Act} {w : World} {id : Nat} {ids : List Nat} (hs : Sim G n S μ st a w) (hd : st.d = id :: ids) (hG : ∀ id, G.h0 id ≠ some .dfr) :
    ∃ b ds w', a.defers = { target := .collected b, args := #[] } :: ds ∧ (Instr.takeDeferred b).run P w = .ok [] w' ∧ Sim G n S μ ⟨st.e, upd st.h id none, ids⟩ { a with defers := ds } w' := by
  have hm := hs.defers
  rw [hd] at hm
  obtain ⟨b, c, ds, h1, h2, h3, h4, h5, h6⟩ := hm
  obtain ⟨b', g1, g2, g3, g4⟩ := hs.inv.obj _ _ h3
  rw [h2] at g1; cases g1
  have hlt : b < w.heap.size := (Array.getElem?_eq_some_iff.1 g2).1
  have hne : ∀ j, upd st.h id none j = none ∨ j ≠ id := fun j => by
    by_cases hj : j = id
    · exact .inl (by rw [hj, upd_same])
    · exact .inr hj
  have hget : ∀ {j o}, upd st.h id none j = some o → j ≠ id ∧ st.h j = some o := by
    intro j o hj
    rcases hne j with h | h
    · rw [h] at hj; cases hj
    · exact ⟨h, by rwa [upd_ne _ _ _ h] at hj⟩
  have hE : Evo0 S μ st.h S μ (upd st.h id none) := ⟨S.le_refl, fun j o hj ho => by
    have hji : j ≠ id := by rintro rfl; rw [h3] at hj; cases hj; exact ho rfl
    exact ⟨o, by rw [upd_ne _ _ _ hji]; exact hj, o.succ_refl rfl⟩⟩
  refine ⟨b, ds, w.putObj b (.deferred none), h1, run_takeDeferred g2, ⟨⟨⟨fun b' o v e => ?_, fun b' es clk e => ?_⟩, fun j o hj => ?_, fun i j o o' b1 c1 c2 hi hj m1 m2 => ?_, fun i o b1 c1 hi m1 => ?_, ?_, hs.inv.sle, hs.inv.sto, ⟨hs.inv.evo.le, fun j o hj => ?_⟩⟩, hs.size, ?_, fun t v e => VRel.evolve0 hE _ _ (hs.env t v e)⟩⟩
  · obtain ⟨vs, t, fr, k1, k2⟩ := hs.inv.holds.1 b' o v e
    have : b' ≠ b := by rintro rfl; rw [g3] at e; cases e
    exact ⟨vs, t, fr, by rw [World.putObj_heap_other this]; exact k1, k2⟩
  · have : b' ≠ b := by rintro rfl; rw [g4] at e; cases e
    rw [World.putObj_heap_other this]; exact hs.inv.holds.2 b' es clk e
  · obtain ⟨k1, k2⟩ := hget hj
    refine (hs.inv.obj j o k2).evolve0 hE rfl fun b1 c1 m1 => ⟨World.putObj_heap_other ?_, fun _ => rfl, rfl⟩
    rintro rfl
    exact k1 (hs.inv.inj j id o .dfr b1 c1 _ k2 h3 m1 h2)
  · exact hs.inv.inj i j o o' b1 c1 c2 (hget hi).2 (hget hj).2 m1 m2
  · exact hs.inv.own i o b1 c1 (hget hi).2 m1
  · obtain ⟨f1, f2, f3, f4, f5⟩ := hs.inv.frame
    refine ⟨f1, f2, f3, by simpa using f4, fun k hk hF => ?_⟩
    rw [World.putObj_heap_other (by omega)]
    exact f5 k hk hF
  · obtain ⟨o', k1, k2⟩ := hs.inv.evo.obj j o hj
    have hji : j ≠ id := by
      rintro rfl
      rw [h3] at k1; cases k1
      rw [succ_dfr k2] at hj
      exact hG _ hj
    exact ⟨o', by show upd st.h id none j = some o'; rw [upd_ne _ _ _ hji]; exact k1, k2⟩
  · exact h6.go fun j hj hjd => ⟨rfl, by
      have hji : j ≠ id := by rintro rfl; exact h5 hj
      show upd st.h id none j = some .dfr
      rw [upd_ne _ _ _ hji]; exact hjd⟩
/-- All marks are taken. -/
theorem Sim.leave {P : Program} {fn : Func} {R : Ending → World → Prop} {G : Ctx} {n : Nat} {S : Sto} {μ : Mu} (hG : ∀ id, G.h0 id ≠ some .dfr) : ∀ (ids : List Nat) {e : Nat → Option V} {h : Heap} {a : Act} {w : World}, Sim G n S μ ⟨e, h, ids⟩ a w →
    (∀ h' w', (∀ id o, h id = some o → o ≠ .dfr → h' id = some o) → Sim G n S μ ⟨e, h', []⟩ { a with defers := [] } w' → ∃ v, (results fn a.tmps).run P w' = .ok v w' ∧ R (.returned v) w') →
    LeavesInM (Wd none) 0 P fn a.tmps R a.defers .returning w
  | [], e, h, a, w, hs, hk => by
    have hd : a.defers = [] := hs.defers
    rw [hd]
    refine hk h w (fun _ _ h _ => h) ?_
    obtain ⟨h1, h2, h3, h4⟩ := hs
    exact ⟨h1, h2, rfl, h4⟩
  | id :: ids, e, h, a, w, hs, hk => by
    have h3 : h id = some .dfr := by
      obtain ⟨b, c, ds', q1, q2, q3, _⟩ := hs.defers
      exact q3
    obtain ⟨b, ds, w', h1, h2, hs'⟩ := hs.take (P := P) rfl hG
    rw [h1]
    refine ⟨by simp, .inl ⟨b, w', rfl, h2, ?_⟩⟩
    refine Sim.leave hG ids (a := { a with defers := ds }) hs' fun h' w'' hh hs'' => hk h' w'' (fun j o hj ho => hh j o ?_ ho) hs''
    have hji : j ≠ id := by rintro rfl; rw [h3] at hj; cases hj; exact ho rfl
    rw [upd_ne _ _ _ hji]; exact hj

/-- The end of a body. -/
structure Fin (T : TT) (fn : Func) (st : St) (hin : List (Nat × AObj)) (res : V) (hout : List (Nat × AObj)) : Prop where
  ex : ∃ vs vs', ResV T st fn.results.toList vs ∧ Convs st.h vs vs' ∧ tupV vs' = res
  out : AllP (fun p => ∃ o, st.h p.1 = some o ∧ Ole (fun i => i) o p.2) hout
  ok : (subset res.refs (keys hout) && subset (refsH hout) (keys hout) && distinct (keys hout) && subset (keys hin) (keys hout) && (hin.all fun p => p.2.plain) && (hout.all fun p => p.2.plain)) = true

theorem ResV.keep {st : St} {h' : Heap} {d : List Nat} (hh : ∀ id o, st.h id = some o → o ≠ .dfr → h' id = some o) : ∀ {rs : List ResultVar} {vs : List V}, ResV T st rs vs → ResV T ⟨st.e, h', d⟩ rs vs := by
  intro rs vs h
  induction h with
  | nil => exact .nil
  | tmp h1 _ ih => exact .tmp h1 ih
  | cell h1 h2 h3 h4 h5 _ ih => exact .cell h1 h2 (hh _ _ h3 (by simp)) h4 h5 ih
theorem PureL.keep {h h' : Heap} (hh : ∀ id o, h id = some o → o ≠ .dfr → h' id = some o) : ∀ {ids : List Nat} {rs : List R} {cs : List C}, PureL h ids rs cs → PureL h' ids rs cs := by
  intro ids rs cs k
  induction k with
  | nil => exact .nil
  | c h1 _ ih => exact .c h1 ih
  | hs h1 h2 h3 _ ih => exact .hs (hh _ _ h1 (by simp)) h2 h3 ih
theorem Convs.keep {h h' : Heap} (hh : ∀ id o, h id = some o → o ≠ .dfr → h' id = some o) : ∀ {vs vs' : List V}, Convs h vs vs' → Convs h' vs vs' := by
  intro vs vs' k
  induction k with
  | nil => exact .nil
  | @cons ids v v' vs vs' h1 _ ih =>
    refine .cons (ids := ids) ?_ ih
    cases h1 with
    | refl => exact .refl
    | one h => exact .one (h.keep hh)
    | agg h => exact .agg (h.keep hh)
    | pa h => exact .pa (h.keep hh)

theorem impC {f : FuncId} {fn : Func} {c : Code} {n : Nat} {args : List V} {hin hout : List (Nat × AObj)} {res : V} (hT : Tok P T) (hf : P.funcs[f]? = some fn) (hb : fn.body = some c) (hn : fn.ntmps = n) (hle : Nat.ble args.length n = true)
    (h : AWp none P n (keys hin) c (mk (argE 0 args) hin) (fun ex st => (ex = .normal ∨ ex = .ret) ∧ Fin T fn st hin res hout)) : ImpC P f args hin res hout := by
  intro S μ w vals hI hv
  refine (Wd.calls (ro := none) (n := 0)).1 (callsIn_of_wp_marks hf hb trivial ?_)
  have hvl : ∀ (l : List V) (us : List Value), VRelL S μ (look hin) l us → us.length = l.length := by
    intro l
    induction l with
    | nil => intro us h; simp only [VRelL] at h; subst h; rfl
    | cons x l ih =>
      intro us h
      simp only [VRelL] at h
      obtain ⟨v, vs', rfl, _, h2⟩ := h
      simp [ih _ h2]
  have hvals := hvl _ _ hv
  have hle' := Nat.le_of_ble_eq_true hle
  have hkeep : Ctx.keeps ⟨w, S, Foot μ (look hin), μ, look hin⟩ (keys hin) := fun id o ho => List.mem_map.2 ⟨_, look_mem ho, rfl⟩
  refine h ⟨w, S, Foot μ (look hin), μ, look hin⟩ S μ _ w _ ⟨hkeep, trivial⟩ ⟨hI, by simp; omega, rfl, fun t v ht => ?_⟩ ?_
  · have key : ∀ (l : List V) (us : List Value) (k : Nat), VRelL S μ (look hin) l us → look (argE k l) t = some v → ∃ j, t = k + j ∧ ∃ u, us[j]? = some u ∧ VRel S μ (look hin) v u := by
      intro l
      induction l with
      | nil => intro us k _ h; simp [argE, look] at h
      | cons x l ih =>
        intro us k hr hl
        simp only [VRelL] at hr
        obtain ⟨u, us', rfl, h1, h2⟩ := hr
        simp only [argE, look] at hl
        split at hl
        · rename_i hbq
          cases hl
          exact ⟨0, by rw [Nat.eq_of_beq_eq_true hbq]; rfl, u, rfl, h1⟩
        · obtain ⟨j, h3, u', h4, h5⟩ := ih us' (k + 1) h2 hl
          exact ⟨j + 1, by omega, u', by simpa using h4, h5⟩
    obtain ⟨j, h1, u, h2, h3⟩ := key args vals 0 hv ht
    rw [Nat.zero_add] at h1
    subst h1
    have hj : t < vals.length := (List.getElem?_eq_some_iff.1 h2).1
    have : ((⟨vals⟩ : Array Value) ++ Array.replicate (fn.ntmps - (⟨vals⟩ : Array Value).size) undef).getD t undef = u := by
      rw [Array.getD_eq_getD_getElem?, Array.getElem?_append_left (by simpa using hj)]
      simp [h2]
    show VRel S μ (look hin) v (((⟨vals⟩ : Array Value) ++ Array.replicate (fn.ntmps - (⟨vals⟩ : Array Value).size) undef).getD t undef)
    rw [this]
    exact h3
  · intro ex st' S' μ' a' w' ⟨hex, hfin⟩ hs
    obtain ⟨⟨vs, vs', hr, hc, hres⟩, hout', hok⟩ := hfin
    simp only [Bool.and_eq_true] at hok
    obtain ⟨⟨⟨⟨⟨k1, k2⟩, k3⟩, k4⟩, k5⟩, k6⟩ := hok
    have hleave : LeavesInM (Wd none) 0 P fn a'.tmps (fun e w' => ∃ S' μ' v, e = .returned v ∧ Inv ⟨w, S, Foot μ (look hin), μ, look hin⟩ S' μ' (look hout) w' ∧ VRel S' μ' (look hout) res v) a'.defers .returning w' := by
      refine Sim.leave (G := ⟨w, S, Foot μ (look hin), μ, look hin⟩) (n := n) (S := S') (μ := μ') (fun id e => ?_) st'.d (e := st'.e) (h := st'.h) hs fun h' w'' hh hs => ?_
      · have := (List.all_eq_true.1 k5) _ (look_mem (show look hin id = some .dfr from e))
        cases this
      have hr : ResV T ⟨st'.e, h', []⟩ fn.results.toList vs := ResV.keep (fun id o ho hne => hh id o ho hne) hr
      have hc : Convs h' vs vs' := hc.keep fun id o ho hne => hh id o ho hne
      have hout' : AllP (fun p => ∃ o, h' p.1 = some o ∧ Ole (fun i => i) o p.2) hout := by
        have hk : ∀ l : List (Nat × AObj), (∀ p ∈ l, p ∈ hout) → AllP (fun p => ∃ o, h' p.1 = some o ∧ Ole (fun i => i) o p.2) l := by
          intro l
          induction l with
          | nil => intro _; trivial
          | cons p l ih =>
            intro hl
            refine ⟨?_, ih fun q hq => hl q (by simp [hq])⟩
            obtain ⟨o, g1, g2⟩ := hout'.mem p (hl p (by simp))
            refine ⟨o, hh _ _ g1 ?_, g2⟩
            rintro rfl
            have hp := (List.all_eq_true.1 k6) p (hl p (by simp))
            cases hq : p.2 <;> rw [hq] at g2 hp <;> cases g2
            cases hp
        exact hk hout fun p hp => hp
      obtain ⟨us, h1, h2⟩ := run_results hT hs hr
      refine ⟨_, h1, ?_⟩
      have h3 := hc.rel hs.inv.obj h2
      have hgood : ∀ i ∈ keys hout, Good h' (look hout) (fun i => i) i := by
        intro i hi
        obtain ⟨o', ho'⟩ := look_some hi
        obtain ⟨o, g1, g2⟩ := hout'.mem _ (look_mem ho')
        exact ⟨o, o', g1, ho', g2⟩
      have hv4 : VRel S' μ' h' res (tupU us) := by
        rw [← hres]
        match vs', us, h3 with
        | [], us, h3 => simp only [VRelL] at h3; subst h3; simp [tupV, tupU, VRel, VRelL]
        | [v], us, h3 =>
          simp only [VRelL] at h3
          obtain ⟨u, us', rfl, h5, rfl⟩ := h3
          exact h5
        | v :: v' :: l, us, h3 =>
          have h3' := h3
          simp only [VRelL] at h3'
          obtain ⟨u, us', rfl, _, u', us'', rfl, _, _⟩ := h3'
          simp only [tupV, tupU, VRel]
          exact ⟨_, rfl, h3⟩
      have hI' : Inv ⟨w, S, Foot μ (look hin), μ, look hin⟩ S' μ' (look hout) w'' := by
        refine ⟨hs.inv.holds, fun id o ho => ?_, fun i j o o' b c c' hi hj hm hm' => ?_, fun i o b c hi hm => ?_, hs.inv.frame, hs.inv.sle, hs.inv.sto, ⟨hs.inv.evo.le, fun id o ho => ?_⟩⟩
        · obtain ⟨o1, g1, g2⟩ := hout'.mem _ (look_mem ho)
          exact (hs.inv.obj _ _ g1).ren g2 fun i hi => hgood i (subset_spec k2 i (refsH_mem (look_mem ho) i hi))
        · obtain ⟨o1, g1, g2⟩ := hout'.mem _ (look_mem hi)
          obtain ⟨o2, g3, g4⟩ := hout'.mem _ (look_mem hj)
          exact hs.inv.inj _ _ _ _ b c c' g1 g3 hm hm'
        · obtain ⟨o1, g1, g2⟩ := hout'.mem _ (look_mem hi)
          exact hs.inv.own _ _ b c g1 hm
        · obtain ⟨o', (g1 : h' id = some o'), g2⟩ := hs.inv.evo.obj id o ho
          have hk : id ∈ keys hin := List.mem_map.2 ⟨_, look_mem (show look hin id = some o from ho), rfl⟩
          obtain ⟨o1, o2, g3, g4, g5⟩ := hgood id (subset_spec k4 id hk)
          rw [g1] at g3; cases g3
          exact ⟨o2, g4, AObj.succ_trans g2 g5.succ fun e _ => e⟩
      have hR : VRel S' μ' (look hout) res (tupU us) := by
        have := VRel.ren (H := h') (H' := look hout) (σ := fun i => i) res _ (fun i hi => hgood i (subset_spec k1 i hi)) (by rw [V.ren_id]; exact hv4)
        exact this
      exact ⟨S', μ', _, rfl, hI', hR⟩
    rcases hex with rfl | rfl
    · exact hleave
    · exact hleave
end
theorem lt_ {d n : Nat} (h : Nat.ble (d + 1) n = true) : d < n := Nat.le_of_ble_eq_true h
theorem le_ {a b : Nat} (h : Nat.ble a b = true) : a ≤ b := Nat.le_of_ble_eq_true h
theorem nz_ {a : Nat} (h : Nat.beq a 0 = false) : a ≠ 0 := fun e => by subst e; cases h
theorem pl {P : Program} {n : Nat} {ops : Array Oper} {i : Nat} {o : Oper} {st : St} {rd : Rd} {f : Eff} (ho : ops[i]? = some o) (h : Step P n o st rd f) (hg : o.guard = none := by rfl) : GStep P n ops i st rd f := GStep.plain ho hg h
end Go.AM
