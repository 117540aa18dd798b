/-
  LOOPS OVER FUNCTIONS: a call of yield, by what a round does ('RndC'); the loop itself.
-/
import Derived.Test.YthfeeaifddppoaaAm19
namespace Go.AM
open Go

theorem WChg.putObj {w : World} {b : Nat} {o o' : Obj} (h : w.heap[b]? = some o') : WChg w (w.putObj b o) b o :=
  ⟨rfl, rfl, rfl, by simp, World.putObj_heap_same (Array.getElem?_eq_some_iff.1 h).1, fun k _ hk => World.putObj_heap_other hk⟩

/-- What a round is handed: its loop's variables, and what was there around it. -/
def argP : List Nat → List V → List (Nat × V)
  | t :: ts, v :: vs => argP ts vs ++ [(t, v)]
  | _, _ => []
/-- WHAT A ROUND DOES: called with such arguments, where such objects lie (the loop's record 'id' among them), yield tells whether to go on, and leaves such objects. -/
def RndC (P : Program) (id : Nat) (args : List V) (hin : List (Nat × AObj)) (go : Bool) (hout : List (Nat × AObj)) : Prop :=
  ∀ ro S μ w l c vals, Inv ⟨w, S, Foot μ (look hin), μ, look hin⟩ S μ (look hin) w → VRelL S μ (look hin) args vals → μ id = some (l, c) →
    ∃ fn tmps asg body, (Instr.yield l ⟨vals⟩).run P w = .ok (.round l fn tmps asg body) w ∧
      RoundIn (Wd ro) 0 P l fn tmps asg body w fun e w' => ∃ S' μ', e = .returned (.bool go) ∧ Inv ⟨w, S, Foot μ (look hin), μ, look hin⟩ S' μ' (look hout) w'

theorem VRelL.length {S : Sto} {μ : Mu} {H : Heap} : ∀ {l : List V} {us : List Value}, VRelL S μ H l us → us.length = l.length
  | [], _, h => by simp only [VRelL] at h; subst h; rfl
  | _ :: l, _, h => by
    simp only [VRelL] at h
    obtain ⟨v, vs', rfl, _, h2⟩ := h
    simp [VRelL.length h2]

/-- The temporaries of a round. -/
theorem zip_tmps {S : Sto} {μ : Mu} {H : Heap} : ∀ {ps : List Nat} {vs : List V} {us : List Value} {e : List (Nat × V)} {tmps : Array Value}, VRelL S μ H vs us → vs.length = ps.length → (∀ t ∈ ps, t < tmps.size) →
    (∀ t v, look e t = some v → VRel S μ H v (tmps.getD t undef)) →
    ((ps.zip us).foldl (fun (tmps : Array Value) (x : Nat × Value) => tmps.setIfInBounds x.1 x.2) tmps).size = tmps.size ∧
    ∀ t v, look (argP ps vs ++ e) t = some v → VRel S μ H v (((ps.zip us).foldl (fun (tmps : Array Value) (x : Nat × Value) => tmps.setIfInBounds x.1 x.2) tmps).getD t undef)
  | [], vs, us, e, tmps, hv, hl, hps, he => by
    cases vs with
    | nil => exact ⟨rfl, he⟩
    | cons _ _ => simp at hl
  | p :: ps, [], us, e, tmps, hv, hl, hps, he => by simp at hl
  | p :: ps, x :: vs, us, e, tmps, hv, hl, hps, he => by
    simp only [VRelL] at hv
    obtain ⟨u, us', rfl, h1, h2⟩ := hv
    have hp := hps p (by simp)
    have key := zip_tmps (ps := ps) (vs := vs) (us := us') (e := (p, x) :: e) (tmps := tmps.setIfInBounds p u) h2 (by simpa using hl) (fun t ht => by rw [Array.size_setIfInBounds]; exact hps t (by simp [ht])) (fun t v ht => by
      rw [getD_set _ _ _ _ hp]
      simp only [look] at ht
      by_cases hb : t = p
      · subst hb
        simp only [Nat.beq_refl, if_true] at ht
        cases ht
        rw [if_pos rfl]; exact h1
      · have : Nat.beq t p = false := by
          cases hq : Nat.beq t p with
          | false => rfl
          | true => exact absurd (Nat.eq_of_beq_eq_true hq) hb
        simp only [this, Bool.false_eq_true, if_false] at ht
        rw [if_neg hb]; exact he t v ht)
    simp only [List.zip_cons_cons, List.foldl_cons]
    refine ⟨by rw [key.1]; simp, fun t v ht => key.2 t v ?_⟩
    simpa [argP, List.append_assoc] using ht

/-- How a round ends: on, or out of the loop by a jump. -/
def jumpOf : Exit → Option (Option Code)
  | .normal => some none
  | .ret => some (some .ret)
  | .exit id => some (some (.exit id))
  | _ => none
def stOf (j : Option Code) : LoopState := if j.isNone then .ready else .done
structure RndEnd (hin hout : List (Nat × AObj)) (j : Option Code) (ex : Exit) (st : St) : Prop where
  jump : jumpOf ex = some j
  out : AllP (fun p => ∃ o, st.h p.1 = some o ∧ Ole (fun i => i) o p.2) hout
  ok : (subset (refsH hout) (keys hout) && distinct (keys hout) && subset (keys hin) (keys hout)) = true

theorem look_cons_ne {α : Type} {k i : Nat} {x : α} {l : List (Nat × α)} (h : i ≠ k) : look ((k, x) :: l) i = look l i := by
  have : Nat.beq i k = false := by
    cases hb : Nat.beq i k with
    | false => rfl
    | true => exact absurd (Nat.eq_of_beq_eq_true hb) h
  simp [look, this]
theorem look_cons_same {α : Type} {k : Nat} {x : α} {l : List (Nat × α)} : look ((k, x) :: l) k = some x := by simp [look]

theorem look_e {S : Sto} {μ : Mu} {H : Heap} {e : List (Nat × V)} {tmps : Array Value} (h : ∀ t v, (t, v) ∈ e → VRel S μ H v (tmps.getD t undef)) : ∀ t v, look e t = some v → VRel S μ H v (tmps.getD t undef) :=
  fun t v ht => h t v (look_mem ht)

theorem evolve_cons {S : Sto} {μ : Mu} {hl : List (Nat × AObj)} {id : Nat} {o : AObj} {p : Nat × Nat × Nat} (h : look hl id = none) : Evolve S μ (look hl) S (upd μ id (some p)) (look ((id, o) :: hl)) :=
  ⟨S.le_refl, fun j x hj => by
    have hne : j ≠ id := by rintro rfl; rw [h] at hj; cases hj
    exact ⟨x, by rw [look_cons_ne hne]; exact hj, x.succ_refl (upd_ne _ _ _ hne)⟩⟩
/-- What lies aside turns. -/
theorem Inv.aside {G : Ctx} {S : Sto} {μ : Mu} {H : Heap} {w : World} {l : Nat} {o : Obj} (h : Inv G S μ H w) (hl : l < G.w0.heap.size) (hF : ¬ G.F l) (hS : (∀ k, S.cell l k = none) ∧ S.mapo l = none) :
    Inv ⟨G.w0.putObj l o, G.S0, G.F, G.μ0, G.h0⟩ S μ H (w.putObj l o) := by
  obtain ⟨h1, h2, h3, h4, h5, h6, h7, h8⟩ := h
  refine ⟨⟨fun b k v e => ?_, fun b es clk e => ?_⟩, fun j x hj => ?_, h3, fun i x b c hi hm => ?_, ?_, h6, fun b hb hF' => ?_, h8⟩
  · obtain ⟨vs, t, fr, k1, k2⟩ := h1.1 b k v e
    have : b ≠ l := by rintro rfl; rw [hS.1] at e; cases e
    exact ⟨vs, t, fr, by rw [World.putObj_heap_other this]; exact k1, k2⟩
  · have : b ≠ l := by rintro rfl; rw [hS.2] at e; cases e
    rw [World.putObj_heap_other this]; exact h1.2 b es clk e
  · refine (h2 j x hj).evolve (Evolve.refl _ _ _) rfl fun b c hm => ⟨World.putObj_heap_other ?_, fun _ => rfl, rfl⟩
    rintro rfl
    rcases h4 j x b c hj hm with h | h
    · omega
    · exact hF h
  · rcases h4 i x b c hi hm with h | h
    · exact .inl (by simpa using h)
    · exact .inr h
  · obtain ⟨f1, f2, f3, f4, f5⟩ := h5
    refine ⟨f1, f2, f3, by simpa using f4, fun k hk hFk => ?_⟩
    simp only [World.putObj_size] at hk
    by_cases hkl : k = l
    · subst hkl
      rw [World.putObj_heap_same hk, World.putObj_heap_same (Nat.lt_of_lt_of_le hk f4)]
    · rw [World.putObj_heap_other hkl, World.putObj_heap_other hkl]; exact f5 k hk hFk
  · simp only [World.putObj_size] at hb
    exact h7 b hb hF'

/-- The objects that are left at a round's end. -/
theorem Inv.keep {G : Ctx} {S : Sto} {μ : Mu} {H : Heap} {w : World} {hout : List (Nat × AObj)} (hs : Inv G S μ H w) (hout' : AllP (fun p => ∃ o, H p.1 = some o ∧ Ole (fun i => i) o p.2) hout)
    (k2 : subset (refsH hout) (keys hout) = true) (k4 : ∀ id o, G.h0 id = some o → id ∈ keys hout) : Inv G S μ (look hout) w := by
  have hgood : ∀ i ∈ keys hout, Good H (look hout) (fun i => i) i := by
    intro i hi
    obtain ⟨o', ho'⟩ := look_some hi
    obtain ⟨o, g1, g2⟩ := hout'.mem _ (look_mem ho')
    exact ⟨o, o', g1, ho', g2⟩
  refine ⟨hs.holds, fun id o ho => ?_, fun i j o o' b c c' hi hj hm hm' => ?_, fun i o b c hi hm => ?_, hs.frame, hs.sle, hs.sto, ⟨hs.evo.le, fun id o ho => ?_⟩⟩
  · obtain ⟨o1, g1, g2⟩ := hout'.mem _ (look_mem ho)
    exact (hs.obj _ _ g1).ren g2 fun i hi => hgood i (subset_spec k2 i (refsH_mem (look_mem ho) i hi))
  · obtain ⟨o1, g1, g2⟩ := hout'.mem _ (look_mem hi)
    obtain ⟨o2, g3, g4⟩ := hout'.mem _ (look_mem hj)
    exact hs.inj _ _ _ _ b c c' g1 g3 hm hm'
  · obtain ⟨o1, g1, g2⟩ := hout'.mem _ (look_mem hi)
    exact hs.own _ _ b c g1 hm
  · obtain ⟨o', g1, g2⟩ := hs.evo.obj id o ho
    obtain ⟨o1, o2, g3, g4, g5⟩ := hgood id (k4 id o ho)
    rw [g1] at g3; cases g3
    exact ⟨o2, g4, AObj.succ_trans g2 g5.succ fun e _ => e⟩

def rndOk (id : Nat) (i : LI) (e : List (Nat × V)) (args : List V) (hin hout : List (Nat × AObj)) : Bool :=
  subset (refsE e) (keys hin) && subset (refsH hin) (keys hin) && subset (V.refsL args) (keys hin) && (hin.all fun p => p.2.live) && !((keys hin).contains id) && !((keys hout).contains id) && Nat.beq args.length i.params.size && (i.params.toList.all fun t => Nat.blt t i.n)
theorem not_key {α : Type} : ∀ {l : List (Nat × α)} {id : Nat}, (!((keys l).contains id)) = true → look l id = none := by
  intro l id h
  refine look_none fun hm => ?_
  simp only [Bool.not_eq_true'] at h
  have : (keys l).contains id = true := by simpa [keys] using hm
  rw [this] at h; cases h

/-- A ROUND, BY ITS CODE. -/
theorem RndC.of {P : Program} {id : Nat} {i : LI} {e : List (Nat × V)} {args : List V} {hin hout : List (Nat × AObj)} {j : Option Code}
    (h : ∀ l, AWp (some l) P i.n (keys hin) i.asg (mk (argP i.params.toList args ++ e) hin) (fun ex st => ex = .normal ∧ AWp (some l) P i.n (keys hin) i.body st (RndEnd hin hout j)))
    (hok : rndOk id i e args hin hout = true) : RndC P id args ((id, .lp .ready none i e) :: hin) j.isNone ((id, .lp (stOf j) j i e) :: hout) := by
  simp only [rndOk, Bool.and_eq_true] at hok
  obtain ⟨⟨⟨⟨⟨⟨⟨o1, o2⟩, o3⟩, o4⟩, o5⟩, o6⟩, o7⟩, o8⟩ := hok
  have hid := not_key o5
  have hid2 := not_key o6
  intro ro S μ w l c vals hI hv hm
  obtain ⟨b, r, fn, tmps, g1, g2, g3, g4, g5, g6⟩ := hI.obj id _ look_cons_same
  rw [hm] at g1; cases g1
  have hlt := lt_of_some g2
  have hlen : vals.length = args.length := VRelL.length hv
  have hsub : ∀ j o, look hin j = some o → look ((id, .lp .ready none i e) :: hin) j = some o ∧ o ≠ .dead := by
    intro j o hj
    have hne : j ≠ id := by rintro rfl; rw [hid] at hj; cases hj
    refine ⟨by rw [look_cons_ne hne]; exact hj, ?_⟩
    have := (List.all_eq_true.1 o4) _ (look_mem hj)
    rintro rfl
    simp [AObj.live] at this
  have hgood : ∀ j ∈ keys hin, Good (look ((id, .lp .ready none i e) :: hin)) (look hin) (fun i => i) j := by
    intro j hj
    obtain ⟨o, ho⟩ := look_some hj
    obtain ⟨q1, q2⟩ := hsub j o ho
    exact ⟨o, o, q1, ho, .refl_id q2⟩
  have hI1 := hI.hand hsub o2
  have hnF : ¬ Foot μ (look hin) l := by
    rintro ⟨j, o, c', q1, q2⟩
    have := hI.inj j id o _ l c' _ (hsub j o q1).1 look_cons_same q2 hm
    subst this
    rw [hid] at q1; cases q1
  have hargs : VRelL S μ (look hin) args vals := by
    have := VRelL.ren (H := look ((id, .lp .ready none i e) :: hin)) (H' := look hin) (σ := fun i => i) args vals (fun j hj => hgood j (subset_spec o3 j hj)) (by rw [V.renL_id]; exact hv)
    exact this
  have he : ∀ t v, (t, v) ∈ e → VRel S μ (look hin) v (tmps.getD t undef) := fun t v ht => by
    have := VRel.ren (H := look ((id, .lp .ready none i e) :: hin)) (H' := look hin) (σ := fun i => i) v _ (fun j hj => hgood j (subset_spec o1 j (refsE_mem ht j hj))) (by rw [V.ren_id]; exact g4 t v ht)
    exact this
  have hps : ∀ t ∈ i.params.toList, t < tmps.size := fun t ht => by
    rw [g3]
    exact Nat.le_of_ble_eq_true ((List.all_eq_true.1 o8) t ht)
  have hpl : args.length = i.params.toList.length := by rw [Nat.eq_of_beq_eq_true o7]; simp
  obtain ⟨z1, z2⟩ := zip_tmps (ps := i.params.toList) hargs hpl hps (look_e he)
  have hround : (Instr.yield l ⟨vals⟩).run P w = .ok (.round l fn ((i.params.toList.zip vals).foldl (fun (tmps : Array Value) (x : Nat × Value) => tmps.setIfInBounds x.1 x.2) tmps) i.asg i.body) w := by
    rw [run_yield g2 (by simp only [List.size_toArray]; rw [hlen]; exact Nat.eq_of_beq_eq_true o7)]
    congr 2
    rw [← Array.foldl_toList, Array.toList_zip]
  refine ⟨fn, _, i.asg, i.body, hround, roundIn_of_wpIn trivial ?_⟩
  have hkeep : Ctx.keeps ⟨w, S, Foot μ (look hin), μ, look hin⟩ (keys hin) := fun id o ho => List.mem_map.2 ⟨_, look_mem ho, rfl⟩
  refine h l ⟨w, S, Foot μ (look hin), μ, look hin⟩ S μ _ w _ ⟨hkeep, ⟨_, g2⟩, hnF⟩ ⟨hI1, by rw [z1, g3], rfl, z2⟩ ?_
  rintro ex st1 S1 μ1 a1 w1 ⟨rfl, hbody⟩ s1
  have hw1 : w1.heap[l]? = some (.loop { state := .ready, pending := none, fn := fn, tmps := tmps, params := i.params, assign := i.asg, body := i.body, defers := r }) := (s1.inv.frame.block l hlt hnF).trans g2
  refine ⟨_, run_beginRound hw1 rfl, ?_⟩
  have hS1 := s1.inv.sto l hlt hnF
  have hI2 := s1.inv.aside (o := .loop { state := .busy, pending := none, fn := fn, tmps := tmps, params := i.params, assign := i.asg, body := i.body, defers := r }) hlt hnF ⟨fun k => by rw [hS1.1]; exact g5 k, by rw [hS1.2]; exact g6⟩
  refine hbody ⟨w.putObj l (.loop { state := .busy, pending := none, fn := fn, tmps := tmps, params := i.params, assign := i.asg, body := i.body, defers := r }), S, Foot μ (look hin), μ, look hin⟩ S1 μ1 a1 _ _ ⟨hkeep, ⟨_, World.putObj_heap_same hlt⟩, hnF⟩ ⟨hI2, s1.size, by have := s1.defers; simpa using this, s1.env⟩ ?_
  rintro ex st3 S3 μ3 a3 w3 ⟨hj, hout', hok3⟩ s3
  simp only [Bool.and_eq_true] at hok3
  obtain ⟨⟨p1, p2⟩, p3⟩ := hok3
  have hw3 : w3.heap[l]? = some (.loop { state := .busy, pending := none, fn := fn, tmps := tmps, params := i.params, assign := i.asg, body := i.body, defers := r }) := (s3.inv.frame.block l (by simpa using hlt) hnF).trans (World.putObj_heap_same hlt)
  have hI3 := s3.inv.keep hout' p1 fun id o ho => subset_spec p3 id (List.mem_map.2 ⟨_, look_mem (show look hin id = some o from ho), rfl⟩)
  have hS3 := hI3.sto l (by simpa using hlt) hnF
  have hS3' : (∀ k, S3.cell l k = none) ∧ S3.mapo l = none := ⟨fun k => by rw [hS3.1]; exact g5 k, by rw [hS3.2]; exact g6⟩
  have hlt3 := lt_of_some hw3
  have hfin : ∃ v w', (Instr.endRound l j).run P w3 = .ok v w' ∧ ∃ S' μ', Ending.returned v = .returned (.bool j.isNone) ∧ Inv ⟨w, S, Foot μ (look ((id, .lp .ready none i e) :: hin)), μ, look ((id, .lp .ready none i e) :: hin)⟩ S' μ' (look ((id, .lp (stOf j) j i e) :: hout)) w' := by
    refine ⟨_, _, run_endRound j hw3, S3, upd μ3 id (some (l, 0, 0)), rfl, ?_⟩
    have hE3 : Evolve S3 μ3 (look hout) S3 (upd μ3 id (some (l, 0, 0))) (look ((id, .lp (stOf j) j i e) :: hout)) := evolve_cons hid2
    have hne : ∀ {k o} , look hout k = some o → ∀ b c, μ3 k = some (b, c) → b ≠ l := by
      rintro k o hk b c hmk rfl
      rcases hI3.own k o b c hk hmk with q | q
      · simp only [World.putObj_size] at q; omega
      · exact hnF q
    have hget : ∀ {k o}, look ((id, .lp (stOf j) j i e) :: hout) k = some o → (k = id ∧ o = .lp (stOf j) j i e) ∨ (k ≠ id ∧ look hout k = some o) := by
      intro k o hk
      by_cases hki : k = id
      · subst hki; rw [look_cons_same] at hk; cases hk; exact .inl ⟨rfl, rfl⟩
      · rw [look_cons_ne hki] at hk; exact .inr ⟨hki, hk⟩
    have hFoot : ∀ {b}, ¬ Foot μ (look ((id, .lp .ready none i e) :: hin)) b → b ≠ l ∧ ¬ Foot μ (look hin) b := by
      intro b hb
      refine ⟨?_, ?_⟩
      · rintro rfl; exact hb ⟨id, _, _, look_cons_same, hm⟩
      · rintro ⟨k, o, c, q1, q2⟩; exact hb ⟨k, o, c, (hsub k o q1).1, q2⟩
    refine ⟨⟨fun b k v hc => ?_, fun b es clk hc => ?_⟩, fun k o hk => ?_, fun a b o o' x c c' ha hb m1 m2 => ?_, fun k o b c hk m1 => ?_, ?_, hI3.sle, fun b hb hF => ?_, ⟨hI3.evo.le, fun k o hk => ?_⟩⟩
    · obtain ⟨vs, t, fr, k1, k2⟩ := hI3.holds.1 b k v hc
      have : b ≠ l := by rintro rfl; rw [hS3'.1] at hc; cases hc
      exact ⟨vs, t, fr, by rw [World.putObj_heap_other this]; exact k1, k2⟩
    · have : b ≠ l := by rintro rfl; rw [hS3'.2] at hc; cases hc
      rw [World.putObj_heap_other this]; exact hI3.holds.2 b es clk hc
    · rcases hget hk with ⟨rfl, rfl⟩ | ⟨q1, q2⟩
      · refine ⟨l, r, fn, tmps, upd_same _ _ _, by rw [World.putObj_heap_same hlt3]; rfl, g3, fun t v ht => ?_, hS3'.1, hS3'.2⟩
        exact VRel.evolve (hI3.evo.trans hE3) _ _ (he t v ht)
      · refine (hI3.obj k o q2).evolve hE3 (upd_ne _ _ _ q1) fun b c m1 => ⟨World.putObj_heap_other (hne q2 b c m1), fun _ => rfl, rfl⟩
    · rcases hget ha with ⟨rfl, rfl⟩ | ⟨q1, q2⟩ <;> rcases hget hb with ⟨rfl, rfl⟩ | ⟨q3, q4⟩
      · rfl
      · rw [upd_same] at m1; cases m1
        rw [upd_ne _ _ _ q3] at m2
        exact absurd rfl (hne q4 _ _ m2)
      · rw [upd_same] at m2; cases m2
        rw [upd_ne _ _ _ q1] at m1
        exact absurd rfl (hne q2 _ _ m1)
      · rw [upd_ne _ _ _ q1] at m1
        rw [upd_ne _ _ _ q3] at m2
        exact hI3.inj a b o o' x c c' q2 q4 m1 m2
    · rcases hget hk with ⟨rfl, rfl⟩ | ⟨q1, q2⟩
      · rw [upd_same] at m1; cases m1
        exact .inr ⟨k, _, _, look_cons_same, hm⟩
      · rw [upd_ne _ _ _ q1] at m1
        rcases hI3.own k o b c q2 m1 with q | ⟨k', o', c', q, q'⟩
        · exact .inl (by simpa using q)
        · exact .inr ⟨k', o', c', (hsub k' o' q).1, q'⟩
    · obtain ⟨f1, f2, f3, f4, f5⟩ := hI3.frame
      refine ⟨f1, f2, f3, by simpa using f4, fun k hk hF => ?_⟩
      obtain ⟨q1, q2⟩ := hFoot hF
      rw [World.putObj_heap_other q1, f5 k (by simpa using hk) q2, World.putObj_heap_other q1]
    · obtain ⟨q1, q2⟩ := hFoot hF
      exact hI3.sto b (by simpa using hb) q2
    · have hk : look ((id, .lp .ready none i e) :: hin) k = some o := hk
      by_cases hki : k = id
      · subst hki
        rw [look_cons_same] at hk; cases hk
        exact ⟨_, look_cons_same, by simp only [AObj.succ]; rw [upd_same, hm]⟩
      · rw [look_cons_ne hki] at hk
        obtain ⟨o', q1, q2⟩ := hI3.evo.obj k o hk
        exact ⟨o', by rw [look_cons_ne hki]; exact q1, by rw [upd_ne _ _ _ hki]; exact q2⟩
  cases ex with
  | normal => cases hj; exact hfin
  | ret => cases hj; exact hfin
  | exit id => cases hj; exact hfin
  | _ => cases hj

section
variable {P : Program} {n : Nat} {o : Oper} {st : St} {d : Nat}
/-- A call of yield. -/
theorem r_yield {id : Nat} {x : Operand} {xs : Array Operand} {ts : Array TypeId} {ids : List Nat} {args : List V} {go : Bool} (hin hout : List (Nat × AObj)) (ho : o.op = .call { callee := .value x, args := xs, argTypes := ts }) (hd : o.dst = some d) (hdn : d < n)
    (hx : opv st x = some (.one (.yl id))) (hf : RndC P id args hin go hout) (ha : ArgsV st ids xs.toList args) (hin' : AllP (fun p => st.h p.1 = some p.2) hin) (hout' : AllP (fun p => p.1 ∈ keys hin ∨ st.h p.1 = none) hout) (hok : callOk (.one (.yl id) :: args) hin = true) :
    Step P n o st ⟨opr x ++ operandsR xs.toList, ids ++ keys hin ++ keys hout⟩ ⟨some (d, some (B go)), outs hout⟩ := by
  intro st' hag G S μ a w K Q hs hk
  have hv := ha.rel hs (fun t ht => hag.1 t (by simp [ht])) fun i h => hag.2 i (by simp [h])
  have hvx := opv_rel hs hx fun t ht => hag.1 t (by simp [ht])
  simp only [callOk, Bool.and_eq_true] at hok
  obtain ⟨⟨k1, k2⟩, k3⟩ := hok
  have hh : ∀ id o, look hin id = some o → st'.h id = some o ∧ o ≠ .dead := by
    intro id o ho
    have hm := look_mem ho
    have h1 := hin'.mem _ hm
    refine ⟨by rw [hag.2 id (by simp only [List.mem_append]; exact .inl (.inr (List.mem_map.2 ⟨_, hm, rfl⟩)))]; exact h1, ?_⟩
    have := (List.all_eq_true.1 k3) _ hm
    rintro rfl
    simp [AObj.live] at this
  have hnew : ∀ id o, look hout id = some o → (∃ o', look hin id = some o') ∨ st'.h id = none := by
    intro id o ho
    have hm := look_mem ho
    rcases hout'.mem _ hm with h1 | h1
    · exact .inl (look_some h1)
    · exact .inr (by rw [hag.2 id (by simp only [List.mem_append]; exact .inr (List.mem_map.2 ⟨_, hm, rfl⟩))]; exact h1)
  have hI := hs.inv.hand hh k2
  have hgood : ∀ i ∈ keys hin, Good st'.h (look hin) (fun i => i) i := by
    intro i hi
    obtain ⟨o, ho⟩ := look_some hi
    obtain ⟨h1, h2⟩ := hh i o ho
    exact ⟨o, o, h1, ho, .refl_id h2⟩
  have hv' : VRelL S μ (look hin) (.one (.yl id) :: args) (a.eval x :: xs.toList.map a.eval) := by
    have := VRelL.ren (H := st'.h) (H' := look hin) (σ := fun i => i) (.one (.yl id) :: args) (a.eval x :: xs.toList.map a.eval) (fun i hi => hgood i (subset_spec k1 i hi)) (by rw [V.renL_id]; simp only [VRelL]; exact ⟨_, _, rfl, hvx, hv⟩)
    exact this
  simp only [VRelL] at hv'
  obtain ⟨_, _, he, hy, hv'⟩ := hv'
  cases he
  simp only [VRel, RRel] at hy
  obtain ⟨_, _, _, _, l, c, q1, q2, q3⟩ := hy
  intro ro
  obtain ⟨fn, tmps, asg, body, hr1, hr2⟩ := hf ro S μ w l c _ hI hv' q2
  have hr : (execOp a.eval o).run P w = .ok (.round l fn tmps asg body) w := by
    simp only [execOp, ho, resolve, q3, Deferred.ofValue, Sem.run_bind, Sem.run_pure, Result.andThen_ok, invoke]
    rw [← hr1]
    congr 2
    apply Array.ext'
    simp
  refine ⟨fun _ _ => trivial, ?_⟩
  rw [semAt_of_ok hr (by simp), Oper.uponIn_round]
  refine ⟨fun h => by simp [Wd] at h, hr2.mono ?_⟩
  rintro e w' ⟨S', μ', rfl, hI'⟩
  obtain ⟨μ2, p1, p2, p3, p4⟩ := hs.inv.back (fun id o ho => (hh id o ho).1) hnew hI'
  show K (a.put o.dst _) w'
  rw [hd]
  refine hk S' μ2 _ _ ?_
  exact hs.put p2 p3 hdn (x := some (B go)) fun z hz => by cases hz; simp [VRel, RRel, Rep]

/-! ### The loop -/
/-- Where one goes on behind the loop. -/
def jumpPost (Q : Exit → St → Prop) (st : St) : Option Code → Prop
  | none => Q .normal st
  | some .ret => Q .ret st
  | some (.exit id) => Q (.exit id) st
  | _ => False

theorem run_enterLoop_inner {fn : FuncId} {tmps : Array Value} {ps : Array Tmp} {asg body : Code} {w : World} {l0 : Nat} {r : Loop} (h : w.heap[l0]? = some (.loop r)) :
    (Instr.enterLoop fn tmps ps asg body (some l0)).run P w = .ok (w.heap.size, []) (w.alloc (.loop { state := .ready, pending := none, fn, tmps, params := ps, assign := asg, body, defers := r.defers })) := by
  unfold Instr.enterLoop
  simp only [Sem.run_bind, run_getLoop h, run_newObj_alloc, Result.andThen, Sem.run_pure]

theorem capsRel {S : Sto} {μ : Mu} {H : Heap} : ∀ {caps : List R} {vs : List Value}, RRelL S μ H caps vs → VRelL S μ H (caps.map V.one) vs
  | [], _, h => by simp only [RRelL] at h; subst h; simp [VRelL]
  | c :: caps, _, h => by
    simp only [RRelL] at h
    obtain ⟨v, vs', rfl, q1, q2⟩ := h
    simp only [List.map_cons, VRelL]
    exact ⟨v, vs', rfl, by simpa [VRel] using q1, capsRel q2⟩
/-- The loop's record is laid; the function is called; the record is put aside. -/
theorem range_core {G : Ctx} {S : Sto} {μ : Mu} {a : Act} {w : World} {g : Operand} {ps : Array Tmp} {asg body : Code} {f : FuncId} {caps : List R} {e : List (Nat × V)} {idl : Nat} {hin hout : List (Nat × AObj)} {st' : LoopState} {j : Option Code} {i' : LI} {e' : List (Nat × V)} {fn : FuncId} {r : Nat}
    (hb : bodied P f) (hg : opv st g = some (.one (.clo f caps))) (he : AllP (fun p => st.e p.1 = some p.2) e) (hin' : AllP (fun p => st.h p.1 = some p.2) hin) (hout' : AllP (fun p => p.1 ∈ keys hin ∨ st.h p.1 = none) hout) (hidl : st.h idl = none)
    (hf : ImpC P f (.one (.yl idl) :: caps.map V.one) ((idl, .lp .ready none ⟨n, ps, asg, body⟩ e) :: hin) (.tup []) ((idl, .lp st' j i' e') :: hout))
    (hok : callOk (.one (.yl idl) :: caps.map V.one) ((idl, .lp .ready none ⟨n, ps, asg, body⟩ e) :: hin) = true) (hst : st' ≠ .busy)
    (hs : Sim G n S μ st a w) {Q : World → Prop} (hQ : ∀ S' μ' w', Sim G n S' μ' ⟨st.e, updL st.h (outs ((idl, .lp .exhausted j i' e') :: hout)), st.d⟩ a w' → Q w') :
    ∃ d w2 args, (resolve a.eval (rangeCall g w.heap.size) 0).run P (w.alloc (.loop { state := .ready, pending := none, fn, tmps := a.tmps, params := ps, assign := asg, body, defers := r })) = .ok d w2 ∧ (invoke d.target d.args).run P w2 = .ok (.enter f args) w2 ∧
      Calls P f args w2 fun ending w3 => ∃ v, ending = .returned v ∧ ∃ w4, (Instr.endLoop w.heap.size).run P w3 = .ok j w4 ∧ Q w4 := by
  have hW := WChg.alloc w (.loop { state := .ready, pending := none, fn, tmps := a.tmps, params := ps, assign := asg, body, defers := r })
  have hE := evolve_new (S := S) (μ := μ) hidl (some (w.heap.size, (0, 0))) (some (.lp .ready none ⟨n, ps, asg, body⟩ e))
  have hnoS : (∀ k, S.cell w.heap.size k = none) ∧ S.mapo w.heap.size = none := by
    refine ⟨fun k => ?_, ?_⟩
    · cases hc : S.cell w.heap.size k with
      | none => rfl
      | some v => obtain ⟨vs, t, fr, h1, _⟩ := hs.inv.holds.1 _ _ _ hc; exact absurd (lt_of_some h1) (Nat.lt_irrefl _)
    · cases hc : S.mapo w.heap.size with
      | none => rfl
      | some v => have h1 := hs.inv.holds.2 _ _ _ hc; exact absurd (lt_of_some h1) (Nat.lt_irrefl _)
  have hI1 := hs.inv.chg (id := idl) (cap := (0, 0)) (ao := .lp .ready none ⟨n, ps, asg, body⟩ e) hW (.inl (Nat.le_refl _)) hE
    ⟨w.heap.size, r, fn, a.tmps, upd_same _ _ _, hW.new, hs.size, fun t v ht => VRel.evolve hE _ _ (hs.env t v (he.mem _ ht)), hnoS⟩
    (fun k v hc => by rw [hnoS.1] at hc; cases hc) (fun m hc => Nat.le_refl _)
  have hs1 : Sim G n S (upd μ idl (some (w.heap.size, (0, 0)))) ⟨st.e, upd st.h idl (some (.lp .ready none ⟨n, ps, asg, body⟩ e)), st.d⟩ a (w.alloc (.loop { state := .ready, pending := none, fn, tmps := a.tmps, params := ps, assign := asg, body, defers := r })) :=
    ⟨hI1, hs.size, hs.defers.evolve hE, fun t v ht => VRel.evolve hE _ _ (hs.env t v ht)⟩
  generalize w.alloc (.loop { state := .ready, pending := none, fn, tmps := a.tmps, params := ps, assign := asg, body, defers := r }) = w1 at hs1 hW
  have hvx := VRel.evolve hE _ _ (opv_rel hs hg fun _ _ => rfl)
  simp only [VRel, RRel] at hvx
  obtain ⟨vs, hgv, hcaps⟩ := hvx
  simp only [callOk, Bool.and_eq_true] at hok
  obtain ⟨⟨k1, k2⟩, k3⟩ := hok
  have hne : ∀ {j o}, st.h j = some o → j ≠ idl := by rintro j o hj rfl; rw [hidl] at hj; cases hj
  have hh : ∀ id o, look ((idl, .lp .ready none ⟨n, ps, asg, body⟩ e) :: hin) id = some o → upd st.h idl (some (.lp .ready none ⟨n, ps, asg, body⟩ e)) id = some o ∧ o ≠ .dead := by
    intro id o ho
    have hm := look_mem ho
    refine ⟨?_, ?_⟩
    · by_cases hid : id = idl
      · subst hid
        rw [look_cons_same] at ho; rw [upd_same]; exact ho
      · rw [look_cons_ne hid] at ho
        rw [upd_ne _ _ _ hid]
        exact hin'.mem _ (look_mem ho)
    · have := (List.all_eq_true.1 k3) _ hm
      rintro rfl
      simp [AObj.live] at this
  have hnew : ∀ id o, look ((idl, .lp st' j i' e') :: hout) id = some o → (∃ o', look ((idl, .lp .ready none ⟨n, ps, asg, body⟩ e) :: hin) id = some o') ∨ upd st.h idl (some (.lp .ready none ⟨n, ps, asg, body⟩ e)) id = none := by
    intro id o ho
    by_cases hid : id = idl
    · subst hid; exact .inl ⟨_, look_cons_same⟩
    · rw [look_cons_ne hid] at ho
      rcases hout'.mem _ (look_mem ho) with h1 | h1
      · obtain ⟨o', h2⟩ := look_some h1
        exact .inl ⟨o', by rw [look_cons_ne hid]; exact h2⟩
      · exact .inr (by rw [upd_ne _ _ _ hid]; exact h1)
  have hI := hs1.inv.hand hh k2
  have hgood : ∀ i ∈ keys ((idl, .lp .ready none ⟨n, ps, asg, body⟩ e) :: hin), Good (upd st.h idl (some (.lp .ready none ⟨n, ps, asg, body⟩ e))) (look ((idl, .lp .ready none ⟨n, ps, asg, body⟩ e) :: hin)) (fun i => i) i := by
    intro i hi
    obtain ⟨o, ho⟩ := look_some hi
    obtain ⟨h1, h2⟩ := hh i o ho
    exact ⟨o, o, h1, ho, .refl_id h2⟩
  have hcv : VRelL S (upd μ idl (some (w.heap.size, (0, 0)))) (upd st.h idl (some (.lp .ready none ⟨n, ps, asg, body⟩ e))) (.one (.yl idl) :: caps.map V.one) (.func (.yield w.heap.size) #[] #[] :: vs) := by
    simp only [VRelL]
    refine ⟨_, _, rfl, ?_, ?_⟩
    · simp only [VRel, RRel]
      exact ⟨_, _, _, _, w.heap.size, _, upd_same _ _ _, upd_same _ _ _, rfl⟩
    · exact capsRel hcaps
  have hcv' : VRelL S (upd μ idl (some (w.heap.size, (0, 0)))) (look ((idl, .lp .ready none ⟨n, ps, asg, body⟩ e) :: hin)) (.one (.yl idl) :: caps.map V.one) (.func (.yield w.heap.size) #[] #[] :: vs) := by
    have := VRelL.ren (H := upd st.h idl (some (.lp .ready none ⟨n, ps, asg, body⟩ e))) (H' := look ((idl, .lp .ready none ⟨n, ps, asg, body⟩ e) :: hin)) (σ := fun i => i) _ _ (fun i hi => hgood i (subset_spec k1 i hi)) (by rw [V.renL_id]; exact hcv)
    exact this
  refine ⟨{ target := .fn (.func f) ⟨vs⟩, args := #[.func (.yield w.heap.size) #[] #[]] }, w1, #[.func (.yield w.heap.size) #[] #[]] ++ ⟨vs⟩, ?_, ?_, ?_⟩
  · have hce : a.eval (.const (.func (.yield w.heap.size) #[] #[])) = .func (.yield w.heap.size) #[] #[] := rfl
    simp only [resolve, hgv, Deferred.ofValue, Sem.run_pure, List.map_toArray, List.map_cons, List.map_nil, hce]
    rfl
  · simp only [invoke, run_callFunc hb]
  · have hc := hf S _ w1 _ hI hcv'
    have hlist : (⟨.func (.yield w.heap.size) #[] #[] :: vs⟩ : Array Value) = #[.func (.yield w.heap.size) #[] #[]] ++ ⟨vs⟩ := by
      apply Array.ext'
      simp
    rw [hlist] at hc
    refine hc.mono ?_
    rintro ending w3 ⟨S', μ', v, rfl, hI', hres⟩
    obtain ⟨μ2, p1, p2, p3, p4⟩ := hs1.inv.back (fun id o ho => (hh id o ho).1) hnew hI'
    have hlp : updL (upd st.h idl (some (.lp .ready none ⟨n, ps, asg, body⟩ e))) (outs ((idl, .lp st' j i' e') :: hout)) idl = some (.lp st' j i' e') := by
      rw [updL_outs, look_cons_same]
    have hμ2 : μ2 idl = some (w.heap.size, (0, 0)) := by
      obtain ⟨o', q1, q2⟩ := p3.obj idl _ (upd_same _ _ _)
      rw [hlp] at q1; cases q1
      simp only [AObj.succ] at q2
      rw [q2, upd_same]
    obtain ⟨b, r', fn', tmps', g1, g2, g3, g4, g5, g6⟩ := p2.obj idl _ hlp
    rw [hμ2] at g1; cases g1
    refine ⟨v, rfl, _, run_endLoop g2 hst, ?_⟩
    have hEx : Evolve S' μ2 (updL (upd st.h idl (some (.lp .ready none ⟨n, ps, asg, body⟩ e))) (outs ((idl, .lp st' j i' e') :: hout))) S' (upd μ2 idl (some (w.heap.size, (0, 0)))) (upd (updL (upd st.h idl (some (.lp .ready none ⟨n, ps, asg, body⟩ e))) (outs ((idl, .lp st' j i' e') :: hout))) idl (some (.lp .exhausted j i' e'))) :=
      evolve_turn hlp hμ2 trivial
    have hW4 := WChg.putObj (o := .loop { state := .exhausted, pending := j, fn := fn', tmps := tmps', params := i'.params, assign := i'.asg, body := i'.body, defers := r' }) g2
    have hI4 := p2.chg (id := idl) (cap := (0, 0)) (ao := .lp .exhausted j i' e') hW4 (.inr ⟨_, _, hlp, hμ2⟩) hEx
      ⟨w.heap.size, r', fn', tmps', upd_same _ _ _, hW4.new, g3, fun t v ht => VRel.evolve hEx _ _ (g4 t v ht), g5, g6⟩ (fun k v hc => by rw [g5] at hc; cases hc) (fun m hc => by rw [g6] at hc; cases hc)
    have hheap : upd (updL (upd st.h idl (some (.lp .ready none ⟨n, ps, asg, body⟩ e))) (outs ((idl, .lp st' j i' e') :: hout))) idl (some (.lp .exhausted j i' e')) = updL st.h (outs ((idl, .lp .exhausted j i' e') :: hout)) := by
      funext k
      by_cases hk : k = idl
      · subst hk; rw [upd_same, updL_outs, look_cons_same]
      · rw [upd_ne _ _ _ hk, updL_outs, updL_outs, look_cons_ne hk, look_cons_ne hk, upd_ne _ _ _ hk]
    refine hQ S' (upd μ2 idl (some (w.heap.size, (0, 0)))) _ ?_
    have hEall := (p3.trans hEx)
    exact ⟨by rw [← hheap]; exact hI4, hs1.size, by
      show Marks _ _ (updL st.h (outs ((idl, .lp .exhausted j i' e') :: hout))) st.d a.defers
      rw [← hheap]; exact hs1.defers.evolve hEall, fun t v ht => by
      show VRel S' _ (updL st.h (outs ((idl, .lp .exhausted j i' e') :: hout))) v _
      rw [← hheap]; exact VRel.evolve hEall _ _ (hs1.env t v ht)⟩

theorem Marks.mem {lo : Nat} {μ : Mu} {H : Heap} : ∀ {ids : List Nat} {ds : List Deferred}, Marks lo μ H ids ds → ∀ id ∈ ids, H id = some .dfr
  | [], _, _, id, h => by simp at h
  | i :: ids, _, ⟨b, c, ds', h1, h2, h3, h4, h5, h6⟩, id, h => by
    rcases List.mem_cons.1 h with rfl | h
    · exact h3
    · exact Marks.mem h6 id h
/-- What comes of a pending jump. -/
def jumpW (F : Fence) (m : Nat) (P : Program) (Q' : Exit → Act → World → Prop) (a : Act) (w : World) : Option Code → Prop
  | none => Q' .normal a w
  | some c => c.wpIn F m P Q' a w
theorem opv_e {st st' : St} (h : st'.e = st.e) (x : Operand) : opv st' x = opv st x := by cases x <;> simp [opv, h]
theorem jump_wp {F : Fence} {m : Nat} {kf : List Nat} {Q : Exit → St → Prop} {Q' : Exit → Act → World → Prop} {st1 st2 : St} {G : Ctx} {S : Sto} {μ : Mu} {a : Act} {w : World} {j : Option Code} (hg : G.keeps kf) (hs : Sim G n S μ st1 a w) (hsub : Sub kf st2 st1) (hQ : jumpPost Q st2 j)
    (hk : ∀ ex st' S' μ' a' w', Q ex st' → Sim G n S' μ' st' a' w' → Q' ex a' w') : jumpW F m P Q' a w j := by
  obtain ⟨S', μ', h⟩ := hsub G n S μ a w hg hs
  match j, hQ with
  | none, hQ => exact hk _ _ _ _ _ _ hQ h
  | some .ret, hQ => exact wpIn_ret (hk _ _ _ _ _ _ hQ h)
  | some (.exit id), hQ => exact wpIn_exit (hk _ _ _ _ _ _ hQ h)

/-- A LOOP OVER A FUNCTION, in a function's own frame. -/
theorem awp_range {kf : List Nat} {Q : Exit → St → Prop} {g : Operand} {ps : Array Tmp} {asg body : Code} {f : FuncId} {caps : List R} {hin hout : List (Nat × AObj)} {st' : LoopState} {j : Option Code} {i' : LI} {e' : List (Nat × V)} (idl idd : Nat) (e : List (Nat × V)) (st2 : St)
    (hb : bodied P f) (hg : opv st g = some (.one (.clo f caps))) (he : AllP (fun p => st.e p.1 = some p.2) e) (hin' : AllP (fun p => st.h p.1 = some p.2) hin) (hout' : AllP (fun p => p.1 ∈ keys hin ∨ st.h p.1 = none) hout) (hidl : st.h idl = none) (hidd : st.h idd = none)
    (hf : ImpC P f (.one (.yl idl) :: caps.map V.one) ((idl, .lp .ready none ⟨n, ps, asg, body⟩ e) :: hin) (.tup []) ((idl, .lp st' j i' e') :: hout))
    (hok : (callOk (.one (.yl idl) :: caps.map V.one) ((idl, .lp .ready none ⟨n, ps, asg, body⟩ e) :: hin) && (!Nat.beq idd idl && !((keys hout).contains idd))) = true) (hst : st' ≠ .busy)
    (hsub : Sub kf st2 ⟨st.e, updL (upd st.h idd (some .dfr)) (outs ((idl, .lp .exhausted j i' e') :: hout)), idd :: st.d⟩) (hQ : jumpPost Q st2 j) : AWp none P n kf (.rangeFunc g ps asg body) st Q := by
  intro G S μ a w Q' hgk hs hk
  rw [Bool.and_eq_true, Bool.and_eq_true] at hok
  obtain ⟨hok, hne, hno⟩ := hok
  have hno := not_key hno
  have hne' : idd ≠ idl := by
    intro h
    subst h
    simp at hne
  refine wpIn_rangeFunc fun fn _ => ?_
  have hW := WChg.alloc w (.deferred (some []))
  have hE := evolve_new (S := S) (μ := μ) hidd (some (w.heap.size, (0, 0))) (some .dfr)
  have hnoS : (∀ k, S.cell w.heap.size k = none) ∧ S.mapo w.heap.size = none := by
    refine ⟨fun k => ?_, ?_⟩
    · cases hc : S.cell w.heap.size k with
      | none => rfl
      | some v => obtain ⟨vs, t, fr, h1, _⟩ := hs.inv.holds.1 _ _ _ hc; exact absurd (lt_of_some h1) (Nat.lt_irrefl _)
    · cases hc : S.mapo w.heap.size with
      | none => rfl
      | some v => have h1 := hs.inv.holds.2 _ _ _ hc; exact absurd (lt_of_some h1) (Nat.lt_irrefl _)
  have hI1 := hs.inv.chg (id := idd) (cap := (0, 0)) (ao := .dfr) hW (.inl (Nat.le_refl _)) hE ⟨w.heap.size, upd_same _ _ _, hW.new, hnoS⟩
    (fun k v hc => by rw [hnoS.1] at hc; cases hc) (fun m hc => Nat.le_refl _)
  have hmk : Marks G.w0.heap.size (upd μ idd (some (w.heap.size, (0, 0)))) (upd st.h idd (some .dfr)) (idd :: st.d) ({ target := .collected w.heap.size, args := #[] } :: a.defers) :=
    ⟨w.heap.size, _, _, rfl, upd_same _ _ _, upd_same _ _ _, hs.inv.frame.size, (fun h => by have := hs.defers.mem idd h; rw [hidd] at this; cases this), hs.defers.evolve hE⟩
  have hsA : Sim G n S (upd μ idd (some (w.heap.size, (0, 0)))) ⟨st.e, upd st.h idd (some .dfr), idd :: st.d⟩ { a with defers := [{ target := .collected w.heap.size, args := #[] }] ++ a.defers } (w.alloc (.deferred (some []))) :=
    ⟨hI1, hs.size, hmk, fun t v ht => VRel.evolve hE _ _ (hs.env t v ht)⟩
  have hnd : ∀ {j o}, st.h j = some o → j ≠ idd := by rintro j o hj rfl; rw [hidd] at hj; cases hj
  have hinA : AllP (fun p => upd st.h idd (some .dfr) p.1 = some p.2) hin := by
    have : ∀ l : List (Nat × AObj), AllP (fun p => st.h p.1 = some p.2) l → AllP (fun p => upd st.h idd (some .dfr) p.1 = some p.2) l := by
      intro l
      induction l with
      | nil => intro _; trivial
      | cons p l ih => intro h; exact ⟨(upd_ne _ _ _ (hnd h.1)).trans h.1, ih h.2⟩
    exact this _ hin'
  have houtA : AllP (fun p => p.1 ∈ keys hin ∨ upd st.h idd (some .dfr) p.1 = none) hout := by
    have : ∀ l : List (Nat × AObj), (∀ p ∈ l, p.1 ≠ idd) → AllP (fun p => p.1 ∈ keys hin ∨ st.h p.1 = none) l → AllP (fun p => p.1 ∈ keys hin ∨ upd st.h idd (some .dfr) p.1 = none) l := by
      intro l
      induction l with
      | nil => intro _ _; trivial
      | cons p l ih => intro hl h; exact ⟨h.1.imp id fun h => (upd_ne _ _ _ (hl p (by simp))).trans h, ih (fun q hq => hl q (by simp [hq])) h.2⟩
    refine this _ (fun p hp he => ?_) hout'
    obtain ⟨x, hx⟩ := look_some (List.mem_map.2 ⟨p, hp, rfl⟩ : p.1 ∈ hout.map (·.1))
    rw [he, hno] at hx
    cases hx
  obtain ⟨d, w2, args, q1, q2, q3⟩ := range_core (P := P) (G := G) (st := ⟨st.e, upd st.h idd (some .dfr), idd :: st.d⟩) (fn := fn) (r := w.heap.size) (asg := asg) (body := body) (ps := ps) (Q := fun w4 => jumpW (Wd none) 0 P Q' { a with defers := [{ target := .collected w.heap.size, args := #[] }] ++ a.defers } w4 j)
    hb (by rw [opv_e rfl]; exact hg) he hinA houtA (by show upd st.h idd (some .dfr) idl = none; rw [upd_ne _ _ _ (Ne.symm hne')]; exact hidl) hf hok hst hsA (fun S' μ' w4 hs4 => jump_wp hgk.1 hs4 hsub hQ hk)
  refine ⟨w.heap.size + 1, [{ target := .collected w.heap.size, args := #[] }], _, d, w2, f, args, w2, run_enterLoop_outer _ _ _ _ _, ?_, fun _ _ => trivial, q2, fun h => by simp [Wd] at h, Wd.calls.2 ?_⟩
  · rw [World.size_alloc] at q1
    exact q1
  · refine q3.mono ?_
    rintro ending w3 ⟨v, rfl, w4, h1, h2⟩
    rw [World.size_alloc] at h1
    exact ⟨j, w4, h1, by cases j <;> exact h2⟩

/-- A LOOP OVER A FUNCTION, in a round of another one. -/
theorem awp_rangeR {l0 : Nat} {kf : List Nat} {Q : Exit → St → Prop} {g : Operand} {ps : Array Tmp} {asg body : Code} {f : FuncId} {caps : List R} {hin hout : List (Nat × AObj)} {st' : LoopState} {j : Option Code} {i' : LI} {e' : List (Nat × V)} (idl : Nat) (e : List (Nat × V)) (st2 : St)
    (hb : bodied P f) (hg : opv st g = some (.one (.clo f caps))) (he : AllP (fun p => st.e p.1 = some p.2) e) (hin' : AllP (fun p => st.h p.1 = some p.2) hin) (hout' : AllP (fun p => p.1 ∈ keys hin ∨ st.h p.1 = none) hout) (hidl : st.h idl = none)
    (hf : ImpC P f (.one (.yl idl) :: caps.map V.one) ((idl, .lp .ready none ⟨n, ps, asg, body⟩ e) :: hin) (.tup []) ((idl, .lp st' j i' e') :: hout))
    (hok : callOk (.one (.yl idl) :: caps.map V.one) ((idl, .lp .ready none ⟨n, ps, asg, body⟩ e) :: hin) = true) (hst : st' ≠ .busy)
    (hsub : Sub kf st2 ⟨st.e, updL st.h (outs ((idl, .lp .exhausted j i' e') :: hout)), st.d⟩) (hQ : jumpPost Q st2 j) : AWp (some l0) P n kf (.rangeFunc g ps asg body) st Q := by
  intro G S μ a w Q' hgk hs hk
  refine wpIn_rangeFunc fun fn _ => ?_
  obtain ⟨⟨r, hr⟩, hnF⟩ := hgk.2
  have hw : w.heap[l0]? = some (.loop r) := (hs.inv.frame.block l0 (lt_of_some hr) hnF).trans hr
  obtain ⟨d, w2, args, q1, q2, q3⟩ := range_core (P := P) (G := G) (st := st) (fn := fn) (r := r.defers) (asg := asg) (body := body) (ps := ps) (Q := fun w4 => jumpW (Wd (some l0)) 0 P Q' a w4 j)
    hb hg he hin' hout' hidl hf hok hst hs (fun S' μ' w4 hs4 => jump_wp hgk.1 hs4 hsub hQ hk)
  refine ⟨w.heap.size, [], _, d, w2, f, args, w2, run_enterLoop_inner hw, q1, fun _ _ => trivial, q2, fun h => by simp [Wd] at h, Wd.calls.2 ?_⟩
  refine q3.mono ?_
  rintro ending w3 ⟨v, rfl, w4, h1, h2⟩
  exact ⟨j, w4, h1, by cases j <;> exact h2⟩
end
end Go.AM
