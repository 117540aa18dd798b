/-
  The law EraseTells: for every two arguments the call returns true, and both read behind the call as they read before: the row, and its tied card. Conditions: none but the row's own.
-/
import Derived.Test.YtnookidjdjhfhaaGreatDoorM15
import Derived.Test.YtnookidjdjhfhaaGreatDoorCards
import Derived.Test.YtnookidjdjhfhaaGreatDoorTie
import Derived.ProofKit
import Derived.OpenShut
import Derived.LaidMore
import Derived.Lay
import Derived.SevenTiedAt
import Derived.Stop.Joined
/- The law EraseTells: whatever its arguments, the call returns true, and they read as they did. The row, and the card. -/
namespace Go.Proofs.YtnookidjdjhfhaaGreatDoor
open Go Go.ChangeShapes Go.WideShapes Go.ChangeAt Go.RowKit Go.AM

theorem Tryz.own : ownKnob Tryz.prog.godebug = none := by kernel_rfl
theorem Tryz.laidOut : laidOutB Tryz.prog = true := by kernel_rfl

set_option maxRecDepth 100000 in
theorem eraseTells_lifted (os : Os) (started : os.Started) (H : Type) (enc : TypeId × Value → H) :
    ReturnsInHanded {} Tryz.checked os 3 .any (fun w args => (Rows.eraseTellsSpec.pre enc Tryz.prog Tryz.f3 Rows.eraseTellsRow.domain false w args ∧ laidMetH Tryz.prog Rows.eraseTellsRow.laid w) ∧ sizedMet enc Tryz.prog Tryz.f3 (OpenSpec.ofChange Rows.eraseTellsSpec) false w args)
      (Rows.eraseTellsSpec.post enc Tryz.prog Tryz.f3 false true false false) := by
  refine returnsInHanded_of_change_and (C := Tryz.checked) (X := fun w _ => laidMetH Tryz.prog Rows.eraseTellsRow.laid w) (fun _ _ _ hh h => h.of_heap hh) Tryz.own started (by kernel_rfl) Tryz.func3
    (ChangeSpec.witness_shaped (enc := enc) (C := Tryz.checked) (os := os) (X := fun w _ => laidMetH Tryz.prog Rows.eraseTellsRow.laid w) false (World.laidAll Tryz.prog os Rows.eraseTellsRow.laid) #[.slice none 0 0, .slice none 0 0] 8 (World.laidAll_os _ _ _)
      (World.shaped_of_ZipB (by kernel_rfl) (by kernel_rfl)) (by kernel_rfl) (by kernel_rfl) (by kernel_rfl)
      (by rw [MakeChecks.laidMetH_plain _ _ _ (by kernel_rfl)]; exact laidMet_laidAll _ (by kernel_rfl) (by kernel_rfl))) ?_
  intro W base args ds gs before hval0 hW hcnd hwt hL _
  have hval : ∀ (j : Nat) t v, Tryz.f3.params[j]? = some t → args[j]? = some v → Value.okWide Tryz.prog W .any base t v := hval0
  have hW' := hW
  obtain ⟨p, q, hA0, hV, rfl, hfz, hnd⟩ := hW
  have hA : DataW.TrodAll enc Tryz.prog W 0 (fun _ => true) true Tryz.f3.params.toList args.toList ds p := hA0
  rw [Tryz.params3] at hA hval
  obtain ⟨v0, v1, d0, d1, p0, p1, rfl, rfl, rfl, h0, h1⟩ := trodAll_two hA
  obtain ⟨rfl, rfl⟩ := trodVars_none hV
  obtain ⟨l, hrep, hr, x, y, hd⟩ := open_intsC Tryz.underlying22 Tryz.underlying3 (by kernel_rfl) (hval 0 22 v0 rfl rfl) h0
  obtain ⟨m, hrep2, hr2, x2, y2, hd2⟩ := open_intsC Tryz.underlying22 Tryz.underlying3 (by kernel_rfl) (hval 1 22 v1 rfl rfl) h1
  clear hA0 hval0
  simp only [List.append_nil] at hW'
  have hlt : ∀ x ∈ p0, x.block < W.heap.size := fun x hx => by simpa using hW'.lt x (List.mem_append.2 (.inl hx))
  have hlt1 : ∀ x ∈ p1, x.block < W.heap.size := fun x hx => by simpa using hW'.lt x (List.mem_append.2 (.inr hx))
  have hwt' : (DataW.weightsEach Tryz.prog (Tryz.f3.params.toList ++ Rows.eraseTellsSpec.plain.varTypes Tryz.prog) ([d0, d1] ++ [])).all (· ≤ reachBytes) = true := hwt
  have hl : Fits l := by
    unfold Fits
    rcases hd with ⟨_, hd⟩ | ⟨rfl, hd⟩
    · rw [hd]; simp
    · have := sized_slice hwt' (j := 0) (t := 22) (e := 3) rfl rfl Tryz.underlying22
      rw [show Tryz.prog.bytesOf 3 = 8 by kernel_rfl] at this
      have hb := reachBytes_lt
      omega
  have hl2 : Fits m := by
    unfold Fits
    rcases hd2 with ⟨_, hd⟩ | ⟨rfl, hd⟩
    · rw [hd]; simp
    · have := sized_slice hwt' (j := 1) (t := 22) (e := 3) rfl rfl Tryz.underlying22
      rw [show Tryz.prog.bytesOf 3 = 8 by kernel_rfl] at this
      have hb := reachBytes_lt
      omega
  refine (imp_calls (c_EraseTells l m hr hl hr2 hl2) W (vals := [v0, v1]) ⟨_, _, rfl, hrep, ⟨_, _, rfl, hrep2, rfl⟩⟩).mono fun e W' ⟨v, S, μ, he, bel, hv⟩ => ?_
  subst he
  rw [bool_of hv]
  have hp0 := Below.trod Tryz.laidOut (by kernel_rfl) (of_decide_eq_true (by kernel_rfl)) h0 bel hlt
  have hp1 := Below.trod Tryz.laidOut (by kernel_rfl) (of_decide_eq_true (by kernel_rfl)) h1 bel hlt1
  exact ⟨_, rfl, ⟨_, _, _, [], _, [], hW', trodAll_mk1 (shut_bool Tryz.underlying4 true), trodAll_mk2 hp0 hp1, rfl, bel.frame _, fun h => by cases h⟩⟩

theorem eraseTells_holds : Rows.EraseTellsSaid :=
  OpenClaim.holds_of_wide 3 Tryz.f3 rfl rfl rfl rfl rfl rfl rfl ⟨rfl, rfl, rfl, rfl, rfl⟩ rfl rfl rfl rfl rfl (by kernel_rfl) Tryz.func3 (by kernel_rfl)
    (of_decide_eq_true (by kernel_rfl)) (by unfold Func.isWrapper; first | (rw [if_pos (by decide +kernel)]; kernel_rfl) | (rw [if_neg (by decide +kernel)]; exact ⟨rfl, rfl⟩))
    (fun os started H enc _ => eraseTells_lifted os started H enc)
theorem eraseTells_card_holds : Rows.EraseTellsCardSaid :=
  Claim7.holds_tied_plain_at .later [] [.data, .data, .data] true (true, "b5ddbea6cda96c276434f2ffd47a056995f21e635b0f8de8abd8bf06b372b029") false eraseTells_holds (fun _ h => by cases h) (by kernel_rfl) (fun _ h => by cases h) eraseTells_row_tie rfl ⟨rfl, rfl⟩ (by kernel_rfl) rfl
    (fun f fn hf hfn => by
      obtain rfl : f = 3 := Option.some.inj ((show Tryz.prog.funcNamed "fugue/fuguelaw24.EraseTells" = some 3 by kernel_rfl).symm.trans hf) |>.symm
      obtain rfl : fn = Tryz.f3 := (Option.some.inj (Tryz.func3.symm.trans hfn)).symm
      exact ⟨by kernel_rfl, fun j t ht => by
        rw [Tryz.params3] at ht
        have hm : t ∈ [22] := by simpa using Array.mem_of_getElem? ht
        have hall : ([22].all fun u => !Tryz.prog.wantsStandIn u) = true := by kernel_rfl
        exact (show Tryz.prog.wantsStandIn t = false by simpa using List.all_eq_true.1 hall t hm)⟩)
    (by kernel_rfl)
end Go.Proofs.YtnookidjdjhfhaaGreatDoor
