/-
  The law EraseTwice: for every argument the call returns true, and the argument reads behind the call as it read before: the row, and its tied card. Conditions: none but the row's own.
-/
import Derived.Test.YtnookidjdjhfhaaGreatDoorM15
import Derived.Test.YtnookidjdjhfhaaGreatDoorCards
import Derived.Test.YtnookidjdjhfhaaGreatDoorTie
import Derived.ProofKit
import Derived.OpenShut
import Derived.LaidMore
import Derived.Lay
import Derived.SevenTiedAt
import Derived.Stop.Joined
/- The law EraseTwice: whatever its argument, the call returns true, and it reads as it did. The row, and the card. -/
namespace Go.Proofs.YtnookidjdjhfhaaGreatDoor
open Go Go.ChangeShapes Go.WideShapes Go.ChangeAt Go.RowKit Go.AM

theorem Tryz.own : ownKnob Tryz.prog.godebug = none := by kernel_rfl
theorem Tryz.laidOut : laidOutB Tryz.prog = true := by kernel_rfl

set_option maxRecDepth 100000 in
theorem eraseTwice_lifted (os : Os) (started : os.Started) (H : Type) (enc : TypeId × Value → H) :
    ReturnsInHanded {} Tryz.checked os 4 .any (fun w args => (Rows.eraseTwiceSpec.pre enc Tryz.prog Tryz.f4 Rows.eraseTwiceRow.domain false w args ∧ laidMetH Tryz.prog Rows.eraseTwiceRow.laid w) ∧ sizedMet enc Tryz.prog Tryz.f4 (OpenSpec.ofChange Rows.eraseTwiceSpec) false w args)
      (Rows.eraseTwiceSpec.post enc Tryz.prog Tryz.f4 false true false false) := by
  refine returnsInHanded_of_change_and (C := Tryz.checked) (X := fun w _ => laidMetH Tryz.prog Rows.eraseTwiceRow.laid w) (fun _ _ _ hh h => h.of_heap hh) Tryz.own started (by kernel_rfl) Tryz.func4
    (ChangeSpec.witness_shaped (enc := enc) (C := Tryz.checked) (os := os) (X := fun w _ => laidMetH Tryz.prog Rows.eraseTwiceRow.laid w) false (World.laidAll Tryz.prog os Rows.eraseTwiceRow.laid) #[.slice none 0 0] 8 (World.laidAll_os _ _ _)
      (World.shaped_of_ZipB (by kernel_rfl) (by kernel_rfl)) (by kernel_rfl) (by kernel_rfl) (by kernel_rfl)
      (by rw [MakeChecks.laidMetH_plain _ _ _ (by kernel_rfl)]; exact laidMet_laidAll _ (by kernel_rfl) (by kernel_rfl))) ?_
  intro W base args ds gs before hval0 hW hcnd hwt hL _
  have hval : ∀ (j : Nat) t v, Tryz.f4.params[j]? = some t → args[j]? = some v → Value.okWide Tryz.prog W .any base t v := hval0
  have hW' := hW
  obtain ⟨p0, q, hA0, hV, rfl, hfz, hnd⟩ := hW
  have hA : DataW.TrodAll enc Tryz.prog W 0 (fun _ => true) true Tryz.f4.params.toList args.toList ds p0 := hA0
  rw [Tryz.params4] at hA hval
  obtain ⟨v0, d0, rfl, rfl, h0⟩ := trodAll_one hA
  obtain ⟨rfl, rfl⟩ := trodVars_none hV
  obtain ⟨l, hrep, hr, x, y, hd⟩ := open_intsC Tryz.underlying22 Tryz.underlying3 (by kernel_rfl) (hval 0 22 v0 rfl rfl) h0
  clear hA0 hval0
  simp only [List.append_nil] at hW'
  have hlt : ∀ x ∈ p0, x.block < W.heap.size := fun x hx => by simpa using hW'.lt x hx
  have hwt' : (DataW.weightsEach Tryz.prog (Tryz.f4.params.toList ++ Rows.eraseTwiceSpec.plain.varTypes Tryz.prog) ([d0] ++ [])).all (· ≤ reachBytes) = true := hwt
  have hl : Fits l := by
    unfold Fits
    rcases hd with ⟨_, hd⟩ | ⟨rfl, hd⟩
    · rw [hd]; simp
    · have := sized_slice hwt' (j := 0) (t := 22) (e := 3) rfl rfl Tryz.underlying22
      rw [show Tryz.prog.bytesOf 3 = 8 by kernel_rfl] at this
      have hb := reachBytes_lt
      omega
  refine (imp_calls (c_EraseTwice l hr hl) W (vals := [v0]) ⟨_, _, rfl, hrep, rfl⟩).mono fun e W' ⟨v, S, μ, he, bel, hv⟩ => ?_
  subst he
  rw [bool_of hv]
  have hp0 := Below.trod Tryz.laidOut (by kernel_rfl) (of_decide_eq_true (by kernel_rfl)) h0 bel hlt
  exact ⟨_, rfl, ⟨_, _, _, [], _, [], hW', trodAll_mk1 (shut_bool Tryz.underlying4 true), trodAll_mk1 hp0, rfl, bel.frame _, fun h => by cases h⟩⟩

theorem eraseTwice_holds : Rows.EraseTwiceSaid :=
  OpenClaim.holds_of_wide 4 Tryz.f4 rfl rfl rfl rfl rfl rfl rfl ⟨rfl, rfl, rfl, rfl, rfl⟩ rfl rfl rfl rfl rfl (by kernel_rfl) Tryz.func4 (by kernel_rfl)
    (of_decide_eq_true (by kernel_rfl)) (by unfold Func.isWrapper; first | (rw [if_pos (by decide +kernel)]; kernel_rfl) | (rw [if_neg (by decide +kernel)]; exact ⟨rfl, rfl⟩))
    (fun os started H enc _ => eraseTwice_lifted os started H enc)
theorem eraseTwice_card_holds : Rows.EraseTwiceCardSaid :=
  Claim7.holds_tied_plain_at .later [] [.data, .data, .data] true (true, "b5ddbea6cda96c276434f2ffd47a056995f21e635b0f8de8abd8bf06b372b029") false eraseTwice_holds (fun _ h => by cases h) (by kernel_rfl) (fun _ h => by cases h) eraseTwice_row_tie rfl ⟨rfl, rfl⟩ (by kernel_rfl) rfl
    (fun f fn hf hfn => by
      obtain rfl : f = 4 := Option.some.inj ((show Tryz.prog.funcNamed "fugue/fuguelaw24.EraseTwice" = some 4 by kernel_rfl).symm.trans hf) |>.symm
      obtain rfl : fn = Tryz.f4 := (Option.some.inj (Tryz.func4.symm.trans hfn)).symm
      exact ⟨by kernel_rfl, fun j t ht => by
        rw [Tryz.params4] at ht
        have hm : t ∈ [22] := by simpa using Array.mem_of_getElem? ht
        have hall : ([22].all fun u => !Tryz.prog.wantsStandIn u) = true := by kernel_rfl
        exact (show Tryz.prog.wantsStandIn t = false by simpa using List.all_eq_true.1 hall t hm)⟩)
    (by kernel_rfl)
end Go.Proofs.YtnookidjdjhfhaaGreatDoor
