/-
  The law LiftApart: whatever its argument, the call returns true, and the argument reads as it did: the row, and its tied card.
-/
import Derived.Test.YtojcjjjpniimiaaDoorM22
import Derived.Test.YtojcjjjpniimiaaDoorCards
import Derived.Test.YtojcjjjpniimiaaDoorTie
import Derived.ProofKit
import Derived.Lib.LaidTab
import Derived.Stop.LaidErr
import Derived.OpenShut
import Derived.LaidMore
import Derived.Lay
import Derived.SevenTiedAt
import Derived.Stop.Joined
/- The law LiftApart: whatever its argument, the call returns true, and it reads as it did. The row, and the card. -/
namespace Go.Proofs.YtojcjjjpniimiaaDoor
open Go Go.ChangeShapes Go.WideShapes Go.ChangeAt Go.RowKit Go.AM

theorem Tryd.own : ownKnob Tryd.prog.godebug = none := by kernel_rfl
theorem Tryd.laidOut : laidOutB Tryd.prog = true := by kernel_rfl

theorem weightsAll_mem {H : Type} {P : Program} {e : TypeId} : ∀ {xs : List (DataW H)} {k : Nat} {y : DataW H} {n : Nat}, xs[k]? = some y → n ∈ y.weights P e → n ∈ DataW.weightsAll P e xs
  | x :: xs, 0, y, n, h, hn => by
    simp at h
    subst h
    rw [DataW.weightsAll]
    exact List.mem_append.2 (.inl hn)
  | x :: xs, k + 1, y, n, h, hn => by
    rw [DataW.weightsAll]
    exact List.mem_append.2 (.inr (weightsAll_mem (k := k) (by simpa using h) hn))
theorem enc_ss (l : List (List Int)) : ((encIntss l).map fun c => [c]) = l.map encL := by
  unfold encIntss
  rw [List.map_map]
  rfl
theorem reach_fits {n k : Nat} (h : n * (k + 1) ≤ reachBytes) : n ≤ 1152921504606846976 := by
  have h1 := reachBytes_lt
  have h2 : n ≤ n * (k + 1) := Nat.le_mul_of_pos_right n (Nat.succ_pos k)
  omega

theorem tab_laid : Rows.laid_internal_strconv_uint64pow10 (H := Unit) = Lib.tabData .u64 Lib.pow10Tab := by kernel_rfl
/-- The table lies in its place. -/
theorem tab_at {W : World} (h : laidMetH Tryd.prog Rows.liftApartRow.laid W) : TabAt W := by
  rw [MakeChecks.laidMetH_plain _ _ _ (by kernel_rfl)] at h
  have h3 := laidMet.tail (laidMet.tail h)
  rw [tab_laid] at h3
  have ht := Lib.tabIs_of_head (g := 0) (t := 142) (e := 136) (n := 20) (by kernel_rfl) (by kernel_rfl) (by kernel_rfl) (by kernel_rfl) (by kernel_rfl) (by kernel_rfl) h3
  intro g hg
  cases hg
  unfold Lib.TabIs World.var? at ht
  rw [show Tryd.prog.globalNamed "internal/strconv.uint64pow10" = some 0 by kernel_rfl] at ht
  simp only [Option.bind_some] at ht
  split at ht
  · rename_i cs t fr hq
    simp only [Option.some.injEq] at ht
    subst ht
    exact ⟨lt_of_some hq, t, fr, hq⟩
  · cases ht
set_option maxRecDepth 100000 in
theorem liftApart_lifted (os : Os) (started : os.Started) (H : Type) (enc : TypeId × Value → H) :
    ReturnsInHanded {} Tryd.checked os 5 .any (fun w args => (Rows.liftApartSpec.pre enc Tryd.prog Tryd.f5 Rows.liftApartRow.domain false w args ∧ laidMetH Tryd.prog Rows.liftApartRow.laid w) ∧ sizedMet enc Tryd.prog Tryd.f5 (OpenSpec.ofChange Rows.liftApartSpec) false w args)
      (Rows.liftApartSpec.post enc Tryd.prog Tryd.f5 false true false false) := by
  refine returnsInHanded_of_change_and (C := Tryd.checked) (X := fun w _ => laidMetH Tryd.prog Rows.liftApartRow.laid w) (fun _ _ _ hh h => h.of_heap hh) Tryd.own started (by kernel_rfl) Tryd.func5
    (ChangeSpec.witness_shaped (enc := enc) (C := Tryd.checked) (os := os) (X := fun w _ => laidMetH Tryd.prog Rows.liftApartRow.laid w) false (World.laidAll Tryd.prog os Rows.liftApartRow.laid) #[.slice none 0 0] 8 (World.laidAll_os _ _ _)
      (World.shaped_of_ZipB (by kernel_rfl) (by kernel_rfl)) (by kernel_rfl) (by kernel_rfl) (by kernel_rfl)
      (by rw [MakeChecks.laidMetH_plain _ _ _ (by kernel_rfl)]; exact laidMet_laidAll _ (by kernel_rfl) (by kernel_rfl))) ?_
  intro W base args ds gs before hval0 hW hcnd hwt hL _
  have hval : ∀ (j : Nat) t v, Tryd.f5.params[j]? = some t → args[j]? = some v → Value.okWide Tryd.prog W .any base t v := hval0
  have hW' := hW
  obtain ⟨p0, q, hA0, hV, rfl, hfz, hnd⟩ := hW
  have hA : DataW.TrodAll enc Tryd.prog W 0 (fun _ => true) true Tryd.f5.params.toList args.toList ds p0 := hA0
  rw [Tryd.params5] at hA hval
  obtain ⟨v0, d0, rfl, rfl, h0⟩ := trodAll_one hA
  obtain ⟨rfl, rfl⟩ := trodVars_none hV
  obtain ⟨l, hrep, hr, xs, zs, hd⟩ := open_rowsC Tryd.underlying22 Tryd.underlying23 Tryd.underlying3 (by kernel_rfl) (by kernel_rfl) (hval 0 22 v0 rfl rfl) h0
  rw [enc_ss] at hrep
  clear hA0 hval0
  simp only [List.append_nil] at hW'
  have hlt : ∀ x ∈ p0, x.block < W.heap.size := fun x hx => by simpa using hW'.lt x hx
  have hwt' : ∀ n ∈ d0.weights Tryd.prog 22, n ≤ reachBytes := fun n hn => by
    have h1 := List.all_eq_true.1 hwt n (DataW.weights_mem_each (j := 0) (t := 22) (d := d0) rfl rfl n hn)
    exact of_decide_eq_true h1
  have hl : Fits l ∧ ∀ x ∈ l, Fits x := by
    unfold Fits
    rcases hd with ⟨rfl, rfl⟩ | ⟨rfl, hxl, hxe⟩
    · exact ⟨by simp, by simp⟩
    · rw [DataW.weights, Tryd.underlying22] at hwt'
      dsimp only at hwt'
      refine ⟨?_, fun x hx => ?_⟩
      · have h1 := hwt' _ List.mem_cons_self
        rw [show Tryd.prog.bytesOf 23 = 23 + 1 by kernel_rfl] at h1
        have := reach_fits h1
        omega
      · obtain ⟨k, hk⟩ := List.getElem?_of_mem hx
        obtain ⟨y, hy, ⟨rfl, rfl⟩ | ⟨u, z, rfl, hu⟩⟩ := hxe k x hk
        · simp
        · have h1 := hwt' ((u.length + z.length) * Tryd.prog.bytesOf 3) (List.mem_cons_of_mem _ (List.mem_append.2 (.inl (weightsAll_mem hy (by rw [DataW.weights, Tryd.underlying23]; exact List.mem_cons_self)))))
          rw [show Tryd.prog.bytesOf 3 = 7 + 1 by kernel_rfl] at h1
          have := reach_fits h1
          omega
  refine (imp_calls (c_LiftApart l hl.1 fun x hx => ⟨fun m hm => hr x hx m hm, hl.2 x hx⟩) W (vals := [v0]) ⟨_, _, rfl, hrep, rfl⟩ (ht := tab_at hL)).mono fun e W' ⟨v, S, μ, he, bel, hv⟩ => ?_
  subst he
  rw [bool_of hv]
  have hp0 := Below.trod Tryd.laidOut (by kernel_rfl) (of_decide_eq_true (by kernel_rfl)) h0 bel hlt
  exact ⟨_, rfl, ⟨_, _, _, [], _, [], hW', trodAll_mk1 (shut_bool Tryd.underlying4 true), trodAll_mk1 hp0, rfl, bel.frame _, fun h => by cases h⟩⟩

theorem liftApart_holds : Rows.LiftApartSaid :=
  OpenClaim.holds_of_wide 5 Tryd.f5 rfl rfl rfl rfl rfl rfl rfl ⟨rfl, rfl, rfl, rfl, rfl⟩ rfl rfl rfl rfl rfl (by kernel_rfl) Tryd.func5 (by kernel_rfl)
    (of_decide_eq_true (by kernel_rfl)) (by unfold Func.isWrapper; first | (rw [if_pos (by decide +kernel)]; kernel_rfl) | (rw [if_neg (by decide +kernel)]; exact ⟨rfl, rfl⟩))
    (fun os started H enc _ => liftApart_lifted os started H enc)
theorem liftApart_card_holds : Rows.LiftApartCardSaid :=
  Claim7.holds_tied_plain_at .later [] [.data, .data, .data] true (true, "f64d0a9fa7e92ae6ef72ed62da4024f16ce37cdeaa73e192d7034ed1f978e9a3") false liftApart_holds (fun _ h => by cases h) (by kernel_rfl) (fun _ h => by cases h) liftApart_row_tie rfl ⟨rfl, rfl⟩ (by kernel_rfl) rfl
    (fun f fn hf hfn => by
      obtain rfl : f = 5 := Option.some.inj ((show Tryd.prog.funcNamed "fugue/fuguelaw25.LiftApart" = some 5 by kernel_rfl).symm.trans hf) |>.symm
      obtain rfl : fn = Tryd.f5 := (Option.some.inj (Tryd.func5.symm.trans hfn)).symm
      exact ⟨by kernel_rfl, fun j t ht => by
        rw [Tryd.params5] at ht
        have hm : t ∈ [22] := by simpa using Array.mem_of_getElem? ht
        have hall : ([22].all fun u => !Tryd.prog.wantsStandIn u) = true := by kernel_rfl
        exact (show Tryd.prog.wantsStandIn t = false by simpa using List.all_eq_true.1 hall t hm)⟩)
    (by kernel_rfl)
end Go.Proofs.YtojcjjjpniimiaaDoor
