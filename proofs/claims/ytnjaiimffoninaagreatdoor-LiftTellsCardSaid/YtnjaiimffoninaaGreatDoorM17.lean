/-
  The law LiftTells: its row and its card.
-/
import Derived.Test.YtnjaiimffoninaaGreatDoorM16
import Derived.Test.YtnjaiimffoninaaGreatDoorCards
import Derived.Test.YtnjaiimffoninaaGreatDoorTie
import Derived.ProofKit
import Derived.Lib.LaidTab
import Derived.Stop.LaidErr
import Derived.OpenShut
import Derived.LaidMore
import Derived.Lay
import Derived.SevenTiedAt
import Derived.Stop.Joined
open List (all_eq_true append_nil mem_append)
namespace Go.Proofs.YtnjaiimffoninaaGreatDoor
open Go Go.ChangeShapes Go.WideShapes Go.ChangeAt Go.RowKit Go.AM
theorem Tryz.own:ownKnob Tryz.prog.godebug=none:=by kernel_rfl
theorem Tryz.laidOut:laidOutB Tryz.prog=true:=by kernel_rfl
theorem aTs:Rows.laid_internal_strconv_uint64pow10 (H:=Unit)=Lib.tabData .u64 Lib.pow10Tab:=by kernel_rfl
theorem a2o {W:World}(h:laidMetH Tryz.prog Rows.liftTellsRow.laid W):aWl W:=by
 rw [MakeChecks.laidMetH_plain _ _ _ (by kernel_rfl)] at h;have h3 := laidMet.tail (laidMet.tail h);rw [aTs] at h3;have ht := Lib.tabIs_of_head (g := 0) (t := 204) (e := 197) (n := 20) (by kernel_rfl) (by kernel_rfl) (by kernel_rfl) (by kernel_rfl) (by kernel_rfl) (by kernel_rfl) h3;intro g y;cases y;unfold Lib.TabIs World.var? at ht;rw [show Tryz.prog.globalNamed "internal/strconv.uint64pow10" = some 0 by kernel_rfl] at ht;simp only [Cr] at ht;split at ht
 ·rename_i cs t fr q;simp only[Option.some.injEq] at ht;subst ht;exact⟨dE q,t,fr,q⟩
 ·cases ht
set_option maxRecDepth 100000 in
theorem sH (os:Os) (started:os.Started) (H:Type) (enc:TypeId×Value→H):
  ReturnsInHanded {} Tryz.checked os 3 .any (fun w args=>(Rows.liftTellsSpec.pre enc Tryz.prog Tryz.f3 Rows.liftTellsRow.domain false w args∧laidMetH Tryz.prog Rows.liftTellsRow.laid w)∧sizedMet enc Tryz.prog Tryz.f3 (OpenSpec.ofChange Rows.liftTellsSpec) false w args)
   (Rows.liftTellsSpec.post enc Tryz.prog Tryz.f3 false true false false):=by
 refine returnsInHanded_of_change_and (C:=Tryz.checked) (X:=fun w _=>laidMetH Tryz.prog Rows.liftTellsRow.laid w) (fun _ _ _ hh h=>h.of_heap hh) Tryz.own started (by kernel_rfl) Tryz.func3
  (ChangeSpec.witness_shaped (enc:=enc) (C:=Tryz.checked) (os:=os) (X:=fun w _=>laidMetH Tryz.prog Rows.liftTellsRow.laid w) false (World.laidAll Tryz.prog os Rows.liftTellsRow.laid) #[.slice none 0 0,.slice none 0 0] 8 (World.laidAll_os _ _ _)
   (World.shaped_of_ZipB (by kernel_rfl) (by kernel_rfl)) (by kernel_rfl) (by kernel_rfl) (by kernel_rfl)
   (by rw[MakeChecks.laidMetH_plain _ _ _ (by kernel_rfl)];exact laidMet_laidAll _ (by kernel_rfl) (by kernel_rfl))) ?_
 intro W base args ds gs before I hW hcnd ae hL _
 have y:∀(j:Nat) t v,Tryz.f3.params[j]?=some t→args[j]?=some v→Value.okWide Tryz.prog W .any base t v:=I
 have J:=hW
 obtain⟨p,q,ab,hV,rfl,hfz,hnd⟩:=hW
 have hA:DataW.TrodAll enc Tryz.prog W 0 (fun _=>true) true Tryz.f3.params.toList args.toList ds p:=ab
 rw[Tryz.params3] at hA y
 obtain⟨v0,v1,d0,d1,p0,p1,rfl,rfl,rfl,h0,h1⟩:=trodAll_two hA
 obtain⟨rfl,rfl⟩:=trodVars_none hV
 obtain⟨l0,Z,hr0,xl0,yl0,hd0⟩:=xW Tryz.underlying22 Tryz.underlying3 (by kernel_rfl) (y 0 22 v0 rfl rfl) h0
 obtain⟨l1,aa,hr1,xl1,yl1,hd1⟩:=xW Tryz.underlying22 Tryz.underlying3 (by kernel_rfl) (y 1 22 v1 rfl rfl) h1
 clear ab I
 simp only[A9] at J
 have ac:∀x∈p0,x.block<W.heap.size:=fun x hx=>by simpa using J.lt x (ω.2 (.inl hx))
 have ad:∀x∈p1,x.block<W.heap.size:=fun x hx=>by simpa using J.lt x (ω.2 (.inr (hx)))
 have O:(DataW.weightsEach Tryz.prog (Tryz.f3.params.toList++Rows.liftTellsSpec.plain.varTypes Tryz.prog) ([d0,d1]++[])).all (· ≤reachBytes)=true:=ae
 have hf0:Fits l0:=by
  unfold Fits
  rcases hd0 with⟨_,hd⟩ | ⟨rfl,hd⟩
  ·rw[hd];simp
  ·have:=sized_slice O (j:=0) (t:=22) (e:=3) rfl rfl Tryz.underlying22
   rw[show Tryz.prog.bytesOf 3=8 by kernel_rfl] at this
   have hb:=reachBytes_lt
   omega
 have hf1:Fits l1:=by
  unfold Fits
  rcases hd1 with⟨_,hd⟩ | ⟨rfl,hd⟩
  ·rw[hd];simp
  ·have:=sized_slice O (j:=1) (t:=22) (e:=3) rfl rfl Tryz.underlying22
   rw[show Tryz.prog.bytesOf 3=8 by kernel_rfl] at this
   have hb:=reachBytes_lt
   omega
 refine(aP6 (aHt l0 l1 hr0 hf0 hr1 hf1) W (vals:=[v0,v1]) ⟨_,_,rfl,Z,⟨_,_,rfl,aa,rfl⟩⟩ (ht:=a2o hL)).mono fun e W' ⟨v,S,μ,he,Y,hv⟩=>?_
 subst he
 rw[a00 hv]
 have hp0:=Below.trod Tryz.laidOut (by kernel_rfl) (ψ (by kernel_rfl)) h0 Y ac
 have hp1:=Below.trod Tryz.laidOut (by kernel_rfl) (ψ (by kernel_rfl)) h1 Y ad
 exact⟨_,rfl,⟨_,_,_,[],_,[],J,trodAll_mk1 (shut_bool Tryz.underlying4 true),trodAll_mk2 hp0 hp1,rfl,Y.frame _,fun h=>by cases h⟩⟩
theorem uV:Rows.LiftTellsSaid:=
 OpenClaim.holds_of_wide 3 Tryz.f3 rfl rfl rfl rfl rfl rfl rfl ⟨rfl,rfl,rfl,rfl,rfl⟩ rfl rfl rfl rfl rfl (by kernel_rfl) Tryz.func3 (by kernel_rfl)
  (ψ (by kernel_rfl)) (by unfold Func.isWrapper;first | (rw[κ (by decide+kernel)];kernel_rfl) | (rw[θ (by decide+kernel)];exact⟨rfl,rfl⟩))
  (fun os started H enc _=>sH os started H enc)
theorem liftTells_card_holds:Rows.LiftTellsCardSaid:=
 Claim7.holds_tied_plain_at .later [] [.data, .data, .data] true (true, "7c531ff1e9c4ad9a51ec771d2ba41da15575f10456dafc817f94f55c34f04d7b") false uV (fun _ h => by cases h) (by kernel_rfl) (fun _ h => by cases h) liftTells_row_tie rfl ⟨rfl, rfl⟩ (by kernel_rfl) rfl
  (fun f fn I y=>by
   obtain rfl : f = 3 := Option.some.inj ((show Tryz.prog.funcNamed "fugue/fuguelaw25.LiftTells" = some 3 by kernel_rfl).symm.trans I) |>.symm;obtain rfl : fn = Tryz.f3 := (Option.some.inj (Tryz.func3.symm.trans y)).symm
   exact⟨by kernel_rfl,fun j t ht=>by
    rw[Tryz.params3] at ht;have hm:t∈[22]:=by
     have:=Array.mem_of_getElem? ht;simp at this;simp
     first | omega | (rcases this with h | h | h<;>simp[h])
    have q:([22].all fun u=>!Tryz.prog.wantsStandIn u)=true:=by kernel_rfl
    exact(show Tryz.prog.wantsStandIn t=false by simpa using Au.1 q t hm)⟩)
  (by kernel_rfl)
end Go.Proofs.YtnjaiimffoninaaGreatDoor
