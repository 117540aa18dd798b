/-
  The law ReadPats: its row and its card.
-/
import Derived.Test.YtpmheldmadendaaGreatDoorM12
import Derived.Test.YtpmheldmadendaaGreatDoorCards
import Derived.Test.YtpmheldmadendaaGreatDoorTie
import Derived.ProofKit
import Derived.Lib.LaidTab
import Derived.Stop.LaidErr
import Derived.OpenShut
import Derived.ChangeMaps5
import Derived.LaidMore
import Derived.Lay
import Derived.SevenTiedAt
import Derived.Stop.Joined
open List (all_eq_true append_nil)
namespace Go.Proofs.YtpmheldmadendaaGreatDoor
open Go Go.ChangeShapes Go.WideShapes Go.ChangeAt Go.RowKit Go.AM
theorem Tryz.own:ownKnob Tryz.prog.godebug=none:=by kernel_rfl
theorem Tryz.laidOut:laidOutB Tryz.prog=true:=by kernel_rfl
theorem aF9:Rows.laid_internal_strconv_uint64pow10 (H:=Unit)=Lib.tabData .u64 Lib.pow10Tab:=by kernel_rfl
theorem aM0 {W:World}(h:laidMetH Tryz.prog Rows.readPatsRow.laid W):aIp W:=by
 rw [MakeChecks.laidMetH_plain _ _ _ (by kernel_rfl)] at h;have c := laidMet.tail (laidMet.tail h);rw [aF9] at c;have ht := Lib.tabIs_of_head (g := 1) (t := 260) (e := 239) (n := 20) (by kernel_rfl) (by kernel_rfl) (by kernel_rfl) (by kernel_rfl) (by kernel_rfl) (by kernel_rfl) c;intro g q;cases q;unfold Lib.TabIs World.var? at ht;rw [show Tryz.prog.globalNamed "internal/strconv.uint64pow10" = some 1 by kernel_rfl] at ht;simp only [B6] at ht;split at ht
 ·rename_i cs t r hq;simp only[Option.some.injEq] at ht;subst ht;exact⟨bQ hq,t,r,hq⟩
 ·cases ht
theorem aQc {n:Int}(h:(Lit.int .u8 n).wf=true):∃c:UInt8,n=(c.toNat:Int):=by
 have hb:=bounds_u8 h;exact⟨UInt8.ofNat n.toNat,by simp;omega⟩
theorem aN4 {n:Int}(h:(Lit.int .i64 n).wf=true):i64 n:=by
 simp only[Lit.wf,Aa,decide_eq_true_eq] at h;exact h
set_option maxRecDepth 100000 in
theorem nL (os:Os) (started:os.Started) (H:Type) (enc:TypeId×Value→H):
  ReturnsInHanded {} Tryz.checked os 5 .any (fun w args=>(Rows.readPatsSpec.pre enc Tryz.prog Tryz.f5 Rows.readPatsRow.domain false w args∧laidMetH Tryz.prog Rows.readPatsRow.laid w)∧sizedMet enc Tryz.prog Tryz.f5 (OpenSpec.ofChange Rows.readPatsSpec) false w args)
   (Rows.readPatsSpec.post enc Tryz.prog Tryz.f5 false true false false):=by
 refine returnsInHanded_of_change_and (C:=Tryz.checked) (X:=fun w _=>laidMetH Tryz.prog Rows.readPatsRow.laid w) (fun _ _ _ hh h=>h.of_heap hh) Tryz.own started (by kernel_rfl) Tryz.func5
  (ChangeSpec.witness_shaped (enc:=enc) (C:=Tryz.checked) (os:=os) (X:=fun w _=>laidMetH Tryz.prog Rows.readPatsRow.laid w) false (World.laidAll Tryz.prog os Rows.readPatsRow.laid) #[.string ⟨#[]⟩,.slice none 0 0,.int .i64 0,.int .u8 0] 8 (World.laidAll_os _ _ _)
   (World.shaped_of_ZipB (by kernel_rfl) (by kernel_rfl)) (by kernel_rfl) (by kernel_rfl) (by kernel_rfl)
   (by rw[MakeChecks.laidMetH_plain _ _ _ (by kernel_rfl)];exact laidMet_laidAll _ (by kernel_rfl) (by kernel_rfl))) ?_
 intro W base args ds gs before r Y hcnd hwt hL _
 have c:∀(j:Nat) t v,Tryz.f5.params[j]?=some t→args[j]?=some v→Value.okWide Tryz.prog W .any base t v:=r
 have y:=Y
 obtain⟨p,q,B,hV,rfl,hfz,hnd⟩:=Y
 have hA:DataW.TrodAll enc Tryz.prog W 0 (fun _=>true) true Tryz.f5.params.toList args.toList ds p:=B
 rw[Tryz.params5] at hA c
 obtain⟨v0,v1,v2,v3,d0,d1,d2,d3,p0,p1,p2,p3,rfl,rfl,rfl,h0,h1,h2,h3⟩:=trodAll_four hA
 obtain⟨rfl,rfl⟩:=trodVars_none hV
 obtain⟨b0,rfl,rfl,rfl,w0⟩:=Go.ChangeMaps.open_string Tryz.underlying9 (c 0 9 v0 rfl rfl) h0
 obtain⟨⟨I⟩⟩:=b0
 obtain⟨l1,A,hr1,xl1,yl1,hd1⟩:=aAf Tryz.underlying22 Tryz.underlying3 (by kernel_rfl) (c 1 22 v1 rfl rfl) h1
 obtain⟨J,rfl,rfl,rfl,w2⟩:=open_int Tryz.underlying3 (c 2 3 v2 rfl rfl) h2
 obtain⟨n3,rfl,rfl,rfl,w3⟩:=open_int Tryz.underlying5 (c 3 5 v3 rfl rfl) h3
 obtain⟨M,rfl⟩:=aQc w3
 clear B r
 simp only[Cm] at y
 have O:∀x∈p1,x.block<W.heap.size:=fun x hx=>by simpa using y.lt x (hx)
 have U:(DataW.weightsEach Tryz.prog (Tryz.f5.params.toList++Rows.readPatsSpec.plain.varTypes Tryz.prog) ([.lit (.string I),d1,.lit (.int .i64 J),.lit (.int .u8 (M.toNat:Int))]++[])).all (· ≤reachBytes)=true:=hwt
 have hf1:Fits l1:=by
  unfold Fits
  rcases hd1 with⟨_,hd⟩ | ⟨rfl,hd⟩
  ·rw[hd];simp
  ·have:=sized_slice U (j:=1) (t:=22) (e:=3) rfl rfl Tryz.underlying22
   rw[show Tryz.prog.bytesOf 3=8 by kernel_rfl] at this
   have hb:=reachBytes_lt
   omega
 refine(aDl (aA2 I l1 J M hr1 hf1 (aN4 w2)) W (vals:=[.string ⟨⟨I⟩⟩,v1,.int .i64 J,.int .u8 (M.toNat:Int)]) ⟨_,_,rfl,rfl,⟨_,_,rfl,A,⟨_,_,rfl,rfl,⟨_,_,rfl,rfl,rfl⟩⟩⟩⟩ (ht:=aM0 hL)).mono fun e W' ⟨v,S,μ,he,E,hv⟩=>?_
 subst he
 rw[aLu hv]
 have hp1:=Below.trod Tryz.laidOut (by kernel_rfl) (κ (by kernel_rfl)) h1 E O
 exact⟨_,rfl,⟨_,_,_,[],_,[],y,trodAll_mk1 (shut_bool Tryz.underlying4 true),trodAll_mk4 (Go.ChangeMaps.shut_string Tryz.underlying9 w0) hp1 (shut_int Tryz.underlying3 w2) (shut_int Tryz.underlying5 w3),rfl,E.frame _,fun h=>by cases h⟩⟩
theorem oI:Rows.ReadPatsSaid:=
 OpenClaim.holds_of_wide 5 Tryz.f5 rfl rfl rfl rfl rfl rfl rfl ⟨rfl,rfl,rfl,rfl,rfl⟩ rfl rfl rfl rfl rfl (by kernel_rfl) Tryz.func5 (by kernel_rfl)
  (κ (by kernel_rfl)) (by unfold Func.isWrapper;first | (rw[ξ (by decide+kernel)];kernel_rfl) | (rw[η (by decide+kernel)];exact⟨rfl,rfl⟩))
  (fun os started H enc _=>nL os started H enc)
theorem readPats_card_holds:Rows.ReadPatsCardSaid:=
 Claim7.holds_tied_plain_at .later [] [.data, .data, .data] true (true, "b08ef535e29a9b6e90379598c943ca8c3713ad18c93c0347aef6146b5595303c") true oI (fun _ h => by cases h) (by kernel_rfl) (fun _ h => by cases h) readPats_row_tie rfl ⟨rfl, rfl⟩ (by kernel_rfl) rfl
  (fun f fn r q=>by
   obtain rfl : f = 5 := Option.some.inj ((show Tryz.prog.funcNamed "fugue/fuguelaw06.ReadPats" = some 5 by kernel_rfl).symm.trans r) |>.symm;obtain rfl : fn = Tryz.f5 := (Option.some.inj (Tryz.func5.symm.trans q)).symm
   exact⟨by kernel_rfl,fun j t ht=>by
    rw[Tryz.params5] at ht;have hm:t∈[9,22,3,5]:=by
     have:=Array.mem_of_getElem? ht;simp at this;simp
     first | omega | (rcases this with h | h | h<;>simp[h])
    have c:([9,22,3,5].all fun u=>!Tryz.prog.wantsStandIn u)=true:=by kernel_rfl
    exact(show Tryz.prog.wantsStandIn t=false by simpa using A3.1 c t hm)⟩)
  (by kernel_rfl)
end Go.Proofs.YtpmheldmadendaaGreatDoor
