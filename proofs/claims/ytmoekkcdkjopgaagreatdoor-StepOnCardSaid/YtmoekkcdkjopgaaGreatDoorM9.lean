/-
  Texts Lg8 to Lg18 in one.
-/
import Derived.Test.YtmoekkcdkjopgaaGreatDoorM8
open List (all_eq_true append_assoc append_nil cons_append filter_cons flatMap_cons flatten_cons foldl_cons length_append length_cons length_drop length_eq_one_iff length_map length_set length_take map_cons map_nil map_set mem_append mem_cons mem_cons_of_mem mem_cons_self mem_filter mem_map mem_singleton nil_append set_cons_succ sum_cons take_add_one take_length take_of_length_le)
open Nat (add_zero beq_refl eq_of_beq_eq_true le_max_left le_max_right le_of_ble_eq_true le_refl le_trans min_eq_left mul_one sub_self zero_add zero_le)
namespace Go.Proofs.YtmoekkcdkjopgaaGreatDoor
open Go Go.AM
set_option maxRecDepth 20000
def tkA (l : List Str) : AObj := .arr 9 1 (l.map bN) 2
def tkV (l : List Str) : V := .one (.hs 720 0 l.length l.length)
def gpV (nG pG : List R) : V := .ma [.ras nG.length 1 nG, .ras pG.length 1 pG]
theorem tHW {tys : List Ty} {nk : Nat} {ns : List Str} {ps : List Core} : GW (tH tys nk ns ps) [] := ⟨tGW (tys := tys) (nk := nk) (ns := ns) (ps := ps).tf, fun x hx => (by cases hx), rfl, rfl⟩
theorem aDe {tys : List Ty} {nk : Nat} {ns : List Str} {ps : List Core} {n : Str} {l : List C} : jW ([Go.AM.T n, .pa l] ++ List.map V.one [R.vp 3 0]) (tG tys nk ns ps ++ []) = true := by
 refine mY (tHW (tys := tys) (nk := nk) (ns := ns) (ps := ps)).tf (fun x hx => .inl ?_) tGW.refs;have : x = 3 := by simpa [V.refsL, V.refs, R.refs] using hx
 subst this;simp [tG, keys]
theorem aWm (tys : List Ty) (nk : Nat) (ns : List Str) (ps : List Core) (s : Str) (b : Core) (sb : Core → Str → Core → Core) (P : Core → Prop) (hn : ns.length = tys.length) (hp : ps.length = nk + tys.length) (hok : PutOk sb P s b ps)
  (hM : (ps.flatMap pfR).length + 2 * ns.length + (pfR b).length + ps.length ≤ 540000000000) :
  aU Tryz.prog 68 [gpV (tN tys.length) (tP nk tys.length), Go.AM.T s, .pa (aC b)] (tH tys nk ns ps ++ []) (.tup []) (tH tys nk (dN sb s b ns ps).1 (dN sb s b ns ps).2 ++ []) := by
 have hF : TF [] := tHW (tys := tys) (nk := nk) (ns := ns) (ps := ps).tf;have hpl := aPi (nk := nk) (nb := tys.length);have hnl := aUi (nb := tys.length);have hkp : ∀ ex ns' ps', ∀ x ∈ R.refsL (tP nk tys.length), Kn ex (tH tys nk ns' ps') [] x := fun ex ns' ps' x hx => by
  rcases uY x hx with rfl | rfl
  ·exact .inr (.inl (by simp [tH, keys]))
  ·exact .inr (.inl (by simp [tH, keys]))
 have hkn : ∀ ex ns' ps', ∀ x ∈ R.refsL (tN tys.length), Kn ex (tH tys nk ns' ps') [] x := fun ex ns' ps' x hx => by
  have := aH7 x hx;subst this;exact .inr (.inl (by simp [tH, keys]))
 have hkg : ∀ ex ns' ps', ∀ x ∈ (grO (tN tys.length) (tP nk tys.length)).refs, Kn ex (tH tys nk ns' ps') [] x := fun ex ns' ps' x hx => by
  rcases aA2 x hx with rfl | rfl
  ·exact .inr (.inl (by simp [tH, keys]))
  ·exact .inr (.inl (by simp [tH, keys]))
 have hsz1 : ∀ ps' : List Core, ps'.length = ps.length → nk = (aQ (ps'.take nk)).length := fun ps' h => by rw [bC, length_map, length_take]; omega
 have hsz2 : ∀ (ns' : List Str) (ps' : List Core), ns'.length = ns.length → ps'.length = ps.length → tys.length = (aR (mkB tys ns' (ps'.drop nk))).length := fun ns' ps' h h' => by rw [bO, length_map, rE (by omega) (by rw [length_drop]; omega)]
 have hs1 := hsz1 ps rfl;have hs2 := hsz2 ns ps rfl rfl;refine sG hF (n := 92) tok Tryz.func68 rfl rfl rfl ?_;refine a8 (ag [] rfl ?_);refine a8 (ag [] rfl ?_);refine AWp.sub (Sub.own (t := 6) (id := 720) 9 1 rfl rfl) (AWp.sub (Sub.freeze (id := 720) rfl) ?_);refine a8 (a8 (ag [] rfl ?_));refine aB ?_;refine aL (fun j : Nat => mkt [(1, Go.AM.T s), (3, .one (.vp 3 0)), (5, .one (.vp 5 0)), (6, tkV ((ps.take j).flatMap pfR)), (17, .one (.ras (tP nk tys.length).length 1 (tP nk tys.length))), (18, I .i64 (((tP nk tys.length).length : Nat) : Int)), (19, I .i64 j)] ([(3, grO (tN tys.length) (tP nk tys.length)), (5, .var 37 (bB b)), (720, tkA ((ps.take j).flatMap pfR))] ++ tH tys nk ns ps) []) (fun j => j ≤ (tP nk tys.length).length) (fun j => (tP nk tys.length).length - j) 0 (zero_le _) ?_ ?_
 ·exact slG tHW (h1 := Kn.app Kn.nil (Kn.app (Kn.of rfl) (Kn.app (Kn.of rfl) (Kn.app (Kn.of rfl) (Kn.app (hkp _ _ _) Kn.nil))))) (h2 := ⟨hkg _ _ _, Kn.of rfl, Kn.of rfl, trivial⟩)
 ·intro j hj;refine a8 (ag [] rfl ?_);refine a8 (aA rfl (fun hb => ?_) (fun hb => ?_))
  ·have hlt : j < (tP nk tys.length).length := by
    have : (j : Int) < ((tP nk tys.length).length : Int) := of_decide_eq_true hb;omega
   obtain ⟨p, hpj⟩ := aK (show j < ps.length by omega);have hf := hok.free p (List.mem_of_getElem? hpj);have hst := aSj hpj;have hl1 := aV8 ps (j + 1);rw [hst, length_append] at hl1;have hq1 : (((ps.take j).flatMap pfR).map bN).length = ((ps.take j).flatMap pfR).length := length_map _;have hq2 : ((pfR p).map bN).length = (pfR p).length := length_map _;generalize (ps.take j).flatMap pfR = q at hst hl1 hq1 ⊢;refine aD ?_;by_cases hjk : j < nk
   ·have ht1 := aPk (nb := tys.length) hjk;have hrow : (aQ (ps.take nk))[j]? = some (aC p) := aWa (by rw [List.getElem?_take, if_pos hjk, hpj]);refine a8 (aB (a8 (ag [(0, .rowR j [.ep 702 j 0 nk])] rfl ?_)));refine aE mixed ?_;refine ak 4 [(3, .row j (aC p))] rfl ?_;refine kc hf ?_;refine ak 2 [] rfl ?_;refine az ?_;refine AWp.sub (Sub.freeze (id := 720) rfl) ?_;refine ag [] rfl ?_;refine ⟨j + 1, hlt, by dsimp only; omega, ?_⟩;dsimp only;rw [hst];exact slG tHW (h1 := Kn.app Kn.nil (Kn.app (Kn.of rfl) (Kn.app (Kn.of rfl) (Kn.app (Kn.of rfl) (Kn.app (hkp _ _ _) Kn.nil))))) (h2 := ⟨hkg _ _ _, Kn.of rfl, Kn.of rfl, trivial⟩) (he := ⟨rfl, rfl, rfl, Go.AM.hs_ren (by simp) (by simp), congrArg some (V.ren_id _).symm, rfl, rfl, trivial⟩) (hh := ⟨⟨_, rfl, .varS rfl⟩, ⟨_, rfl, .varS rfl⟩, ⟨_, rfl, .arrS (by simp)⟩, ⟨_, rfl, .arr⟩, ⟨_, rfl, .arr⟩, trivial⟩)
   ·obtain ⟨j', rfl⟩ : ∃ j', j = nk + j' := ⟨j - nk, by omega⟩
    have hjb : j' < tys.length := by omega
    obtain ⟨t, ht⟩ := aK hjb;obtain ⟨n, hnn⟩ := aK (show j' < ns.length by omega);have hd : (ps.drop nk)[j']? = some p := by rw [List.getElem?_drop]; exact hpj
    have ht1 := aPj (nk := nk) hjb;have hrow : (aR (mkB tys ns (ps.drop nk)))[j']? = some (bA (.mk n t p)) := dC (tS ht hnn hd);refine a8 (aB (a8 (ag [(0, .rowR (nk + j') [.ep 701 j' 5 tys.length])] rfl ?_)));refine aE mixed ?_;refine ak 4 [(3, .row j' (bA (.mk n t p)))] rfl ?_;refine kc hf ?_;refine ak 2 [] rfl ?_;refine az ?_;refine AWp.sub (Sub.freeze (id := 720) rfl) ?_;refine ag [] rfl ?_;refine ⟨nk + j' + 1, hlt, by dsimp only; omega, ?_⟩;dsimp only;rw [hst];exact slG tHW (h1 := Kn.app Kn.nil (Kn.app (Kn.of rfl) (Kn.app (Kn.of rfl) (Kn.app (Kn.of rfl) (Kn.app (hkp _ _ _) Kn.nil))))) (h2 := ⟨hkg _ _ _, Kn.of rfl, Kn.of rfl, trivial⟩) (he := ⟨rfl, rfl, rfl, Go.AM.hs_ren (by simp) (by simp), congrArg some (V.ren_id _).symm, rfl, rfl, trivial⟩) (hh := ⟨⟨_, rfl, .varS rfl⟩, ⟨_, rfl, .varS rfl⟩, ⟨_, rfl, .arrS (by simp)⟩, ⟨_, rfl, .arr⟩, ⟨_, rfl, .arr⟩, trivial⟩)
  have hge : j = ps.length := by
   have : ¬ (j : Int) < ((tP nk tys.length).length : Int) := of_decide_eq_false hb;omega
  subst hge;rw [take_length];refine aM ?_;have hct := bW (ps.flatMap pfR) s (by omega);refine a8 (a8 (aE mixed ?_));refine ak 2 [] rfl ?_;refine kc hct ?_;refine ak 1 [] rfl ?_;refine az ?_;refine aA rfl (fun hb => ?_) (fun hb => ?_)
  ·have hno : ¬ s ∈ ps.flatMap pfR := by
    intro h;have hb : (!decide (s ∈ ps.flatMap pfR)) = true := hb;rw [decide_eq_true h] at hb; cases hb
   have he : dN sb s b ns ps = (ns, ps) := by unfold dN; rw [if_neg fun h => hno h.1]
   rw [he];exact aI ⟨.inr rfl, aBw hF (by repeat (first | exact FarEq.raw hF | (refine FarEq.updL hF ?_) | (refine FarEq.upd hF ?_))) ⟨[], [], .nil, .nil, rfl⟩ (fun _ h => by cases h) tHW.refs (fun i hi => GW.kf i hi) (fun p hp => by rcases mem_append.1 hp with hp | hp; exact (all_eq_true.1 (tHW (tys := tys) (nk := nk) (ns := ns) (ps := ps)).plain) p hp; cases hp)⟩
  have hin : s ∈ ps.flatMap pfR := by
   have hb : (!decide (s ∈ ps.flatMap pfR)) = false := hb;by_cases h : s ∈ ps.flatMap pfR
   ·exact h
   ·rw [decide_eq_false h] at hb; cases hb
  refine aD ?_;refine a8 (a8 (ag [] rfl ?_));refine aB ?_;refine aL (fun j : Nat => mkt [(1, Go.AM.T s), (3, .one (.vp 3 0)), (5, .one (.vp 5 0)), (6, tkV (ps.flatMap pfR ++ ns.take j)), (35, .one (.ras (tN tys.length).length 1 (tN tys.length))), (36, I .i64 (((tN tys.length).length : Nat) : Int)), (37, I .i64 j)] ([(3, grO (tN tys.length) (tP nk tys.length)), (5, .var 37 (bB b)), (720, tkA (ps.flatMap pfR ++ ns.take j))] ++ tH tys nk ns ps) []) (fun j => j ≤ (tN tys.length).length ∧ ¬ s ∈ ns.take j) (fun j => (tN tys.length).length - j) 0 ⟨zero_le _, by simp⟩ ?_ ?_
  ·exact slG tHW (h1 := Kn.app Kn.nil (Kn.app (Kn.of rfl) (Kn.app (Kn.of rfl) (Kn.app (Kn.of rfl) (Kn.app (hkn _ _ _) Kn.nil))))) (h2 := ⟨hkg _ _ _, Kn.of rfl, Kn.of rfl, trivial⟩) (he := ⟨rfl, rfl, rfl, Go.AM.hs_ren (by simp) (by simp), congrArg some (V.ren_id _).symm, rfl, rfl, trivial⟩) (hh := ⟨⟨_, rfl, .varS rfl⟩, ⟨_, rfl, .varS rfl⟩, ⟨_, rfl, .arrS (by simp)⟩, ⟨_, rfl, .arr⟩, ⟨_, rfl, .arr⟩, trivial⟩)
  rintro j ⟨hj, hnos⟩;refine a8 (ag [] rfl ?_);refine a8 (aA rfl (fun hb => ?_) (fun hb => ?_))
  ·have hlt : j < (tN tys.length).length := by
    have : (j : Int) < ((tN tys.length).length : Int) := of_decide_eq_true hb;omega
   have hjb : j < tys.length := by omega
   obtain ⟨t, ht⟩ := aK hjb;obtain ⟨n, hnn⟩ := aK (show j < ns.length by omega);obtain ⟨p, hpj⟩ := aK (show nk + j < ps.length by omega);have hd : (ps.drop nk)[j]? = some p := by rw [List.getElem?_drop]; exact hpj
   have ht1 := aUj hjb;have hrow : (aR (mkB tys ns (ps.drop nk)))[j]? = some (bA (.mk n t p)) := dC (tS ht hnn hd);have hstp : ns.take (j + 1) = ns.take j ++ [n] := by rw [take_add_one, hnn]; rfl
   have hq1 : ((ps.flatMap pfR ++ ns.take j).map bN).length = (ps.flatMap pfR ++ ns.take j).length := length_map _;have hql : (ps.flatMap pfR ++ ns.take j).length ≤ 540000000000 := by rw [length_append, length_take]; omega
   refine aD ?_;refine a8 (aB (a8 (ag [(0, .rowR j [.ep 701 j 0 tys.length])] rfl ?_)));refine a8 (a8 (ag [(2, .row j (bA (.mk n t p)))] rfl ?_));refine aA rfl (fun hb => ?_) (fun hb => ?_)
   ·have hns : n = s := of_decide_eq_true hb;have he : dN sb s b ns ps = (ns, ps) := by
     unfold dN;rw [if_neg fun h => h.2 (hns ▸ List.mem_of_getElem? hnn)]
    rw [he];exact aI ⟨.inr rfl, aBw hF (by repeat (first | exact FarEq.raw hF | (refine FarEq.updL hF ?_) | (refine FarEq.upd hF ?_))) ⟨[], [], .nil, .nil, rfl⟩ (fun _ h => by cases h) tHW.refs (fun i hi => GW.kf i hi) (fun p hp => by rcases mem_append.1 hp with hp | hp; exact (all_eq_true.1 (tHW (tys := tys) (nk := nk) (ns := ns) (ps := ps)).plain) p hp; cases hp)⟩
   have hns : ¬ n = s := of_decide_eq_false hb;refine aD ?_;generalize ps.flatMap pfR = fm at *;rw [show fm ++ ns.take j = fm ++ ns.take j from rfl];generalize hq : fm ++ ns.take j = q at *;refine ag [(3, .row j (bA (.mk n t p)))] rfl ?_;refine AWp.sub (Sub.freeze (id := 720) rfl) ?_;refine ag [] rfl ?_;refine ⟨j + 1, ⟨hlt, ?_⟩, by dsimp only; omega, ?_⟩
   ·rw [hstp];intro h;rcases mem_append.1 h with h | h
    ·exact hnos h
    ·exact hns (mem_singleton.1 h).symm
   dsimp only;rw [hstp, ← append_assoc, hq];exact slG tHW (h1 := Kn.app Kn.nil (Kn.app (Kn.of rfl) (Kn.app (Kn.of rfl) (Kn.app (Kn.of rfl) (Kn.app (hkn _ _ _) Kn.nil))))) (h2 := ⟨hkg _ _ _, Kn.of rfl, Kn.of rfl, trivial⟩) (he := ⟨rfl, rfl, rfl, Go.AM.hs_ren (by simp) (by simp), congrArg some (V.ren_id _).symm, rfl, rfl, trivial⟩) (hh := ⟨⟨_, rfl, .varS rfl⟩, ⟨_, rfl, .varS rfl⟩, ⟨_, rfl, .arrS (by simp [bN, Bind.name])⟩, ⟨_, rfl, .arr⟩, ⟨_, rfl, .arr⟩, trivial⟩)
  have hge : j = ns.length := by
   have : ¬ (j : Int) < ((tN tys.length).length : Int) := of_decide_eq_false hb;omega
  subst hge;rw [take_length] at hnos ⊢;have hput : dN sb s b ns ps = ((gSt sb b ns ps ns.length).1, (gSt sb b ns ps ns.length).2.1.map fun p => sb p s b) := by
   unfold dN;rw [if_pos ⟨hin, hnos⟩, aKc]
  have hql : (ps.flatMap pfR ++ ns).length ≤ 540000000000 := by rw [length_append]; omega
  have hq1 : ((ps.flatMap pfR ++ ns).map bN).length = (ps.flatMap pfR ++ ns).length := length_map _;have hq2 : ((pfR b).map bN).length = (pfR b).length := length_map _;have hfar := hok.far;refine aM ?_;refine a8 (aE mixed ?_);refine ak 1 [] rfl ?_;refine kc hfar ?_;refine ak 1 [] rfl ?_;refine az ?_;have hlq : (ps.flatMap pfR ++ ns).length + (pfR b).length ≤ 540000000000 := by rw [length_append]; omega
  refine a8 (ag [] rfl ?_);refine AWp.sub (Sub.freeze (id := 720) rfl) ?_;refine a8 (ag [] rfl ?_);refine a8 (a8 (ag [] rfl ?_));refine aB ?_;have hall : ∀ i, i ≤ ns.length → (gSt sb b ns ps i).2.2.length ≤ 540000000000 := fun i hi => by
   have h1 := (gO (sb := sb) (b := b) (ps := ps) hi).2.2
   simp only [length_append] at h1;omega
  refine aL (fun i : Nat => mkt [(1, Go.AM.T s), (5, .one (.vp 5 0)), (6, tkV (gSt sb b ns ps i).2.2), (11, bU (pfR b)), (12, .one (.clo 131 [.vp 3 0])), (60, .one (.ras (tN tys.length).length 1 (tN tys.length))), (61, I .i64 (((tN tys.length).length : Nat) : Int)), (62, I .i64 i)] ([(3, grO (tN tys.length) (tP nk tys.length)), (5, .var 37 (bB b)), (720, tkA (gSt sb b ns ps i).2.2)] ++ tH tys nk (gNs sb b ns ps i) (gSt sb b ns ps i).2.1) []) (fun i => i ≤ (tN tys.length).length) (fun i => (tN tys.length).length - i) 0 (zero_le _) ?_ ?_
  ·rw [wD, aEq];exact slG tHW (h1 := Kn.app Kn.nil (Kn.app (Kn.of rfl) (Kn.app (Kn.of rfl) (Kn.app Kn.nil (Kn.app (Kn.of rfl) (Kn.app (hkn _ _ _) Kn.nil)))))) (h2 := ⟨hkg _ _ _, Kn.of rfl, Kn.of rfl, trivial⟩) (he := ⟨rfl, rfl, Go.AM.hs_ren (by simp only [length_append, length_map]) (by simp only [length_append, length_map]), rfl, rfl, congrArg some (V.ren_id _).symm, rfl, rfl, trivial⟩) (hh := ⟨⟨_, rfl, .varS rfl⟩, ⟨_, rfl, .varS rfl⟩, ⟨_, rfl, .arrS (by simp)⟩, ⟨_, rfl, .arr⟩, ⟨_, rfl, .arr⟩, trivial⟩)
  intro i hi;have hle : i ≤ ns.length := by omega
  refine a8 (ag [] rfl ?_);refine a8 (aA rfl (fun hb => ?_) (fun hb => ?_))
  ·have hlt : i < (tN tys.length).length := by
    have : (i : Int) < ((tN tys.length).length : Int) := of_decide_eq_true hb;omega
   have hjb : i < tys.length := by omega
   obtain ⟨t, ht⟩ := aK hjb;obtain ⟨n, hnn⟩ := aK (show i < ns.length by omega);obtain ⟨hg1, hg2, hg3⟩ := gO (sb := sb) (b := b) (ps := ps) hle;have hgl := aKf (sb := sb) (b := b) (ps := ps) hle;have hga := aQe (sb := sb) (b := b) (ps := ps) hnn;have hP := aKd hok hle (hall i hle) (fun j hj => hall j (by omega));have hs3 := hsz1 _ hg2;have hs4 := hsz2 _ _ hgl hg2;have hsucc := nN (sb := sb) (b := b) (ps := ps) hnn;have hnin := aQd (sb := sb) (b := b) (ps := ps) hnn;have hnout := aKe (sb := sb) (b := b) (ps := ps) hnn;have hall0 := hall i hle;have ht1 := aUj hjb;have hcf := bW (pfR b) n (by omega);have hcr := wW (gSt sb b ns ps i).2.2 (by omega) fun k hk => hok.itoa k (by omega)
   generalize gSt sb b ns ps i = G at *;generalize gNs sb b ns ps i = N at *;obtain ⟨d0, qs, tk⟩ := G;dsimp only at *;obtain ⟨p, hpj⟩ := aK (show nk + i < qs.length by omega);have hd : (qs.drop nk)[i]? = some p := by rw [List.getElem?_drop]; exact hpj
   have hrow : (aR (mkB tys N (qs.drop nk)))[i]? = some (bA (.mk n t p)) := dC (tS ht hga hd);refine aD ?_;refine a8 (aB (a8 (ag [(0, .rowR i [.ep 701 i 0 tys.length])] rfl ?_)));refine a8 (aE mixed ?_);refine ak 4 [(3, .row i (bA (.mk n t p)))] rfl ?_;refine kc hcf ?_;refine az ?_;refine aA rfl (fun hb => ?_) (fun hb => ?_)
   ·have hmem : n ∈ pfR b := of_decide_eq_true hb;have hnin := hnin hmem;unfold fI at hsucc;rw [if_pos hmem] at hsucc;dsimp only at hsucc;have hz : (b8 tk).length ≤ 30 := le_trans (jD _ hall0) (by omega);have hca := aQy tys nk N qs n (vC (b8 tk)) (fun p => sb p n (vC (b8 tk))) (by omega) (by omega) (by omega) fun p hp => hok.subz p n _ (hP p hp) hz
    have hcv := rV (b8 tk);have hqt : (tk.map bN).length = tk.length := length_map _;generalize b8 tk = z at *;refine a8 (aE mixed ?_);refine ak 1 [] rfl ?_;refine kc hcr ?_;refine ak 1 [] rfl ?_;refine az ?_;refine a8 (ag [] rfl ?_);refine AWp.sub (Sub.freeze (id := 720) rfl) ?_;refine a8 (aE mixed ?_);refine ak 5 [(3, .row i (bA (.mk n t p)))] rfl ?_;refine kc hcv ?_;refine kv (caps := [.vp 3 0]) (args := [Go.AM.T n, .pa (aC (vC z))]) hca ?_ (hok := aDe);refine az ?_;have hml : (qs.map fun p => sb p n (vC z)).length = ps.length := by rw [length_map]; exact hg2
    have hd2 : ((qs.map fun p => sb p n (vC z)).drop nk)[i]? = some (sb p n (vC z)) := by rw [List.getElem?_drop, List.getElem?_map, hpj]; rfl
    have hrow2 : (aR (mkB tys N ((qs.map fun p => sb p n (vC z)).drop nk)))[i]? = some (bA (.mk n t (sb p n (vC z)))) := dC (tS ht hga hd2);have hs5 := hsz1 _ hml;have hs6 := hsz2 _ _ hgl hml;refine ag [(3, .row i (bA (.mk n t (sb p n (vC z)))))] rfl ?_;refine ag [] rfl ?_;refine ⟨i + 1, hlt, by dsimp only; omega, ?_⟩;dsimp only;rw [hsucc, hnin];dsimp only;refine slG tHW (fun i hi => GW.kf i hi) (h1 := Kn.app Kn.nil (Kn.app (Kn.of rfl) (Kn.app (Kn.of rfl) (Kn.app Kn.nil (Kn.app (Kn.of rfl) (Kn.app (hkn _ _ _) Kn.nil)))))) (h2 := ⟨hkg _ _ _, Kn.of rfl, Kn.of rfl, trivial⟩) (he := ⟨rfl, rfl, Go.AM.hs_ren (by simp) (by simp), rfl, rfl, congrArg some (V.ren_id _).symm, rfl, rfl, trivial⟩) (hh := ⟨⟨_, rfl, .varS rfl⟩, ⟨_, rfl, .varS rfl⟩, ⟨_, rfl, .arrS (by simp [bN])⟩, ⟨_, rfl, .arrS ?_⟩, ⟨_, rfl, .arr⟩, trivial⟩);rw [← aEb z ht hd2 (by omega), ← j0];rfl
   ·have hmem : ¬ n ∈ pfR b := of_decide_eq_false hb;unfold fI at hsucc;rw [if_neg hmem] at hsucc;dsimp only at hsucc;refine aD ?_;refine ag [] rfl ?_;refine ⟨i + 1, hlt, by dsimp only; omega, ?_⟩;dsimp only;rw [hsucc, hnout hmem];exact slG tHW (fun i hi => GW.kf i hi) (h1 := Kn.app Kn.nil (Kn.app (Kn.of rfl) (Kn.app (Kn.of rfl) (Kn.app Kn.nil (Kn.app (Kn.of rfl) (Kn.app (hkn _ _ _) Kn.nil)))))) (h2 := ⟨hkg _ _ _, Kn.of rfl, Kn.of rfl, trivial⟩)
  have hge : i = ns.length := by
   have : ¬ (i : Int) < ((tN tys.length).length : Int) := of_decide_eq_false hb;omega
  subst hge;have hP := aKd hok (le_refl ns.length) (hall _ (le_refl _)) (fun j hj => hall j hj);obtain ⟨hg1, hg2, _⟩ := gO (sb := sb) (b := b) (ps := ps) (le_refl ns.length);rw [hput];rw [aKg];generalize gSt sb b ns ps ns.length = G at *;obtain ⟨N, qs, tk⟩ := G;dsimp only at *;have hca := aQy tys nk N qs s b (fun p => sb p s b) (by omega) (by omega) (by omega) fun p hp => hok.subb p (hP p hp)
  refine aM ?_;refine aE mixed ?_;refine ak 3 [] rfl ?_;refine kv (caps := [.vp 3 0]) (args := [Go.AM.T s, .pa (aC b)]) hca ?_ (hok := aDe);refine az ?_;exact ⟨.inl rfl, aBw hF (FarEq.outs hF) ⟨[], [], .nil, .nil, rfl⟩ (fun _ h => by cases h) tHW.refs (fun i hi => GW.kf i hi) (fun p hp => by rcases mem_append.1 hp with hp | hp; exact (all_eq_true.1 (tHW (tys := tys) (nk := nk) (ns := ns) (ps := ps)).plain) p hp; cases hp)⟩
def aDm (af an : Int) (anm : Str) (nv : Nat) (p : Core) : List R := [.c (.int .i64 af), .c (.int .i64 an), .c (.str anm), .hs 704 0 nv nv] ++ (aC p).map R.c
def aH (rs : List (List R)) (k : Nat) (af an : Int) (anm : Str) (nv : Nat) (ns : List Str) (p : Core) : List (Nat × AObj) := [(703, .rarr 78 14 (rs.set k (aDm af an anm nv p))), (704, .arr 9 1 (ns.map bN) 0)]
def aN (nv : Nat) : List R := (rgR (fun j => [.ep 704 j 0 nv]) nv).flatten
def aP (k na : Nat) : List R := [.rp 703 k 4 na]
theorem aQ7 {nv : Nat} : (aN nv).length = nv := by
 unfold aN;rw [lL (qV fun _ => rfl), fX, mul_one]
theorem aW7 {nv j : Nat} (h : j < nv) : ((aN nv).drop (j * 1)).take 1 = [.ep 704 j 0 nv] := eI (qV fun _ => rfl) j _ (aDn h)
theorem aMd {nv : Nat} : ∀ x ∈ R.refsL (aN nv), x = 704 := fun x hx => by
 unfold aN at hx;rw [dB] at hx;exact lC (L := fun x => x = 704) (fun j x hx => by simpa [R.refsL, R.refs] using hx) _ x hx
theorem aCc {k na nv : Nat} : ∀ x ∈ (grO (aN nv) (aP k na)).refs, x = 703 ∨ x = 704 := fun x hx => by
 have hx : x ∈ R.refsL (aN nv) ++ (R.refsL (aP k na) ++ []) := hx;rw [append_nil] at hx;rcases mem_append.1 hx with hx | hx
 ·exact .inr (aMd x hx)
 ·exact .inl (by simpa [aP, R.refsL, R.refs] using hx)
theorem xZ {x : Nat} : ∀ {rs : List (List R)} {k : Nat} {r : List R}, x ∈ c8 (rs.set k r) → x ∈ c8 rs ∨ x ∈ R.refsL r
 | [], _, _, h => .inl h
 | q :: rs, 0, r, h => by
  rcases mem_append.1 (show x ∈ R.refsL r ++ c8 rs from h) with h | h
  ·exact .inr h
  ·exact .inl (mem_append.2 (.inr h))
 | q :: rs, k + 1, r, h => by
  rcases mem_append.1 (show x ∈ R.refsL q ++ c8 (rs.set k r) from h) with h | h
  ·exact .inl (mem_append.2 (.inl h))
  ·exact (xZ h).imp (fun h => mem_append.2 (.inr h)) id
theorem aIk {af an : Int} {anm : Str} {nv : Nat} {p : Core} {x : Nat} (h : x ∈ R.refsL (aDm af an anm nv p)) : x = 704 := by
 unfold aDm aC at h;simpa [R.refsL, R.refs] using h
abbrev aG (rs : List (List R)) (k : Nat) (af an : Int) (anm : Str) (nv : Nat) (ns : List Str) (p : Core) : List (Nat × AObj) := (3, grO (aN nv) (aP k rs.length)) :: aH rs k af an anm nv ns p
section
variable {rs : List (List R)} {k : Nat} {af an : Int} {anm : Str} {nv : Nat} {ns : List Str} {p : Core} {F : List (Nat × AObj)}
theorem aHW (hF : TF F) (hr : ∀ x ∈ c8 rs, x ∈ keys F) : GW (aH rs k af an anm nv ns p) F := ⟨hF, fun x hx => by
 have hx : x ∈ c8 (rs.set k (aDm af an anm nv p)) ++ [] := hx;rw [append_nil] at hx;rcases xZ hx with h | h
 ·exact .inr (hr x h)
 ·rw [aIk h]; exact .inl (by simp [aH, keys]), rfl, rfl⟩
theorem aGW (hF : TF F) (hr : ∀ x ∈ c8 rs, x ∈ keys F) : GW (aG rs k af an anm nv ns p) F := ⟨hF, fun x hx => by
 rcases mem_append.1 (show x ∈ (grO (aN nv) (aP k rs.length)).refs ++ dG (aH rs k af an anm nv ns p) from hx) with hx | hx
 ·rcases aCc x hx with rfl | rfl
  ·exact .inl (by simp [aG, aH, keys])
  ·exact .inl (by simp [aG, aH, keys])
 ·exact ((aHW hF hr).refs x hx).imp (fun h => mem_cons_of_mem _ h) id, rfl, rfl⟩
end
theorem aUp {rs : List (List R)} {k : Nat} {r r' : List R} : (rs.set k r).set k r' = rs.set k r' := List.set_set ..
theorem aQz (rs : List (List R)) (k : Nat) (af an : Int) (anm : Str) (nv : Nat) (ns : List Str) (p : Core) (F : List (Nat × AObj)) (nm : Str) (b : Core) (sb : Core → Core) (hF : TF F) (hr : ∀ x ∈ c8 rs, x ∈ keys F) (hk : k < rs.length)
  (hc : aU Tryz.prog 25 [.pa (aC p), Go.AM.T nm, .pa (aC b)] [] (.pa (aC (sb p))) []) :
  aU Tryz.prog 131 [Go.AM.T nm, .pa (aC b), .one (.vp 3 0)] (aG rs k af an anm nv ns p ++ F) (.tup []) (aG rs k af an anm nv ns (sb p) ++ F) := by
 have W : ∀ p, GW (aG rs k af an anm nv ns p) F := fun p => aGW hF hr
 have hsz : rs.length = (rs.set k (aDm af an anm nv p)).length := (length_set ..).symm;have hrow : (rs.set k (aDm af an anm nv p))[k]? = some (aDm af an anm nv p) := List.getElem?_set_self hk;refine sG hF (n := 23) tok Tryz.func131 rfl rfl rfl ?_;refine a8 (ag [] rfl ?_);refine a8 (ag [] rfl ?_);refine aB ?_;refine aL (fun j : Nat => mkt [(0, Go.AM.T nm), (2, .one (.vp 3 0)), (4, .one (.vp 4 0)), (8, .one (.ras 1 1 (aP k rs.length))), (9, I .i64 ((1 : Nat) : Int)), (10, I .i64 j)] ([(4, .var 37 (bB b))] ++ aG rs k af an anm nv ns (if j = 0 then p else sb p)) F) (fun j => j ≤ 1) (fun j => 1 - j) 0 (zero_le _) ?_ ?_
 ·exact slG (W _)
 intro j hj;refine a8 (ag [] rfl ?_);refine a8 (aA rfl (fun hb => ?_) (fun hb => ?_))
 ·have hj0 : j = 0 := by
   have : (j : Int) < ((1 : Nat) : Int) := of_decide_eq_true hb;omega
  subst hj0;rw [if_pos rfl];refine aD ?_;refine a8 (aB (a8 (ag [] rfl ?_)));refine aE mixed ?_;refine ak 6 [(3, .rr (aDm af an anm nv p))] rfl ?_;refine kc hc ?_;refine ak 2 [(8, .rr (aDm af an anm nv p))] rfl ?_;refine az ?_;refine ag [] rfl ?_;refine ⟨1, le_refl _, by dsimp only; omega, ?_⟩;dsimp only;rw [if_neg (by decide)];exact slG (W _) (fun i hi => GW.kf i hi) (hh := ⟨⟨_, rfl, .varS rfl⟩, ⟨_, rfl, .varS rfl⟩, ⟨_, rfl, .rarrS aUp⟩, ⟨_, rfl, .arr⟩, trivial⟩)
 have hge : j = 1 := by
  have : ¬ (j : Int) < ((1 : Nat) : Int) := of_decide_eq_false hb;omega
 subst hge;rw [if_neg (by decide)];refine aM ?_;exact ⟨.inl rfl, aBw hF (by repeat (first | exact FarEq.raw hF | (refine FarEq.updL hF ?_) | (refine FarEq.upd hF ?_))) ⟨[], [], .nil, .nil, rfl⟩ (fun _ h => by cases h) (W _).refs (fun i hi => GW.kf i hi) (fun q hq => by rcases mem_append.1 hq with hq | hq; exact (all_eq_true.1 (W p).plain) q hq; exact (hF.ok q hq).2)⟩
theorem aFp {rs : List (List R)} {k : Nat} {af an : Int} {anm : Str} {nv : Nat} {ns : List Str} {p : Core} {F : List (Nat × AObj)} (hF : TF F) (hr : ∀ x ∈ c8 rs, x ∈ keys F) {n : Str} {l : List C} : jW ([Go.AM.T n, .pa l] ++ List.map V.one [R.vp 3 0]) (aG rs k af an anm nv ns p ++ F) = true := by
 refine mY hF (fun x hx => .inl ?_) (aGW hF hr).refs;have : x = 3 := by simpa [V.refsL, V.refs, R.refs] using hx
 subst this;simp [aG, keys]
theorem aW6 {rs : List (List R)} {k : Nat} {af an : Int} {anm : Str} {nv : Nat} {ns ns' : List Str} {p p' : Core} {F : List (Nat × AObj)} {h : cK} : eQ (fun q => q.1 ∈ keys (aG rs k af an anm nv ns p ++ F) ∨ h q.1 = none) (aG rs k af an anm nv ns' p' ++ F) := eQ.of fun q hq => .inl (by
 have h1 : q.1 ∈ keys (aG rs k af an anm nv ns' p' ++ F) := mem_map.2 ⟨q, hq, rfl⟩
 exact h1)
theorem aWo (rs : List (List R)) (k : Nat) (af an : Int) (anm : Str) (nv : Nat) (ns : List Str) (p : Core) (F : List (Nat × AObj)) (s : Str) (b : Core) (sb : Core → Str → Core → Core) (P : Core → Prop) (hF : TF F) (hr : ∀ x ∈ c8 rs, x ∈ keys F) (hk : k < rs.length) (hn : ns.length = nv) (hok : PutOk sb P s b [p])
  (hM : (pfR p).length + 2 * ns.length + (pfR b).length + 1 ≤ 540000000000) :
  ∃ q, (dN sb s b ns [p]).2 = [q] ∧ aU Tryz.prog 68 [gpV (aN nv) (aP k rs.length), Go.AM.T s, .pa (aC b)] (aH rs k af an anm nv ns p ++ F) (.tup []) (aH rs k af an anm nv (dN sb s b ns [p]).1 q ++ F) := by
 have hln := (pT (sb := sb) (s := s) (b := b) (ns := ns) (ps := [p])).2
 obtain ⟨q, hq⟩ : ∃ q, (dN sb s b ns [p]).2 = [q] := length_eq_one_iff.1 hln;refine ⟨q, hq, ?_⟩;have hnl := aQ7 (nv := nv);have W : ∀ ns p, GW (aH rs k af an anm nv ns p) F := fun _ _ => aHW hF hr
 have hkn : ∀ ex ns' p', ∀ x ∈ R.refsL (aN nv), Kn ex (aH rs k af an anm nv ns' p') F x := fun ex ns' p' x hx => by
  have := aMd x hx;subst this;exact .inr (.inl (by simp [aH, keys]))
 have hkg : ∀ ex ns' p', ∀ x ∈ (grO (aN nv) (aP k rs.length)).refs, Kn ex (aH rs k af an anm nv ns' p') F x := fun ex ns' p' x hx => by
  rcases aCc x hx with rfl | rfl
  ·exact .inr (.inl (by simp [aH, keys]))
  ·exact .inr (.inl (by simp [aH, keys]))
 have hsz : ∀ p, rs.length = (rs.set k (aDm af an anm nv p)).length := fun p => (length_set ..).symm
 have hrow : ∀ p, (rs.set k (aDm af an anm nv p))[k]? = some (aDm af an anm nv p) := fun p => List.getElem?_set_self hk
 have hszp := hsz p;have hrowp := hrow p;have hfl : ([p] : List Core).flatMap pfR = pfR p := by simp
 have hkl : nv = (ns.map bN).length := by rw [length_map]; exact hn.symm
 have hf := hok.free p (by simp);have hq0 : ((pfR p).map bN).length = (pfR p).length := length_map _;refine sG hF (n := 92) tok Tryz.func68 rfl rfl rfl ?_;refine a8 (ag [] rfl ?_);refine a8 (ag [] rfl ?_);refine AWp.sub (Sub.own (t := 6) (id := 720) 9 1 rfl rfl) (AWp.sub (Sub.freeze (id := 720) rfl) ?_);refine a8 (a8 (ag [] rfl ?_));refine aB ?_;refine aL (fun j : Nat => mkt [(1, Go.AM.T s), (3, .one (.vp 3 0)), (5, .one (.vp 5 0)), (6, tkV (if j = 0 then [] else pfR p)), (17, .one (.ras 1 1 (aP k rs.length))), (18, I .i64 ((1 : Nat) : Int)), (19, I .i64 j)] ([(3, grO (aN nv) (aP k rs.length)), (5, .var 37 (bB b)), (720, tkA (if j = 0 then [] else pfR p))] ++ aH rs k af an anm nv ns p) F) (fun j => j ≤ 1) (fun j => 1 - j) 0 (zero_le _) ?_ ?_
 ·exact slG (W _ _) (h2 := ⟨hkg _ _ _, Kn.of rfl, Kn.of rfl, trivial⟩)
 ·intro j hj;refine a8 (ag [] rfl ?_);refine a8 (aA rfl (fun hb => ?_) (fun hb => ?_))
  ·have hj0 : j = 0 := by
    have : (j : Int) < ((1 : Nat) : Int) := of_decide_eq_true hb;omega
   subst hj0;rw [if_pos rfl];refine aD ?_;refine a8 (aB (a8 (ag [] rfl ?_)));refine aE mixed ?_;refine ak 4 [(3, .rr (aDm af an anm nv p))] rfl ?_;refine kc hf ?_;refine ak 2 [] rfl ?_;refine az ?_;refine AWp.sub (Sub.freeze (id := 720) rfl) ?_;refine ag [] rfl ?_;refine ⟨1, le_refl _, by dsimp only; omega, ?_⟩;dsimp only;rw [if_neg (by decide)];exact slG (W _ _) (h2 := ⟨hkg _ _ _, Kn.of rfl, Kn.of rfl, trivial⟩) (he := ⟨rfl, rfl, rfl, Go.AM.hs_ren (by simp) (by simp), rfl, rfl, rfl, trivial⟩) (hh := ⟨⟨_, rfl, .varS rfl⟩, ⟨_, rfl, .varS rfl⟩, ⟨_, rfl, .arrS (by simp)⟩, ⟨_, rfl, .rarrS rfl⟩, ⟨_, rfl, .arr⟩, trivial⟩)
  have hge : j = 1 := by
   have : ¬ (j : Int) < ((1 : Nat) : Int) := of_decide_eq_false hb;omega
  subst hge;rw [if_neg (by decide)];refine aM ?_;have hct := bW (pfR p) s (by omega);refine a8 (a8 (aE mixed ?_));refine ak 2 [] rfl ?_;refine kc hct ?_;refine ak 1 [] rfl ?_;refine az ?_;refine aA rfl (fun hb => ?_) (fun hb => ?_)
  ·have hno : ¬ s ∈ pfR p := by
    intro h;have hb : (!decide (s ∈ pfR p)) = true := hb;rw [decide_eq_true h] at hb; cases hb
   have he : dN sb s b ns [p] = (ns, [p]) := by unfold dN; rw [if_neg fun h => hno (by have := h.1; rwa [hfl] at this)]
   have hqp : q = p := by rw [he] at hq; exact (List.singleton_inj.1 hq).symm
   rw [he, hqp];exact aI ⟨.inr rfl, aBw hF (by repeat (first | exact FarEq.raw hF | (refine FarEq.updL hF ?_) | (refine FarEq.upd hF ?_))) ⟨[], [], .nil, .nil, rfl⟩ (fun _ h => by cases h) (W _ _).refs (fun i hi => GW.kf i hi) (fun q hq => by rcases mem_append.1 hq with hq | hq; exact (all_eq_true.1 (W ns p).plain) q hq; exact (hF.ok q hq).2)⟩
  have hin : s ∈ pfR p := by
   have hb : (!decide (s ∈ pfR p)) = false := hb;by_cases h : s ∈ pfR p
   ·exact h
   ·rw [decide_eq_false h] at hb; cases hb
  refine aD ?_;refine a8 (a8 (ag [] rfl ?_));refine aB ?_;refine aL (fun j : Nat => mkt [(1, Go.AM.T s), (3, .one (.vp 3 0)), (5, .one (.vp 5 0)), (6, tkV (pfR p ++ ns.take j)), (35, .one (.ras (aN nv).length 1 (aN nv))), (36, I .i64 (((aN nv).length : Nat) : Int)), (37, I .i64 j)] ([(3, grO (aN nv) (aP k rs.length)), (5, .var 37 (bB b)), (720, tkA (pfR p ++ ns.take j))] ++ aH rs k af an anm nv ns p) F) (fun j => j ≤ (aN nv).length ∧ ¬ s ∈ ns.take j) (fun j => (aN nv).length - j) 0 ⟨zero_le _, by simp⟩ ?_ ?_
  ·exact slG (W _ _) (h1 := Kn.app Kn.nil (Kn.app (Kn.of rfl) (Kn.app (Kn.of rfl) (Kn.app (Kn.of rfl) (Kn.app (hkn _ _ _) Kn.nil))))) (h2 := ⟨hkg _ _ _, Kn.of rfl, Kn.of rfl, trivial⟩) (he := ⟨rfl, rfl, rfl, Go.AM.hs_ren (by simp) (by simp), congrArg some (V.ren_id _).symm, rfl, rfl, trivial⟩) (hh := ⟨⟨_, rfl, .varS rfl⟩, ⟨_, rfl, .varS rfl⟩, ⟨_, rfl, .arrS (by simp)⟩, ⟨_, rfl, .rarrS rfl⟩, ⟨_, rfl, .arr⟩, trivial⟩)
  rintro j ⟨hj, hnos⟩;refine a8 (ag [] rfl ?_);refine a8 (aA rfl (fun hb => ?_) (fun hb => ?_))
  ·have hlt : j < (aN nv).length := by
    have : (j : Int) < ((aN nv).length : Int) := of_decide_eq_true hb;omega
   have hjb : j < nv := by omega
   obtain ⟨n, hnn⟩ := aK (show j < ns.length by omega);have ht1 := aW7 hjb;have hrown : (ns.map bN)[j]? = some (bN n) := bQ bN hnn;have hstp : ns.take (j + 1) = ns.take j ++ [n] := by rw [take_add_one, hnn]; rfl
   have hq1 : ((pfR p ++ ns.take j).map bN).length = (pfR p ++ ns.take j).length := length_map _;have hql : (pfR p ++ ns.take j).length ≤ 540000000000 := by rw [length_append, length_take]; omega
   refine aD ?_;refine a8 (aB (a8 (ag [(0, .rowR j [.ep 704 j 0 nv])] rfl ?_)));refine a8 (a8 (ag [(2, .row j (bN n))] rfl ?_));refine aA rfl (fun hb => ?_) (fun hb => ?_)
   ·have hns : n = s := of_decide_eq_true hb;have he : dN sb s b ns [p] = (ns, [p]) := by
     unfold dN;rw [if_neg fun h => h.2 (hns ▸ List.mem_of_getElem? hnn)]
    have hqp : q = p := by rw [he] at hq; exact (List.singleton_inj.1 hq).symm
    rw [he, hqp];exact aI ⟨.inr rfl, aBw hF (by repeat (first | exact FarEq.raw hF | (refine FarEq.updL hF ?_) | (refine FarEq.upd hF ?_))) ⟨[], [], .nil, .nil, rfl⟩ (fun _ h => by cases h) (W _ _).refs (fun i hi => GW.kf i hi) (fun q hq => by rcases mem_append.1 hq with hq | hq; exact (all_eq_true.1 (W ns p).plain) q hq; exact (hF.ok q hq).2)⟩
   have hns : ¬ n = s := of_decide_eq_false hb;refine aD ?_;generalize pfR p = fm at *;generalize hq2 : fm ++ ns.take j = qq at *;refine ag [(3, .row j (bN n))] rfl ?_;refine AWp.sub (Sub.freeze (id := 720) rfl) ?_;refine ag [] rfl ?_;refine ⟨j + 1, ⟨hlt, ?_⟩, by dsimp only; omega, ?_⟩
   ·rw [hstp];intro h;rcases mem_append.1 h with h | h
    ·exact hnos h
    ·exact hns (mem_singleton.1 h).symm
   dsimp only;rw [hstp, ← append_assoc, hq2];exact slG (W _ _) (h1 := Kn.app Kn.nil (Kn.app (Kn.of rfl) (Kn.app (Kn.of rfl) (Kn.app (Kn.of rfl) (Kn.app (hkn _ _ _) Kn.nil))))) (h2 := ⟨hkg _ _ _, Kn.of rfl, Kn.of rfl, trivial⟩) (he := ⟨rfl, rfl, rfl, Go.AM.hs_ren (by simp) (by simp), congrArg some (V.ren_id _).symm, rfl, rfl, trivial⟩) (hh := ⟨⟨_, rfl, .varS rfl⟩, ⟨_, rfl, .varS rfl⟩, ⟨_, rfl, .arrS (by simp [bN])⟩, ⟨_, rfl, .rarrS rfl⟩, ⟨_, rfl, .arr⟩, trivial⟩)
  have hge : j = ns.length := by
   have : ¬ (j : Int) < ((aN nv).length : Int) := of_decide_eq_false hb;omega
  subst hge;rw [take_length] at hnos ⊢;have hput : dN sb s b ns [p] = ((gSt sb b ns [p] ns.length).1, (gSt sb b ns [p] ns.length).2.1.map fun p => sb p s b) := by
   unfold dN;rw [if_pos ⟨by rw [hfl]; exact hin, hnos⟩, aKc]
  have hql : (pfR p ++ ns).length ≤ 540000000000 := by rw [length_append]; omega
  have hq1 : ((pfR p ++ ns).map bN).length = (pfR p ++ ns).length := length_map _;have hq2 : ((pfR b).map bN).length = (pfR b).length := length_map _;have hfar := hok.far;refine aM ?_;refine a8 (aE mixed ?_);refine ak 1 [] rfl ?_;refine kc hfar ?_;refine ak 1 [] rfl ?_;refine az ?_;have hlq : (pfR p ++ ns).length + (pfR b).length ≤ 540000000000 := by rw [length_append]; omega
  refine a8 (ag [] rfl ?_);refine AWp.sub (Sub.freeze (id := 720) rfl) ?_;refine a8 (ag [] rfl ?_);refine a8 (a8 (ag [] rfl ?_));refine aB ?_;have hall : ∀ i, i ≤ ns.length → (gSt sb b ns [p] i).2.2.length ≤ 540000000000 := fun i hi => by
   have h1 := (gO (sb := sb) (b := b) (ps := [p]) hi).2.2
   rw [hfl] at h1;simp only [length_append] at h1;omega
  have hone : ∀ i, i ≤ ns.length → ∃ x, (gSt sb b ns [p] i).2.1 = [x] := fun i hi => length_eq_one_iff.1 (gO (sb := sb) (b := b) (ps := [p]) hi).2.1
  have hhd : ∀ i, i ≤ ns.length → (gSt sb b ns [p] i).2.1 = [(gSt sb b ns [p] i).2.1.headD p] := fun i hi => by
   obtain ⟨x, hx⟩ := hone i hi;rw [hx]; rfl
  refine aL (fun i : Nat => mkt [(1, Go.AM.T s), (5, .one (.vp 5 0)), (6, tkV (gSt sb b ns [p] i).2.2), (11, bU (pfR b)), (12, .one (.clo 131 [.vp 3 0])), (60, .one (.ras (aN nv).length 1 (aN nv))), (61, I .i64 (((aN nv).length : Nat) : Int)), (62, I .i64 i)] ([(3, grO (aN nv) (aP k rs.length)), (5, .var 37 (bB b)), (720, tkA (gSt sb b ns [p] i).2.2)] ++ aH rs k af an anm nv (gNs sb b ns [p] i) ((gSt sb b ns [p] i).2.1.headD p)) F) (fun i => i ≤ (aN nv).length) (fun i => (aN nv).length - i) 0 (zero_le _) ?_ ?_
  ·rw [wD, aEq, hfl];exact slG (W _ _) (h1 := Kn.app Kn.nil (Kn.app (Kn.of rfl) (Kn.app (Kn.of rfl) (Kn.app Kn.nil (Kn.app (Kn.of rfl) (Kn.app (hkn _ _ _) Kn.nil)))))) (h2 := ⟨hkg _ _ _, Kn.of rfl, Kn.of rfl, trivial⟩) (he := ⟨rfl, rfl, Go.AM.hs_ren (by simp only [length_append, length_map]) (by simp only [length_append, length_map]), rfl, rfl, congrArg some (V.ren_id _).symm, rfl, rfl, trivial⟩) (hh := ⟨⟨_, rfl, .varS rfl⟩, ⟨_, rfl, .varS rfl⟩, ⟨_, rfl, .arrS (by simp)⟩, ⟨_, rfl, .rarrS rfl⟩, ⟨_, rfl, .arr⟩, trivial⟩)
  intro i hi;have hle : i ≤ ns.length := by omega
  refine a8 (ag [] rfl ?_);refine a8 (aA rfl (fun hb => ?_) (fun hb => ?_))
  ·have hlt : i < (aN nv).length := by
    have : (i : Int) < ((aN nv).length : Int) := of_decide_eq_true hb;omega
   have hjb : i < nv := by omega
   obtain ⟨n, hnn⟩ := aK (show i < ns.length by omega);obtain ⟨hg1, hg2, hg3⟩ := gO (sb := sb) (b := b) (ps := [p]) hle;have hgl := aKf (sb := sb) (b := b) (ps := [p]) hle;have hga := aQe (sb := sb) (b := b) (ps := [p]) hnn;have hP := aKd hok hle (hall i hle) (fun j hj => hall j (by omega));have hsucc := nN (sb := sb) (b := b) (ps := [p]) hnn;have hnin := aQd (sb := sb) (b := b) (ps := [p]) hnn;have hnout := aKe (sb := sb) (b := b) (ps := [p]) hnn;have hall0 := hall i hle;have hhi := hhd i hle;have ht1 := aW7 hjb;have hcf := bW (pfR b) n (by omega);have hcr := wW (gSt sb b ns [p] i).2.2 (by omega) fun k hk => hok.itoa k (by omega)
   generalize gSt sb b ns [p] i = G at *;generalize gNs sb b ns [p] i = N at *;obtain ⟨d0, qs, tk⟩ := G;dsimp only at *;generalize qs.headD p = x at hhi ⊢;subst hhi;have hrown : (N.map bN)[i]? = some (bN n) := bQ bN hga;have hkN : nv = (N.map bN).length := by rw [length_map]; omega
   have hszx := hsz x;have hrowx := hrow x;refine aD ?_;refine a8 (aB (a8 (ag [(0, .rowR i [.ep 704 i 0 nv])] rfl ?_)));refine a8 (aE mixed ?_);refine ak 4 [(3, .row i (bN n))] rfl ?_;refine kc hcf ?_;refine az ?_;refine aA rfl (fun hb => ?_) (fun hb => ?_)
   ·have hmem : n ∈ pfR b := of_decide_eq_true hb;have hnin := hnin hmem;unfold fI at hsucc;rw [if_pos hmem] at hsucc;dsimp only at hsucc;have hz : (b8 tk).length ≤ 30 := le_trans (jD _ hall0) (by omega);have hca := aQz rs k af an anm nv N x F n (vC (b8 tk)) (fun p => sb p n (vC (b8 tk))) hF hr hk (hok.subz x n _ (hP x (by simp)) hz);have hcv := rV (b8 tk);have hqt : (tk.map bN).length = tk.length := length_map _;generalize b8 tk = z at *;refine a8 (aE mixed ?_);refine ak 1 [] rfl ?_;refine kc hcr ?_;refine ak 1 [] rfl ?_;refine az ?_;refine a8 (ag [] rfl ?_);refine AWp.sub (Sub.freeze (id := 720) rfl) ?_;refine a8 (aE mixed ?_);refine ak 5 [(3, .row i (bN n))] rfl ?_;refine kc hcv ?_;refine kv (caps := [.vp 3 0]) (args := [Go.AM.T n, .pa (aC (vC z))]) hca ?_ (hin' := eQ.app ⟨rfl, rfl, rfl, trivial⟩ (FarEq.all (by repeat (first | exact FarEq.raw hF | (refine FarEq.updL hF ?_) | (refine FarEq.upd hF ?_))))) (hout' := aW6) (hok := aFp hF hr);refine az ?_;refine AWp.sub (Sub.outsT hF) ?_;refine ag [(3, .row i (bN n))] rfl ?_;refine ag [] rfl ?_;refine ⟨i + 1, hlt, by dsimp only; omega, ?_⟩;dsimp only;rw [hsucc, hnin];dsimp only;refine slG (W _ _) (fun i hi => GW.kf i hi) (by repeat (first | exact FarEq.bif hF (FarEq.outs hF) | (refine FarEq.updL hF ?_) | (refine FarEq.upd hF ?_))) (h1 := Kn.app Kn.nil (Kn.app (Kn.of rfl) (Kn.app (Kn.of rfl) (Kn.app Kn.nil (Kn.app (Kn.of rfl) (Kn.app (hkn _ _ _) Kn.nil)))))) (h2 := ⟨hkg _ _ _, Kn.of rfl, Kn.of rfl, trivial⟩) (he := ⟨rfl, rfl, Go.AM.hs_ren (by simp) (by simp), rfl, rfl, congrArg some (V.ren_id _).symm, rfl, rfl, trivial⟩) (hh := ⟨⟨_, rfl, .varS rfl⟩, ⟨_, rfl, .varS rfl⟩, ⟨_, rfl, .arrS (by simp [bN])⟩, ⟨_, rfl, .rarrS rfl⟩, ⟨_, rfl, .arrS ?_⟩, trivial⟩);rw [map_set]; rfl
   ·have hmem : ¬ n ∈ pfR b := of_decide_eq_false hb;unfold fI at hsucc;rw [if_neg hmem] at hsucc;dsimp only at hsucc;refine aD ?_;refine ag [] rfl ?_;refine ⟨i + 1, hlt, by dsimp only; omega, ?_⟩;dsimp only;rw [hsucc, hnout hmem];exact slG (W _ _) (fun i hi => GW.kf i hi) (h1 := Kn.app Kn.nil (Kn.app (Kn.of rfl) (Kn.app (Kn.of rfl) (Kn.app Kn.nil (Kn.app (Kn.of rfl) (Kn.app (hkn _ _ _) Kn.nil)))))) (h2 := ⟨hkg _ _ _, Kn.of rfl, Kn.of rfl, trivial⟩)
  have hge : i = ns.length := by
   have : ¬ (i : Int) < ((aN nv).length : Int) := of_decide_eq_false hb;omega
  subst hge;have hP := aKd hok (le_refl ns.length) (hall _ (le_refl _)) (fun j hj => hall j hj);have hhi := hhd _ (le_refl ns.length);rw [hput] at hq ⊢;rw [aKg];generalize gSt sb b ns [p] ns.length = G at *;obtain ⟨N, qs, tk⟩ := G;dsimp only at *;generalize qs.headD p = x at hhi ⊢;subst hhi;have hqx : q = sb x s b := (List.singleton_inj.1 hq).symm;subst hqx;have hca := aQz rs k af an anm nv N x F s b (fun p => sb p s b) hF hr hk (hok.subb x (hP x (by simp)));refine aM ?_;refine aE mixed ?_;refine ak 3 [] rfl ?_;refine kv (caps := [.vp 3 0]) (args := [Go.AM.T s, .pa (aC b)]) hca ?_ (hin' := eQ.app ⟨rfl, rfl, rfl, trivial⟩ (FarEq.all (by repeat (first | exact FarEq.raw hF | (refine FarEq.updL hF ?_) | (refine FarEq.upd hF ?_))))) (hout' := aW6) (hok := aFp hF hr);refine az ?_;refine ⟨.inl rfl, aBw hF (FarEq.outs hF) ⟨[], [], .nil, .nil, rfl⟩ (fun _ h => by cases h) (W _ _).refs (fun i hi => GW.kf i hi) (fun q hq => by rcases mem_append.1 hq with hq | hq; exact (all_eq_true.1 (W ns p).plain) q hq; exact (hF.ok q hq).2)⟩
abbrev lH (n : Int) (t : Ty) (x : Str) (k : Core) : List (Nat × AObj) := gHl 5 n x t [k] [] []
def lN : List R := [.vp 700 2]
def lP : List R := [.ep 702 0 0 1]
abbrev lG (n : Int) (t : Ty) (x : Str) (k : Core) : List (Nat × AObj) := (3, grO lN lP) :: lH n t x k
theorem lHW {n : Int} {t : Ty} {x : Str} {k : Core} : GW (lH n t x k) [] := gW
theorem lGW {n : Int} {t : Ty} {x : Str} {k : Core} : GW (lG n t x k) [] := ⟨lHW (n := n) (t := t) (x := x) (k := k).tf, fun y hy => by
 rcases mem_append.1 (show y ∈ (grO lN lP).refs ++ dG (lH n t x k) from hy) with hy | hy
 ·have : y = 700 ∨ y = 702 := by simpa [grO, lN, lP, AObj.refs, R.refsL, R.refs] using hy
  rcases this with rfl | rfl
  ·exact .inl (by simp [lG, gHl, keys])
  ·exact .inl (by simp [lG, gHl, keys])
 ·exact (lHW.refs y hy).imp (fun h => mem_cons_of_mem _ h) id, rfl, rfl⟩
theorem aLm (n : Int) (t : Ty) (x : Str) (k : Core) (nm : Str) (b : Core) (sb : Core → Core)
  (hc : aU Tryz.prog 25 [.pa (aC k), Go.AM.T nm, .pa (aC b)] [] (.pa (aC (sb k))) []) :
  aU Tryz.prog 131 [Go.AM.T nm, .pa (aC b), .one (.vp 3 0)] (lG n t x k ++ []) (.tup []) (lG n t x (sb k) ++ []) := by
 have hF : TF [] := lHW (n := n) (t := t) (x := x) (k := k).tf;refine sG hF (n := 23) tok Tryz.func131 rfl rfl rfl ?_;refine a8 (ag [] rfl ?_);refine a8 (ag [] rfl ?_);refine aB ?_;refine aL (fun j : Nat => mkt [(0, Go.AM.T nm), (2, .one (.vp 3 0)), (4, .one (.vp 4 0)), (8, .one (.ras 1 1 lP)), (9, I .i64 ((1 : Nat) : Int)), (10, I .i64 j)] ([(4, .var 37 (bB b))] ++ lG n t x (if j = 0 then k else sb k)) []) (fun j => j ≤ 1) (fun j => 1 - j) 0 (zero_le _) ?_ ?_
 ·exact slG lGW
 intro j hj;refine a8 (ag [] rfl ?_);refine a8 (aA rfl (fun hb => ?_) (fun hb => ?_))
 ·have hj0 : j = 0 := by
   have : (j : Int) < ((1 : Nat) : Int) := of_decide_eq_true hb;omega
  subst hj0;rw [if_pos rfl];refine aD ?_;refine a8 (aB (a8 (ag [] rfl ?_)));refine aE mixed ?_;refine ak 6 [(3, .row 0 (aC k))] rfl ?_;refine kc hc ?_;refine ak 2 [(8, .row 0 (aC k))] rfl ?_;refine az ?_;refine ag [] rfl ?_;refine ⟨1, le_refl _, by dsimp only; omega, ?_⟩;dsimp only;rw [if_neg (by decide)];exact slG lGW (fun i hi => GW.kf i hi)
 have hge : j = 1 := by
  have : ¬ (j : Int) < ((1 : Nat) : Int) := of_decide_eq_false hb;omega
 subst hge;rw [if_neg (by decide)];refine aM ?_;exact ⟨.inl rfl, aBw hF (by repeat (first | exact FarEq.raw hF | (refine FarEq.updL hF ?_) | (refine FarEq.upd hF ?_))) ⟨[], [], .nil, .nil, rfl⟩ (fun _ h => by cases h) lGW.refs (fun i hi => GW.kf i hi) (fun q hq => by rcases mem_append.1 hq with hq | hq; exact (all_eq_true.1 (lGW (n := n) (t := t) (x := x) (k := k)).plain) q hq; cases hq)⟩
theorem aWn (n : Int) (t : Ty) (x : Str) (k : Core) (s : Str) (b : Core) (sb : Core → Str → Core → Core) (P : Core → Prop) (hok : PutOk sb P s b [k])
  (hM : (pfR k).length + 2 + (pfR b).length + 1 ≤ 540000000000) :
  ∃ x' q, dN sb s b [x] [k] = ([x'], [q]) ∧ aU Tryz.prog 68 [gpV lN lP, Go.AM.T s, .pa (aC b)] (lH n t x k ++ []) (.tup []) (lH n t x' q ++ []) := by
 have hF : TF [] := lHW (n := n) (t := t) (x := x) (k := k).tf;have hfl : ([k] : List Core).flatMap pfR = pfR k := by simp
 have hf := hok.free k (by simp);have hq0 : ((pfR k).map bN).length = (pfR k).length := length_map _;have hk0 : k = k := rfl;have step0 : s ∉ pfR k ∨ s = x → dN sb s b [x] [k] = ([x], [k]) := fun h => by
  unfold dN;rw [if_neg];rintro ⟨h1, h2⟩;rw [hfl] at h1;rcases h with h | h
  ·exact h h1
  ·exact h2 (by simp [h])
 by_cases hin : s ∈ pfR k
 case neg =>
  refine ⟨x, k, step0 (.inl hin), ?_⟩;refine sG hF (n := 92) tok Tryz.func68 rfl rfl rfl ?_;refine a8 (ag [] rfl ?_);refine a8 (ag [] rfl ?_);refine AWp.sub (Sub.own (t := 6) (id := 720) 9 1 rfl rfl) (AWp.sub (Sub.freeze (id := 720) rfl) ?_);refine a8 (a8 (ag [] rfl ?_));refine aB ?_;refine aL (fun j : Nat => mkt [(1, Go.AM.T s), (3, .one (.vp 3 0)), (5, .one (.vp 5 0)), (6, tkV (if j = 0 then [] else pfR k)), (17, .one (.ras 1 1 lP)), (18, I .i64 ((1 : Nat) : Int)), (19, I .i64 j)] ([(3, grO lN lP), (5, .var 37 (bB b)), (720, tkA (if j = 0 then [] else pfR k))] ++ lH n t x k) []) (fun j => j ≤ 1) (fun j => 1 - j) 0 (zero_le _) (slG lHW) ?_;intro j hj;refine a8 (ag [] rfl ?_);refine a8 (aA rfl (fun hb => ?_) (fun hb => ?_))
  ·have hj0 : j = 0 := by
    have : (j : Int) < ((1 : Nat) : Int) := of_decide_eq_true hb;omega
   subst hj0;rw [if_pos rfl];refine aD ?_;refine a8 (aB (a8 (ag [] rfl ?_)));refine aE mixed ?_;refine ak 4 [(3, .row 0 (aC k))] rfl ?_;refine kc hf ?_;refine ak 2 [] rfl ?_;refine az ?_;refine AWp.sub (Sub.freeze (id := 720) rfl) ?_;refine ag [] rfl ?_;refine ⟨1, le_refl _, by dsimp only; omega, ?_⟩;dsimp only;rw [if_neg (by decide)];exact slG lHW (he := ⟨rfl, rfl, rfl, Go.AM.hs_ren (by simp) (by simp), rfl, rfl, rfl, trivial⟩) (hh := ⟨⟨_, rfl, .varS rfl⟩, ⟨_, rfl, .varS rfl⟩, ⟨_, rfl, .arrS (by simp)⟩, ⟨_, rfl, .varS rfl⟩, ⟨_, rfl, .arr⟩, ⟨_, rfl, .arr⟩, ⟨_, rfl, .rarrS rfl⟩, trivial⟩)
  have hge : j = 1 := by
   have : ¬ (j : Int) < ((1 : Nat) : Int) := of_decide_eq_false hb;omega
  subst hge;rw [if_neg (by decide)];refine aM ?_;have hct := bW (pfR k) s (by omega);rw [decide_eq_false hin] at hct;refine a8 (a8 (aE mixed ?_));refine ak 2 [] rfl ?_;refine kc hct ?_;refine ak 1 [] rfl ?_;refine az ?_;refine aA rfl (fun hb => ?_) (fun hb => by cases hb);exact aI ⟨.inr rfl, aBw hF (by repeat (first | exact FarEq.raw hF | (refine FarEq.updL hF ?_) | (refine FarEq.upd hF ?_))) ⟨[], [], .nil, .nil, rfl⟩ (fun _ h => by cases h) lHW.refs (fun i hi => GW.kf i hi) (fun q hq => by rcases mem_append.1 hq with hq | hq; exact (all_eq_true.1 (lHW (n := n) (t := t) (x := x) (k := k)).plain) q hq; cases hq)⟩
 by_cases hsx : s = x
 case pos =>
  refine ⟨x, k, step0 (.inr hsx), ?_⟩;refine sG hF (n := 92) tok Tryz.func68 rfl rfl rfl ?_;refine a8 (ag [] rfl ?_);refine a8 (ag [] rfl ?_);refine AWp.sub (Sub.own (t := 6) (id := 720) 9 1 rfl rfl) (AWp.sub (Sub.freeze (id := 720) rfl) ?_);refine a8 (a8 (ag [] rfl ?_));refine aB ?_;refine aL (fun j : Nat => mkt [(1, Go.AM.T s), (3, .one (.vp 3 0)), (5, .one (.vp 5 0)), (6, tkV (if j = 0 then [] else pfR k)), (17, .one (.ras 1 1 lP)), (18, I .i64 ((1 : Nat) : Int)), (19, I .i64 j)] ([(3, grO lN lP), (5, .var 37 (bB b)), (720, tkA (if j = 0 then [] else pfR k))] ++ lH n t x k) []) (fun j => j ≤ 1) (fun j => 1 - j) 0 (zero_le _) (slG lHW) ?_;intro j hj;refine a8 (ag [] rfl ?_);refine a8 (aA rfl (fun hb => ?_) (fun hb => ?_))
  ·have hj0 : j = 0 := by
    have : (j : Int) < ((1 : Nat) : Int) := of_decide_eq_true hb;omega
   subst hj0;rw [if_pos rfl];refine aD ?_;refine a8 (aB (a8 (ag [] rfl ?_)));refine aE mixed ?_;refine ak 4 [(3, .row 0 (aC k))] rfl ?_;refine kc hf ?_;refine ak 2 [] rfl ?_;refine az ?_;refine AWp.sub (Sub.freeze (id := 720) rfl) ?_;refine ag [] rfl ?_;refine ⟨1, le_refl _, by dsimp only; omega, ?_⟩;dsimp only;rw [if_neg (by decide)];exact slG lHW (he := ⟨rfl, rfl, rfl, Go.AM.hs_ren (by simp) (by simp), rfl, rfl, rfl, trivial⟩) (hh := ⟨⟨_, rfl, .varS rfl⟩, ⟨_, rfl, .varS rfl⟩, ⟨_, rfl, .arrS (by simp)⟩, ⟨_, rfl, .varS rfl⟩, ⟨_, rfl, .arr⟩, ⟨_, rfl, .arr⟩, ⟨_, rfl, .rarrS rfl⟩, trivial⟩)
  have hge : j = 1 := by
   have : ¬ (j : Int) < ((1 : Nat) : Int) := of_decide_eq_false hb;omega
  subst hge;rw [if_neg (by decide)];refine aM ?_;have hct := bW (pfR k) s (by omega);rw [decide_eq_true hin] at hct;refine a8 (a8 (aE mixed ?_));refine ak 2 [] rfl ?_;refine kc hct ?_;refine ak 1 [] rfl ?_;refine az ?_;refine aA rfl (fun hb => by cases hb) (fun hb => ?_);refine aD ?_;refine a8 (a8 (ag [] rfl ?_));refine aB ?_;refine aL (fun _ : Unit => mkt [(1, Go.AM.T s), (3, .one (.vp 3 0)), (5, .one (.vp 5 0)), (6, tkV (pfR k)), (35, .one (.ras 1 1 lN)), (36, I .i64 ((1 : Nat) : Int)), (37, I .i64 (0 : Nat))] ([(3, grO lN lP), (5, .var 37 (bB b)), (720, tkA (pfR k))] ++ lH n t x k) []) (fun _ => True) (fun _ => 0) () trivial (slG lHW) ?_;intro _ _;refine a8 (ag [] rfl ?_);refine a8 (aA rfl (fun hb => ?_) (fun hb => by cases hb));refine aD ?_;refine a8 (aB (a8 (ag [] rfl ?_)));refine a8 (a8 (ag [] rfl ?_));refine aA rfl (fun hb => ?_) (fun hb => absurd hsx.symm (of_decide_eq_false hb));exact aI ⟨.inr rfl, aBw hF (by repeat (first | exact FarEq.raw hF | (refine FarEq.updL hF ?_) | (refine FarEq.upd hF ?_))) ⟨[], [], .nil, .nil, rfl⟩ (fun _ h => by cases h) lHW.refs (fun i hi => GW.kf i hi) (fun q hq => by rcases mem_append.1 hq with hq | hq; exact (all_eq_true.1 (lHW (n := n) (t := t) (x := x) (k := k)).plain) q hq; cases hq)⟩
 have hq1 : ((pfR k ++ [x]).map bN).length = (pfR k ++ [x]).length := length_map _;have hq2 : ((pfR b).map bN).length = (pfR b).length := length_map _;have hlx : (pfR k ++ [x]).length = (pfR k).length + 1 := by simp
 have hfar := hok.far;have hP := hok.in_ k (by simp);have hct := bW (pfR k) s (by omega);rw [decide_eq_true hin] at hct;have hcf := bW (pfR b) x (by omega);have hpin : aVc s [x] [k] := ⟨by rw [hfl]; exact hin, by simpa using hsx⟩
 by_cases hxb : x ∈ pfR b
 case pos =>
  have htl : (pfR k ++ [x] ++ pfR b).length ≤ 540000000000 := by rw [length_append]; omega
  have hz : (b8 (pfR k ++ [x] ++ pfR b)).length ≤ 30 := le_trans (jD _ htl) (by omega);have hcr := wW (pfR k ++ [x] ++ pfR b) (by omega) fun k hk => hok.itoa k (by omega)
  refine ⟨b8 (pfR k ++ [x] ++ pfR b), sb (sb k x (vC (b8 (pfR k ++ [x] ++ pfR b)))) s b, ?_, ?_⟩
  ·unfold dN;rw [if_pos hpin, hfl];unfold mU;simp only [foldl_cons, List.foldl_nil];unfold fI;rw [if_pos hxb]; rfl
  rw [decide_eq_true hxb] at hcf;have hqt : ((pfR k ++ [x] ++ pfR b).map bN).length = (pfR k ++ [x] ++ pfR b).length := length_map _;have hqa : (pfR k ++ [x] ++ pfR b).length = (pfR k).length + 1 + (pfR b).length := by rw [length_append, hlx]
  have hca := aLm n t x k x (vC (b8 (pfR k ++ [x] ++ pfR b))) (fun p => sb p x (vC (b8 (pfR k ++ [x] ++ pfR b)))) (hok.subz k x _ hP hz);have hca2 := aLm n t (b8 (pfR k ++ [x] ++ pfR b)) (sb k x (vC (b8 (pfR k ++ [x] ++ pfR b)))) s b (fun p => sb p s b) (hok.subb _ (hok.ren k x _ hP hz));have hcv := rV (b8 (pfR k ++ [x] ++ pfR b));generalize hzz : b8 (pfR k ++ [x] ++ pfR b) = z at *;refine sG hF (n := 92) tok Tryz.func68 rfl rfl rfl ?_;refine a8 (ag [] rfl ?_);refine a8 (ag [] rfl ?_);refine AWp.sub (Sub.own (t := 6) (id := 720) 9 1 rfl rfl) (AWp.sub (Sub.freeze (id := 720) rfl) ?_);refine a8 (a8 (ag [] rfl ?_));refine aB ?_;refine aL (fun j : Nat => mkt [(1, Go.AM.T s), (3, .one (.vp 3 0)), (5, .one (.vp 5 0)), (6, tkV (if j = 0 then [] else pfR k)), (17, .one (.ras 1 1 lP)), (18, I .i64 ((1 : Nat) : Int)), (19, I .i64 j)] ([(3, grO lN lP), (5, .var 37 (bB b)), (720, tkA (if j = 0 then [] else pfR k))] ++ lH n t x k) []) (fun j => j ≤ 1) (fun j => 1 - j) 0 (zero_le _) (slG lHW) ?_;intro j hj;refine a8 (ag [] rfl ?_);refine a8 (aA rfl (fun hb => ?_) (fun hb => ?_))
  ·have hj0 : j = 0 := by
    have : (j : Int) < ((1 : Nat) : Int) := of_decide_eq_true hb;omega
   subst hj0;rw [if_pos rfl];refine aD ?_;refine a8 (aB (a8 (ag [] rfl ?_)));refine aE mixed ?_;refine ak 4 [(3, .row 0 (aC k))] rfl ?_;refine kc hf ?_;refine ak 2 [] rfl ?_;refine az ?_;refine AWp.sub (Sub.freeze (id := 720) rfl) ?_;refine ag [] rfl ?_;refine ⟨1, le_refl _, by dsimp only; omega, ?_⟩;dsimp only;rw [if_neg (by decide)];exact slG lHW (he := ⟨rfl, rfl, rfl, Go.AM.hs_ren (by simp) (by simp), rfl, rfl, rfl, trivial⟩) (hh := ⟨⟨_, rfl, .varS rfl⟩, ⟨_, rfl, .varS rfl⟩, ⟨_, rfl, .arrS (by simp)⟩, ⟨_, rfl, .varS rfl⟩, ⟨_, rfl, .arr⟩, ⟨_, rfl, .arr⟩, ⟨_, rfl, .rarrS rfl⟩, trivial⟩)
  have hge : j = 1 := by
   have : ¬ (j : Int) < ((1 : Nat) : Int) := of_decide_eq_false hb;omega
  subst hge;rw [if_neg (by decide)];refine aM ?_;refine a8 (a8 (aE mixed ?_));refine ak 2 [] rfl ?_;refine kc hct ?_;refine ak 1 [] rfl ?_;refine az ?_;refine aA rfl (fun hb => by cases hb) (fun hb => ?_);refine aD ?_;refine a8 (a8 (ag [] rfl ?_));refine aB ?_;refine aL (fun j : Nat => mkt [(1, Go.AM.T s), (3, .one (.vp 3 0)), (5, .one (.vp 5 0)), (6, tkV (if j = 0 then pfR k else pfR k ++ [x])), (35, .one (.ras 1 1 lN)), (36, I .i64 ((1 : Nat) : Int)), (37, I .i64 j)] ([(3, grO lN lP), (5, .var 37 (bB b)), (720, tkA (if j = 0 then pfR k else pfR k ++ [x]))] ++ lH n t x k) []) (fun j => j ≤ 1) (fun j => 1 - j) 0 (zero_le _) (slG lHW) ?_;intro j hj;refine a8 (ag [] rfl ?_);refine a8 (aA rfl (fun hb => ?_) (fun hb => ?_))
  ·have hj0 : j = 0 := by
    have : (j : Int) < ((1 : Nat) : Int) := of_decide_eq_true hb;omega
   subst hj0;rw [if_pos rfl];refine aD ?_;refine a8 (aB (a8 (ag [] rfl ?_)));refine a8 (a8 (ag [] rfl ?_));refine aA rfl (fun hb => absurd (of_decide_eq_true hb).symm hsx) (fun hb => ?_);refine aD ?_;refine ag [] rfl ?_;refine AWp.sub (Sub.freeze (id := 720) rfl) ?_;refine ag [] rfl ?_;refine ⟨1, le_refl _, by dsimp only; omega, ?_⟩;dsimp only;rw [if_neg (by decide)];exact slG lHW (he := ⟨rfl, rfl, rfl, Go.AM.hs_ren (by simp) (by simp), rfl, rfl, rfl, trivial⟩) (hh := ⟨⟨_, rfl, .varS rfl⟩, ⟨_, rfl, .varS rfl⟩, ⟨_, rfl, .arrS (by simp [bN])⟩, ⟨_, rfl, .varS rfl⟩, ⟨_, rfl, .arr⟩, ⟨_, rfl, .arr⟩, ⟨_, rfl, .rarrS rfl⟩, trivial⟩)
  have hge : j = 1 := by
   have : ¬ (j : Int) < ((1 : Nat) : Int) := of_decide_eq_false hb;omega
  subst hge;rw [if_neg (by decide)];refine aM ?_;refine a8 (aE mixed ?_);refine ak 1 [] rfl ?_;refine kc hfar ?_;refine ak 1 [] rfl ?_;refine az ?_;refine a8 (ag [] rfl ?_);refine AWp.sub (Sub.freeze (id := 720) rfl) ?_;refine a8 (ag [] rfl ?_);refine a8 (a8 (ag [] rfl ?_));refine aB ?_;refine aL (fun i : Nat => mkt [(1, Go.AM.T s), (5, .one (.vp 5 0)), (6, tkV (if i = 0 then pfR k ++ [x] ++ pfR b else pfR k ++ [x] ++ pfR b ++ [z])), (11, bU (pfR b)), (12, .one (.clo 131 [.vp 3 0])), (60, .one (.ras 1 1 lN)), (61, I .i64 ((1 : Nat) : Int)), (62, I .i64 i)] ([(3, grO lN lP), (5, .var 37 (bB b)), (720, tkA (if i = 0 then pfR k ++ [x] ++ pfR b else pfR k ++ [x] ++ pfR b ++ [z]))] ++ lH n t (if i = 0 then x else z) (if i = 0 then k else sb k x (vC z))) []) (fun i => i ≤ 1) (fun i => 1 - i) 0 (zero_le _) ?_ ?_
  ·rw [if_pos rfl, if_pos rfl, if_pos rfl];exact slG lHW (he := ⟨rfl, rfl, Go.AM.hs_ren (by simp only [length_append, length_map]) (by simp only [length_append, length_map]), rfl, rfl, rfl, rfl, rfl, trivial⟩) (hh := ⟨⟨_, rfl, .varS rfl⟩, ⟨_, rfl, .varS rfl⟩, ⟨_, rfl, .arrS (by simp )⟩, ⟨_, rfl, .varS rfl⟩, ⟨_, rfl, .arr⟩, ⟨_, rfl, .arr⟩, ⟨_, rfl, .rarrS rfl⟩, trivial⟩)
  intro i hi;refine a8 (ag [] rfl ?_);refine a8 (aA rfl (fun hb => ?_) (fun hb => ?_))
  ·have hi0 : i = 0 := by
    have : (i : Int) < ((1 : Nat) : Int) := of_decide_eq_true hb;omega
   subst hi0;rw [if_pos rfl, if_pos rfl, if_pos rfl];generalize pfR k ++ [x] ++ pfR b = tk at *;refine aD ?_;refine a8 (aB (a8 (ag [] rfl ?_)));refine a8 (aE mixed ?_);refine ak 4 [] rfl ?_;refine kc hcf ?_;refine az ?_;refine aA rfl (fun hb => ?_) (fun hb => by cases hb);refine a8 (aE mixed ?_);refine ak 1 [] rfl ?_;refine kc hcr ?_;refine ak 1 [] rfl ?_;refine az ?_;refine a8 (ag [] rfl ?_);refine AWp.sub (Sub.freeze (id := 720) rfl) ?_;refine a8 (aE mixed ?_);refine ak 5 [] rfl ?_;refine kc hcv ?_;refine kv (caps := [.vp 3 0]) (args := [Go.AM.T x, .pa (aC (vC z))]) hca ?_;refine az ?_;refine ag [] rfl ?_;refine ag [] rfl ?_;refine ⟨1, le_refl _, by dsimp only; omega, ?_⟩;dsimp only;rw [if_neg (by decide), if_neg (by decide), if_neg (by decide)];exact slG lHW (fun i hi => GW.kf i hi) (he := ⟨rfl, rfl, Go.AM.hs_ren (by simp) (by simp), rfl, rfl, rfl, rfl, rfl, trivial⟩) (hh := ⟨⟨_, rfl, .varS rfl⟩, ⟨_, rfl, .varS rfl⟩, ⟨_, rfl, .arrS (by simp [bN])⟩, ⟨_, rfl, .varS rfl⟩, ⟨_, rfl, .arr⟩, ⟨_, rfl, .arr⟩, ⟨_, rfl, .rarrS rfl⟩, trivial⟩)
  have hge : i = 1 := by
   have : ¬ (i : Int) < ((1 : Nat) : Int) := of_decide_eq_false hb;omega
  subst hge;rw [if_neg (by decide), if_neg (by decide), if_neg (by decide)];refine aM ?_;refine aE mixed ?_;refine ak 3 [] rfl ?_;refine kv (caps := [.vp 3 0]) (args := [Go.AM.T s, .pa (aC b)]) hca2 ?_;refine az ?_;exact ⟨.inl rfl, aBw hF (FarEq.outs hF) ⟨[], [], .nil, .nil, rfl⟩ (fun _ h => by cases h) lHW.refs (fun i hi => GW.kf i hi) (fun q hq => by rcases mem_append.1 hq with hq | hq; exact (all_eq_true.1 (lHW (n := n) (t := t) (x := x) (k := k)).plain) q hq; cases hq)⟩
 refine ⟨x, sb k s b, ?_, ?_⟩
 ·unfold dN;rw [if_pos hpin, hfl];unfold mU;simp only [foldl_cons, List.foldl_nil];unfold fI;rw [if_neg hxb]; rfl
 rw [decide_eq_false hxb] at hcf;have hca2 := aLm n t x k s b (fun p => sb p s b) (hok.subb _ hP);refine sG hF (n := 92) tok Tryz.func68 rfl rfl rfl ?_;refine a8 (ag [] rfl ?_);refine a8 (ag [] rfl ?_);refine AWp.sub (Sub.own (t := 6) (id := 720) 9 1 rfl rfl) (AWp.sub (Sub.freeze (id := 720) rfl) ?_);refine a8 (a8 (ag [] rfl ?_));refine aB ?_;refine aL (fun j : Nat => mkt [(1, Go.AM.T s), (3, .one (.vp 3 0)), (5, .one (.vp 5 0)), (6, tkV (if j = 0 then [] else pfR k)), (17, .one (.ras 1 1 lP)), (18, I .i64 ((1 : Nat) : Int)), (19, I .i64 j)] ([(3, grO lN lP), (5, .var 37 (bB b)), (720, tkA (if j = 0 then [] else pfR k))] ++ lH n t x k) []) (fun j => j ≤ 1) (fun j => 1 - j) 0 (zero_le _) (slG lHW) ?_;intro j hj;refine a8 (ag [] rfl ?_);refine a8 (aA rfl (fun hb => ?_) (fun hb => ?_))
 ·have hj0 : j = 0 := by
   have : (j : Int) < ((1 : Nat) : Int) := of_decide_eq_true hb;omega
  subst hj0;rw [if_pos rfl];refine aD ?_;refine a8 (aB (a8 (ag [] rfl ?_)));refine aE mixed ?_;refine ak 4 [(3, .row 0 (aC k))] rfl ?_;refine kc hf ?_;refine ak 2 [] rfl ?_;refine az ?_;refine AWp.sub (Sub.freeze (id := 720) rfl) ?_;refine ag [] rfl ?_;refine ⟨1, le_refl _, by dsimp only; omega, ?_⟩;dsimp only;rw [if_neg (by decide)];exact slG lHW (he := ⟨rfl, rfl, rfl, Go.AM.hs_ren (by simp) (by simp), rfl, rfl, rfl, trivial⟩) (hh := ⟨⟨_, rfl, .varS rfl⟩, ⟨_, rfl, .varS rfl⟩, ⟨_, rfl, .arrS (by simp)⟩, ⟨_, rfl, .varS rfl⟩, ⟨_, rfl, .arr⟩, ⟨_, rfl, .arr⟩, ⟨_, rfl, .rarrS rfl⟩, trivial⟩)
 have hge : j = 1 := by
  have : ¬ (j : Int) < ((1 : Nat) : Int) := of_decide_eq_false hb;omega
 subst hge;rw [if_neg (by decide)];refine aM ?_;refine a8 (a8 (aE mixed ?_));refine ak 2 [] rfl ?_;refine kc hct ?_;refine ak 1 [] rfl ?_;refine az ?_;refine aA rfl (fun hb => by cases hb) (fun hb => ?_);refine aD ?_;refine a8 (a8 (ag [] rfl ?_));refine aB ?_;refine aL (fun j : Nat => mkt [(1, Go.AM.T s), (3, .one (.vp 3 0)), (5, .one (.vp 5 0)), (6, tkV (if j = 0 then pfR k else pfR k ++ [x])), (35, .one (.ras 1 1 lN)), (36, I .i64 ((1 : Nat) : Int)), (37, I .i64 j)] ([(3, grO lN lP), (5, .var 37 (bB b)), (720, tkA (if j = 0 then pfR k else pfR k ++ [x]))] ++ lH n t x k) []) (fun j => j ≤ 1) (fun j => 1 - j) 0 (zero_le _) (slG lHW) ?_;intro j hj;refine a8 (ag [] rfl ?_);refine a8 (aA rfl (fun hb => ?_) (fun hb => ?_))
 ·have hj0 : j = 0 := by
   have : (j : Int) < ((1 : Nat) : Int) := of_decide_eq_true hb;omega
  subst hj0;rw [if_pos rfl];refine aD ?_;refine a8 (aB (a8 (ag [] rfl ?_)));refine a8 (a8 (ag [] rfl ?_));refine aA rfl (fun hb => absurd (of_decide_eq_true hb).symm hsx) (fun hb => ?_);refine aD ?_;refine ag [] rfl ?_;refine AWp.sub (Sub.freeze (id := 720) rfl) ?_;refine ag [] rfl ?_;refine ⟨1, le_refl _, by dsimp only; omega, ?_⟩;dsimp only;rw [if_neg (by decide)];exact slG lHW (he := ⟨rfl, rfl, rfl, Go.AM.hs_ren (by simp) (by simp), rfl, rfl, rfl, trivial⟩) (hh := ⟨⟨_, rfl, .varS rfl⟩, ⟨_, rfl, .varS rfl⟩, ⟨_, rfl, .arrS (by simp [bN])⟩, ⟨_, rfl, .varS rfl⟩, ⟨_, rfl, .arr⟩, ⟨_, rfl, .arr⟩, ⟨_, rfl, .rarrS rfl⟩, trivial⟩)
 have hge : j = 1 := by
  have : ¬ (j : Int) < ((1 : Nat) : Int) := of_decide_eq_false hb;omega
 subst hge;rw [if_neg (by decide)];refine aM ?_;refine a8 (aE mixed ?_);refine ak 1 [] rfl ?_;refine kc hfar ?_;refine ak 1 [] rfl ?_;refine az ?_;refine a8 (ag [] rfl ?_);refine AWp.sub (Sub.freeze (id := 720) rfl) ?_;refine a8 (ag [] rfl ?_);refine a8 (a8 (ag [] rfl ?_));refine aB ?_;refine aL (fun i : Nat => mkt [(1, Go.AM.T s), (5, .one (.vp 5 0)), (11, bU (pfR b)), (12, .one (.clo 131 [.vp 3 0])), (60, .one (.ras 1 1 lN)), (61, I .i64 ((1 : Nat) : Int)), (62, I .i64 i)] ([(3, grO lN lP), (5, .var 37 (bB b))] ++ lH n t x k) []) (fun i => i ≤ 1) (fun i => 1 - i) 0 (zero_le _) (slG lHW) ?_;intro i hi;refine a8 (ag [] rfl ?_);refine a8 (aA rfl (fun hb => ?_) (fun hb => ?_))
 ·have hi0 : i = 0 := by
   have : (i : Int) < ((1 : Nat) : Int) := of_decide_eq_true hb;omega
  subst hi0;refine aD ?_;refine a8 (aB (a8 (ag [] rfl ?_)));refine a8 (aE mixed ?_);refine ak 4 [] rfl ?_;refine kc hcf ?_;refine az ?_;refine aA rfl (fun hb => by cases hb) (fun hb => ?_);refine aD ?_;refine ag [] rfl ?_;exact ⟨1, le_refl _, by dsimp only; omega, slG lHW⟩
 have hge : i = 1 := by
  have : ¬ (i : Int) < ((1 : Nat) : Int) := of_decide_eq_false hb;omega
 subst hge;refine aM ?_;refine aE mixed ?_;refine ak 3 [] rfl ?_;refine kv (caps := [.vp 3 0]) (args := [Go.AM.T s, .pa (aC b)]) hca2 ?_;refine az ?_;exact ⟨.inl rfl, aBw hF (FarEq.outs hF) ⟨[], [], .nil, .nil, rfl⟩ (fun _ h => by cases h) lHW.refs (fun i hi => GW.kf i hi) (fun q hq => by rcases mem_append.1 hq with hq | hq; exact (all_eq_true.1 (lHW (n := n) (t := t) (x := x) (k := k)).plain) q hq; cases hq)⟩
def w30 (s : Str) : Nat := max 30 s.length
mutual
def m30 : Core → Nat
 | .mk _ _ s _ ks bs al => 1 + w30 s + cZ ks + fV bs + hY al
def cZ : List Core → Nat
 | [] => 0
 | c :: l => m30 c + cZ l
def fV : List Bind → Nat
 | [] => 0
 | .mk s _ c :: l => 1 + w30 s + m30 c + fV l
def hY : List Alt → Nat
 | [] => 0
 | .mk _ _ s vs c :: l => 1 + w30 s + (vs.map fun v => 1 + w30 v).sum + m30 c + hY l
end
theorem aCm (s : Str) : s.length ≤ w30 s := le_max_right ..
theorem mC (s : Str) : 30 ≤ w30 s := le_max_left ..
theorem aFu {z s : Str} (h : z.length ≤ 30) : w30 z ≤ w30 s := by unfold w30; omega
theorem aUk : ∀ vs : List Str, (vs.map fun v => 1 + v.length).sum ≤ (vs.map fun v => 1 + w30 v).sum
 | [] => le_refl _
 | v :: vs => by
  simp only [map_cons, sum_cons];have := aUk vs;have := aCm v;omega
mutual
theorem dA : ∀ c : Core, b6 c ≤ m30 c
 | .mk _ _ s _ ks bs al => by
  rw [b6, m30];have := uD ks;have := uH bs;have := uM al;have := aCm s;omega
theorem uD : ∀ l : List Core, bJ l ≤ cZ l
 | [] => by rw [bJ, cZ]; exact le_refl _
 | c :: l => by
  rw [bJ, cZ];have := dA c;have := uD l;omega
theorem uH : ∀ l : List Bind, cB l ≤ fV l
 | [] => by rw [cB, fV]; exact le_refl _
 | .mk s _ c :: l => by
  rw [cB, bsize, fV];have := dA c;have := uH l;have := aCm s;omega
theorem uM : ∀ l : List Alt, bZ l ≤ hY l
 | [] => by rw [bZ, hY]; exact le_refl _
 | .mk _ _ s vs c :: l => by
  rw [bZ, lZ, hY];have := dA c;have := uM l;have := aCm s;have := aUk vs;omega
end
theorem fE (c : Core) : 31 ≤ m30 c := by obtain ⟨_, _, s, _, ks, bs, al⟩ := c; rw [m30]; have := mC s; omega
theorem hJ : ∀ {l : List Core} {c : Core}, c ∈ l → m30 c ≤ cZ l
 | d :: l, c, h => by
  rw [cZ];rcases mem_cons.1 h with rfl | h
  ·omega
  ·have := hJ h; omega
theorem nI : ∀ {l : List Bind} {b : Bind}, b ∈ l → m30 b.body ≤ fV l
 | .mk s t c :: l, b, h => by
  rw [fV];rcases mem_cons.1 h with rfl | h
  ·show m30 c ≤ _; omega
  ·have := nI h; omega
theorem iW : ∀ {l : List Alt} {a : Alt}, a ∈ l → m30 a.body + (a.vars.map fun v => 1 + w30 v).sum ≤ hY l
 | .mk f n s vs c :: l, a, h => by
  rw [hY];rcases mem_cons.1 h with rfl | h
  ·show m30 c + (vs.map fun v => 1 + w30 v).sum ≤ _; omega
  ·have := iW h; omega
theorem w7 : ∀ a b : List Core, cZ (a ++ b) = cZ a + cZ b
 | [], b => by rw [cZ]; simp
 | c :: a, b => by rw [cons_append, cZ, cZ, w7 a b]; omega
theorem w6 : ∀ l : List Bind, cZ (l.map Bind.body) + 31 * l.length ≤ fV l
 | [] => by rw [map_nil, cZ, fV]; simp
 | .mk s t c :: l => by
  rw [map_cons, cZ, fV];have := w6 l;have := mC s;show m30 c + _ + _ ≤ _;rw [length_cons];omega
theorem aEh : ∀ l : List Core, 31 * l.length ≤ cZ l
 | [] => by simp
 | c :: l => by rw [cZ, length_cons]; have := aEh l; have := fE c; omega
theorem aKp : ∀ ps : List Core, (ps.flatMap pfR).length ≤ cZ ps
 | [] => by simp
 | p :: ps => by
  rw [flatMap_cons, length_append, cZ];have := aGc p;have := dA p;have := aKp ps;omega
theorem kI (c : Core) : (pfR c).length ≤ m30 c := le_trans (aGc c) (dA c)
theorem vA : ∀ vs : List Str, 31 * vs.length ≤ (vs.map fun v => 1 + w30 v).sum
 | [] => le_refl _
 | v :: vs => by simp only [map_cons, sum_cons, length_cons]; have := vA vs; have := mC v; omega
inductive A2 {α β : Type} (R : α → β → Prop) : List α → List β → Prop
 | nil : A2 R [] []
 | cons {a b l m} : R a b → A2 R l m → A2 R (a :: l) (b :: m)
theorem A2.refl {α : Type} {R : α → α → Prop} (h : ∀ a, R a a) : ∀ l, A2 R l l
 | [] => .nil
 | a :: l => .cons (h a) (A2.refl h l)
theorem A2.trans {α : Type} {R : α → α → Prop} (h : ∀ a b c, R a b → R b c → R a c) {l m k : List α} (h1 : A2 R l m) : A2 R m k → A2 R l k := by
 induction h1 generalizing k with
 | nil => intro h2; cases h2; exact .nil
 | cons r _ ih => intro h2; cases h2 with | cons r' h2 => exact .cons (h _ _ _ r r') (ih h2)
theorem A2.map {α : Type} {R : α → α → Prop} {f : α → α} (h : ∀ a, R a (f a)) : ∀ l, A2 R l (l.map f)
 | [] => .nil
 | a :: l => .cons (h a) (A2.map h l)
theorem A2.length {α β : Type} {R : α → β → Prop} {l : List α} {m : List β} (h : A2 R l m) : m.length = l.length := by
 induction h with
 | nil => rfl
 | cons _ _ ih => simp [ih]
theorem A2.take {α β : Type} {R : α → β → Prop} {l : List α} {m : List β} (h : A2 R l m) : ∀ n : Nat, A2 R (l.take n) (m.take n) := by
 induction h with
 | nil => intro n; simp; exact .nil
 | cons r _ ih =>
  intro n;cases n with
  | zero => exact .nil
  | succ n => exact .cons r (ih n)
theorem A2.drop {α β : Type} {R : α → β → Prop} {l : List α} {m : List β} (h : A2 R l m) : ∀ n : Nat, A2 R (l.drop n) (m.drop n) := by
 induction h with
 | nil => intro n; simp; exact .nil
 | cons r h ih =>
  intro n;cases n with
  | zero => exact .cons r h
  | succ n => exact ih n
theorem A2.mono {α β : Type} {R R' : α → β → Prop} (hm : ∀ a b, R a b → R' a b) {l : List α} {m : List β} (h : A2 R l m) : A2 R' l m := by
 induction h with
 | nil => exact .nil
 | cons r _ ih => exact .cons (hm _ _ r) ih
def nh (s : Str) : Prop := s.head? ≠ some 37
theorem aGn (n : Nat) : nh (bR n) := by
 have key : ∀ m : _root_.Fin 26, UInt8.ofNat (97 + m.val) ≠ 37 := by decide
 have h : UInt8.ofNat (97 + n % 26) ≠ 37 := key ⟨n % 26, Nat.mod_lt _ (by decide)⟩;unfold nh bR;split
 ·simpa using h
 ·simpa using h
theorem aEu (l : List Str) : nh (b8 l) := aGn _
def NR (n n' : Str) : Prop := n' = n ∨ (n'.length ≤ 30 ∧ nh n')
theorem NR.w {n n' : Str} (h : NR n n') : w30 n' ≤ w30 n := by
 rcases h with rfl | ⟨h, _⟩
 ·exact le_refl _
 ·exact aFu h
theorem NR.nh {n n' : Str} (h : NR n n') (hn : nh n) : nh n' := by
 rcases h with rfl | ⟨_, h⟩
 ·exact hn
 ·exact h
section
variable {sb : Core → Str → Core → Core}
theorem aEr {Rel : Core → Core → Prop} (hr : ∀ p, Rel p p) (ht : ∀ p q r, Rel p q → Rel q r → Rel p r) {far : List Str} (hz : ∀ p n z, z.length ≤ 30 → Rel p (sb p n (vC z))) :
  ∀ {ns : List Str} {st : List Str × List Core × List Str}, st.2.2.length + ns.length ≤ 540000000000 →
   A2 Rel st.2.1 (mU sb far ns st).2.1 ∧ ∃ ns', (mU sb far ns st).1 = st.1 ++ ns' ∧ A2 NR ns ns'
 | [], st, _ => ⟨A2.refl hr _, [], by show st.1 = _; simp, .nil⟩
 | n :: ns, st, hl => by
  simp only [length_cons] at hl;have hg := rI (sb := sb) (far := far) (st := st) (n := n);obtain ⟨h1, ns', h2, h3⟩ := aEr hr ht hz (far := far) (ns := ns) (st := fI sb far st n) (by omega);have e : mU sb far (n :: ns) st = mU sb far ns (fI sb far st n) := rfl;rw [e];have hf : (b8 st.2.2).length ≤ 30 := le_trans (jD _ (by omega)) (by omega);by_cases hn : n ∈ far
  ·have es : fI sb far st n = (st.1 ++ [b8 st.2.2], st.2.1.map (fun p => sb p n (vC (b8 st.2.2))), st.2.2 ++ [b8 st.2.2]) := by unfold fI; rw [if_pos hn]
   rw [es] at h1 h2 ⊢;refine ⟨A2.trans ht (A2.map (fun p => hz p n _ hf) _) h1, b8 st.2.2 :: ns', ?_, .cons (.inr ⟨hf, aEu _⟩) h3⟩;rw [h2, append_assoc]; rfl
  ·have es : fI sb far st n = (st.1 ++ [n], st.2.1, st.2.2) := by unfold fI; rw [if_neg hn]
   rw [es] at h1 h2 ⊢;refine ⟨h1, n :: ns', ?_, .cons (.inl rfl) h3⟩;rw [h2, append_assoc]; rfl
theorem aDu {Rel : Core → Core → Prop} (hr : ∀ p, Rel p p) (ht : ∀ p q r, Rel p q → Rel q r → Rel p r) {s : Str} {b : Core} {ns : List Str} {ps : List Core} (hz : ∀ p n z, z.length ≤ 30 → Rel p (sb p n (vC z)))
  (hl : (ps.flatMap pfR).length + 2 * ns.length + (pfR b).length ≤ 540000000000) : (∃ qs, A2 Rel ps qs ∧ ((dN sb s b ns ps).2 = qs ∨ (dN sb s b ns ps).2 = qs.map fun p => sb p s b)) ∧ A2 NR ns (dN sb s b ns ps).1 := by
 unfold dN;split
 ·obtain ⟨h1, ns', h2, h3⟩ := aEr hr ht hz (far := pfR b) (ns := ns) (st := ([], ps, ps.flatMap pfR ++ ns ++ pfR b)) (by simp only [length_append]; omega);exact ⟨⟨_, h1, .inr rfl⟩, by rw [h2]; exact h3⟩
 ·exact ⟨⟨ps, A2.refl hr _, .inl rfl⟩, A2.refl (fun _ => .inl rfl) _⟩
end
theorem A2.mem {α β : Type} {R : α → β → Prop} {l : List α} {m : List β} (h : A2 R l m) : ∀ b ∈ m, ∃ a ∈ l, R a b := by
 induction h with
 | nil => intro b hb; cases hb
 | cons r _ ih =>
  intro b hb;rcases mem_cons.1 hb with rfl | hb
  ·exact ⟨_, mem_cons_self, r⟩
  ·obtain ⟨a, ha, hab⟩ := ih b hb;exact ⟨a, mem_cons_of_mem _ ha, hab⟩
theorem A2.mapL {α β γ : Type} {R : β → γ → Prop} {f : α → β} : ∀ {l : List α} {m : List γ}, A2 R (l.map f) m → A2 (fun a c => R (f a) c) l m
 | [], m, h => by cases h; exact .nil
 | a :: l, m, h => by
  cases h with
  | cons r h => exact .cons r (A2.mapL h)
theorem oH : ∀ {ts : List Ty} {ns : List Str} {ps : List Core} {x : Bind}, x ∈ mkB ts ns ps → x.body ∈ ps ∧ x.ty ∈ ts
 | t :: ts, n :: ns, p :: ps, x, h => by
  unfold mkB at h;rcases mem_cons.1 h with rfl | h
  ·exact ⟨mem_cons_self, mem_cons_self⟩
  ·obtain ⟨h1, h2⟩ := oH h;exact ⟨mem_cons_of_mem _ h1, mem_cons_of_mem _ h2⟩
 | [], _, _, x, h => by unfold mkB at h; cases h
 | _ :: _, [], _, x, h => by unfold mkB at h; cases h
 | _ :: _, _ :: _, [], x, h => by unfold mkB at h; cases h
theorem s6 {T : Ty → Prop} : ∀ {l : List Core}, aAb T l ↔ ∀ x ∈ l, allT T x
 | [] => by simp [aAb]
 | c :: l => by rw [aAb, s6 (l := l)]; simp
theorem kY {T : Ty → Prop} : ∀ {l : List Bind}, xA T l ↔ ∀ x ∈ l, T x.ty ∧ allT T x.body
 | [] => by simp [xA]
 | .mk _ t c :: l => by rw [xA, kY (l := l)]; simp [Bind.body, Bind.ty, and_assoc]
theorem kZ {T : Ty → Prop} : ∀ {l : List Alt}, xB T l ↔ ∀ x ∈ l, allT T x.body
 | [] => by simp [xB]
 | .mk _ _ _ _ c :: l => by rw [xB, kZ (l := l)]; simp [Alt.body]
def Big : Nat := 250000000000
theorem aP5 {z : Str} (h : z.length ≤ 30) : m30 (vC z) = 31 := by
 unfold vC;rw [m30, cZ, fV, hY];unfold w30; omega
theorem aJ8 {f : Int} {nm : Str} {bs : List Bind} : (gvN f nm bs).length ≤ 1 + bs.length := by unfold gvN; split <;> simp; omega
theorem aDg {vs vs' : List Str} (h : A2 NR vs vs') : (vs'.map fun v => 1 + w30 v).sum ≤ (vs.map fun v => 1 + w30 v).sum := by
 induction h with
 | nil => exact le_refl _
 | cons r _ ih =>
  simp only [map_cons, sum_cons];have := r.w;omega
section
variable {clr : Core → List Str → Core} {T : Ty → Prop}
end
def uA (i : Nat) (al : List Alt) : List (Nat × AObj) := (fam 0 al).filter fun p => !Nat.beq p.1 (i + 800)
theorem uJ {a b : Nat} (h : a ≠ b) : Nat.beq a b = false := by
 cases hb : Nat.beq a b with
 | false => rfl
 | true => exact absurd (eq_of_beq_eq_true hb) h
theorem wL {i : Nat} {al : List Alt} {p : Nat × AObj} (h : p ∈ uA i al) : p ∈ fam 0 al ∧ p.1 ≠ i + 800 := by
 obtain ⟨h1, h2⟩ := mem_filter.1 h;refine ⟨h1, fun e => ?_⟩;rw [e, beq_refl] at h2; cases h2
theorem aBx {i : Nat} {al : List Alt} : TF (uA i al) := ⟨fun p hp => fJ.far p (wL hp).1, by
 have : ((uA i al).map (·.1)).Sublist ((fam 0 al).map (·.1)) := (List.filter_sublist ..).map _
 exact List.Nodup.sublist this kR, fun p hp => fJ.arr p (wL hp).1⟩
theorem pI : ∀ {l : List Alt} {k i x : Nat}, x ∈ c8 ((aS k l).set i []) → ∃ j, j < l.length ∧ j ≠ i ∧ x = k + j + 800
 | [], _, _, _, h => by simp [aS, c8] at h
 | a :: l, k, 0, x, h => by
  have h : x ∈ c8 (aS (k + 1) l) := by simpa [aS, c8, R.refsL] using h
  obtain ⟨p, hp, e⟩ := mem_map.1 (cR x h);obtain ⟨j, b, hj, rfl⟩ := mW hp;have hlt : j < l.length := (List.getElem?_eq_some_iff.1 hj).1
  exact ⟨j + 1, by simp; exact hlt, by omega, by rw [← e]; show k + 1 + j + 800 = _; omega⟩
 | a :: l, k, i + 1, x, h => by
  rcases mem_append.1 (show x ∈ R.refsL (dH k a) ++ c8 ((aS (k + 1) l).set i []) from h) with h | h
  ·exact ⟨0, by simp, by omega, by rw [pD h]⟩
  ·obtain ⟨j, h1, h2, h3⟩ := pI h;exact ⟨j + 1, by simp; exact h1, by omega, by omega⟩
theorem aOe {i j : Nat} {al : List Alt} (h : j < al.length) (hne : j ≠ i) : 0 + j + 800 ∈ keys (uA i al) := by
 obtain ⟨a, ha⟩ := aK h;exact mem_map.2 ⟨_, mem_filter.2 ⟨yW ha, by simp only [uJ (show 0 + j + 800 ≠ i + 800 by omega)]; rfl⟩, rfl⟩
theorem v7 {i j : Nat} (h : j ≠ 704) (h' : j ≠ i + 800) : swp 704 (i + 800) j = j := by unfold swp; rw [uJ h, uJ h']; rfl
theorem sY {σ : Nat → Nat} : ∀ {l : List Alt} {k i : Nat} {a : Alt} {r : List R}, l[i]? = some a → (∀ j, j < l.length → j ≠ i → σ (k + j + 800) = k + j + 800) → R.renL σ r = dH (k + i) a → lV σ ((aS k l).set i r) = aS k l
 | b :: l, k, 0, a, r, h, hσ, hr => by
  simp at h; subst h;show R.renL σ r :: lV σ (aS (k + 1) l) = _;have key : ∀ (l : List Alt) (k : Nat), (∀ j, j < l.length → σ (k + j + 800) = k + j + 800) → lV σ (aS k l) = aS k l := by
   intro l
   induction l with
   | nil => intro _ _; rfl
   | cons c l ih =>
    intro k hk;simp only [aS, lV]
    rw [jN, show σ (k + 800) = k + 800 from hk 0 (by simp), ih (k + 1) fun j hj => by
     have := hk (j + 1) (by simp; exact hj)
     rwa [show k + (j + 1) + 800 = k + 1 + j + 800 by omega] at this]; rfl
  rw [hr, key l (k + 1) fun j hj => by
   have := hσ (j + 1) (by simp; exact hj) (by omega)
   rwa [show k + (j + 1) + 800 = k + 1 + j + 800 by omega] at this]; rfl
 | b :: l, k, i + 1, a, r, h, hσ, hr => by
  show R.renL σ (dH k b) :: lV σ ((aS (k + 1) l).set i r) = _
  rw [jN, show σ (k + 800) = k + 800 from hσ 0 (by simp) (by omega), sY (l := l) (k := k + 1) (a := a) (by simpa using h) (fun j hj hne => by
   have := hσ (j + 1) (by simp; exact hj) (by omega)
   rwa [show k + (j + 1) + 800 = k + 1 + j + 800 by omega] at this) (by rw [hr, show k + 1 + i = k + (i + 1) by omega])]; rfl
theorem aJz {i : Nat} {al : List Alt} {j : Nat} (h : j ≠ i + 800) : Go.AM.look (uA i al) j = Go.AM.look (fam 0 al) j := by
 unfold uA;generalize fam 0 al = F
 induction F with
 | nil => rfl
 | cons p F ih =>
  obtain ⟨k, o⟩ := p;rw [filter_cons];simp only [Go.AM.look];by_cases hk : k = i + 800
  ·rw [hk, beq_refl];simp only [Bool.not_true, Bool.false_eq_true, if_false];rw [ih, uJ h]; rfl
  ·rw [uJ hk];simp only [Bool.not_false, if_true, Go.AM.look];cases Nat.beq j k
   ·simpa using ih
   ·rfl
theorem aOd {i : Nat} {al : List Alt} : renH (swp 704 (i + 800)) (uA i al) = uA i al := by
 have key : ∀ F : List (Nat × AObj), (∀ p ∈ F, p ∈ uA i al) → renH (swp 704 (i + 800)) F = F := by
  intro F
  induction F with
  | nil => intro _; rfl
  | cons p F ih =>
   intro h;have hp := wL (h p mem_cons_self);obtain ⟨te, es, l, z, e⟩ := fJ.arr p hp.1;have hfar := fJ.far p hp.1;show (swp 704 (i + 800) p.1, p.2.ren _) :: renH _ F = _;rw [ih fun q hq => h q (mem_cons_of_mem _ hq), v7 (by omega) hp.2, e];show (p.1, AObj.arr te es l z) :: F = _;rw [← e]
 exact key _ fun _ h => h
abbrev aX (i : Nat) (al : List Alt) (a : Alt) (nv : Nat) : List (Nat × AObj) := aH ((aS 0 al).set i []) i a.form a.n a.name nv a.vars a.body ++ uA i al
theorem aJ0 {i : Nat} {al : List Alt} {a : Alt} (hai : al[i]? = some a) : Go.AM.look (renH (swp 704 (i + 800)) (aX i al a a.vars.length)) = Go.AM.look ((703, .rarr 78 14 (aS 0 al)) :: fam 0 al) := by
 have e1 : renH (swp 704 (i + 800)) (aX i al a a.vars.length) = (703, .rarr 78 14 (aS 0 al)) :: (i + 800, .arr 9 1 (a.vars.map bN) 0) :: uA i al := by
  unfold aX aH;show (swp 704 (i + 800) 703, AObj.rarr _ _ (lV _ _)) :: (swp 704 (i + 800) 704, AObj.arr _ _ _ _) :: renH _ (uA i al) = _;rw [aOd, v7 (by omega) (by omega), aUp];have h704 : swp 704 (i + 800) 704 = i + 800 := by unfold swp; rw [beq_refl]; rfl
  rw [h704, sY hai (fun j hj hne => v7 (by omega) (by omega)) ?_];unfold aDm dH;simp only [cons_append, nil_append, R.renL, R.ren, aIp, h704, zero_add]
 rw [e1];funext j;by_cases h1 : j = 703
 ·subst h1; rw [dE, dE]
 rw [dT h1, dT h1];by_cases h2 : j = i + 800
 ·subst h2;rw [dE];have := oI (kR (l := al) (k := 0)) _ (yW hai);rw [zero_add] at this;exact this.symm
 ·rw [dT h2, aJz h2]
theorem mK : ∀ {l : List Alt} {k i : Nat} {a' : Alt}, (aS k (l.set i a')).set i [] = (aS k l).set i []
 | [], _, _, _ => rfl
 | b :: l, k, 0, a' => rfl
 | b :: l, k, i + 1, a' => by
  simp only [set_cons_succ, aS];rw [mK]
theorem aOc {i : Nat} {al : List Alt} {a' : Alt} : uA i (al.set i a') = uA i al := by
 unfold uA;have key : ∀ (l : List Alt) (k j : Nat), k + j = i → ((fam k (l.set j a')).filter fun p => !Nat.beq p.1 (i + 800)) = (fam k l).filter fun p => !Nat.beq p.1 (i + 800) := by
  intro l
  induction l with
  | nil => intro _ _ _; rfl
  | cons b l ih =>
   intro k j h;cases j with
   | zero =>
    have e : k = i := by omega
    subst e;simp only [List.set_cons_zero, fam, filter_cons, beq_refl, Bool.not_true];rfl
   | succ j =>
    simp only [set_cons_succ, fam, filter_cons];rw [ih (k + 1) j (by omega)]
 exact key al 0 i (by omega)
theorem aS2 (al : List Alt) (i : Nat) (a : Alt) (hai : al[i]? = some a) (s : Str) (b : Core) (sb : Core → Str → Core → Core) (P : Core → Prop) (hok : PutOk sb P s b [a.body])
  (hM : (pfR a.body).length + 2 * a.vars.length + (pfR b).length + 1 ≤ 540000000000) (nv : Nat) (hnv : nv = a.vars.length) (na : Nat) (hna : na = al.length) :
  ∃ q, (dN sb s b a.vars [a.body]).2 = [q] ∧ aU Tryz.prog 68 [.ma [.ras nv 1 (vR i nv nv).flatten, .ras 1 1 [.rp 703 i 4 na]], Go.AM.T s, .pa (aC b)] ((703, .rarr 78 14 (aS 0 al)) :: fam 0 al) (.tup [])
   ((703, .rarr 78 14 (aS 0 (al.set i (.mk a.form a.n a.name (dN sb s b a.vars [a.body]).1 q)))) :: fam 0 (al.set i (.mk a.form a.n a.name (dN sb s b a.vars [a.body]).1 q))) := by
 subst hnv; subst hna;have hlt : i < al.length := (List.getElem?_eq_some_iff.1 hai).1
 have hrl : ((aS 0 al).set i []).length = al.length := by rw [length_set, eC]
 have hr : ∀ x ∈ c8 ((aS 0 al).set i []), x ∈ keys (uA i al) := fun x hx => by
  obtain ⟨j, h1, h2, rfl⟩ := pI hx;exact aOe h1 h2
 obtain ⟨q, hq, h⟩ := aWo ((aS 0 al).set i []) i a.form a.n a.name a.vars.length a.vars a.body (uA i al) s b sb P aBx hr (by omega) rfl hok hM;refine ⟨q, hq, ?_⟩;have hl1 := (pT (sb := sb) (s := s) (b := b) (ns := a.vars) (ps := [a.body])).1
 rw [hrl] at h;have hsub : ∀ (ns : List Str) (p : Core), subset (dG (aH ((aS 0 al).set i []) i a.form a.n a.name a.vars.length ns p ++ uA i al)) (keys (aH ((aS 0 al).set i []) i a.form a.n a.name a.vars.length ns p ++ uA i al)) = true := fun ns p => eJ (n7 aBx (aHW aBx hr).refs)
 have h2 := aU.swap 704 (i + 800) h (hsub _ _) (eJ fun x hx => by
  have hx : x ∈ (grO (aN a.vars.length) (aP i al.length)).refs ++ ([] ++ ([] ++ [])) := hx;rw [append_nil, append_nil, append_nil] at hx;rcases aCc x hx with rfl | rfl
  ·simp [aH, keys]
  ·simp [aH, keys]) (hsub _ _) rfl
 have ea : V.renL (swp 704 (i + 800)) [gpV (aN a.vars.length) (aP i al.length), Go.AM.T s, .pa (aC b)] = [.ma [.ras a.vars.length 1 (vR i a.vars.length a.vars.length).flatten, .ras 1 1 [.rp 703 i 4 al.length]], Go.AM.T s, .pa (aC b)] := by
  have h704 : swp 704 (i + 800) 704 = i + 800 := by unfold swp; rw [beq_refl]; rfl
  have en : R.renL (swp 704 (i + 800)) (aN a.vars.length) = (vR i a.vars.length a.vars.length).flatten := by
   unfold aN vR rgR;generalize List.range a.vars.length = rg
   induction rg with
   | nil => rfl
   | cons j rg ih =>
    simp only [map_cons, flatten_cons, List.singleton_append, R.renL, R.ren, h704] at ih ⊢;rw [ih]
  unfold gpV aP;simp only [V.renL, V.ren, R.renL, R.ren, en, aQ7, v7 (show 703 ≠ 704 by omega) (show 703 ≠ i + 800 by omega)];rfl
 rw [ea] at h2;refine aU.row h2 (aJ0 hai).symm ?_;have hai' : (al.set i (.mk a.form a.n a.name (dN sb s b a.vars [a.body]).1 q))[i]? = some (.mk a.form a.n a.name (dN sb s b a.vars [a.body]).1 q) := List.getElem?_set_self hlt;have h3 := aJ0 hai';unfold aX at h3;rw [mK, aOc] at h3;rw [← h3];show Go.AM.look (renH _ (aH _ i a.form a.n a.name (dN sb s b a.vars [a.body]).1.length _ _ ++ uA i al)) = _;rw [hl1];rfl
def gM (h : cK) : Prop := ∀ i, 800 ≤ i → h i = none
theorem gM.nil : gM (Go.AM.look []) := fun _ _ => rfl
theorem gM.upd {h : cK} {k : Nat} {x : Option AObj} (hf : gM h) (hk : Nat.blt k 800 = true := by rfl) : gM (upd h k x) := fun i hi => by
 have := le_of_ble_eq_true hk;rw [b7 _ _ _ (by omega)]; exact hf i hi
theorem aP0 : ∀ bs : List Bind, mkB (bs.map Bind.ty) (bs.map Bind.name) (bs.map Bind.body) = bs
 | [] => rfl
 | .mk s t c :: bs => by
  show Bind.mk s t c :: mkB _ _ _ = _;rw [aP0 bs]
theorem aYh {b : Bool} {nk nb : Nat} (h : b = false) : oJ b nk nb = [.ras (tN nb).length 1 (tN nb), .ras (tP nk nb).length 1 (tP nk nb)] := by
 subst h;have e1 : (nR false nb nb).length = (tN nb).length := by unfold tN; rw [lL aH8, mul_one]
 have e2 : (pR nk nb nb).length = (tP nk nb).length := by unfold tP; rw [lL tJ, mul_one]
 unfold oJ;rw [e1, e2]; rfl
section
variable {clr : Core → List Str → Core} {k : Nat}
noncomputable def nD (sb : Core → Str → Core → Core) (s : Str) (b : Core) (a : Alt) : Alt := .mk a.form a.n a.name (dN sb s b a.vars [a.body]).1 ((dN sb s b a.vars [a.body]).2.headD a.body)
noncomputable def s5 (sb : Core → Str → Core → Core) (s : Str) (b : Core) (al : List Alt) (i : Nat) : List Alt := (al.take i).map (nD sb s b) ++ al.drop i
theorem x8 {sb : Core → Str → Core → Core} {s : Str} {b : Core} {al : List Alt} {i : Nat} : (s5 sb s b al i).length = al.length := by unfold s5; simp; omega
theorem aTk {sb : Core → Str → Core → Core} {s : Str} {b : Core} {al : List Alt} {i : Nat} {a : Alt} (h : al[i]? = some a) : (s5 sb s b al i)[i]? = some a := by
 have hlt : i < al.length := (List.getElem?_eq_some_iff.1 h).1
 unfold s5;rw [List.getElem?_append_right (by simp; omega), length_map, length_take, min_eq_left (by omega), sub_self, List.getElem?_drop, add_zero, h]
theorem aL6 {sb : Core → Str → Core → Core} {s : Str} {b : Core} {al : List Alt} {i : Nat} {a : Alt} (h : al[i]? = some a) : s5 sb s b al (i + 1) = (s5 sb s b al i).set i (nD sb s b a) := by
 have hlt : i < al.length := (List.getElem?_eq_some_iff.1 h).1
 unfold s5;rw [oN h, qT (by simp; omega), take_add_one, h];simp
theorem aL5 {sb : Core → Str → Core → Core} {s : Str} {b : Core} {al : List Alt} : s5 sb s b al 0 = al := by simp [s5]
theorem aO6 {sb : Core → Str → Core → Core} {s : Str} {b : Core} {al : List Alt} : s5 sb s b al al.length = al.map (nD sb s b) := by simp [s5]
noncomputable def zNm (sb : Core → Str → Core → Core) (f : Int) (nm : Str) (s : Str) (b : Core) (ks : List Core) (bs : List Bind) : Nat → Str
 | 0 => nm
 | _ + 1 => if f = 5 then (dN sb s b (gvN f nm bs) (ks ++ bs.map Bind.body)).1.headD nm else nm
noncomputable def zKs (sb : Core → Str → Core → Core) (f : Int) (nm : Str) (s : Str) (b : Core) (ks : List Core) (bs : List Bind) : Nat → List Core
 | 0 => ks
 | _ + 1 => (dN sb s b (gvN f nm bs) (ks ++ bs.map Bind.body)).2.take ks.length
noncomputable def zBs (sb : Core → Str → Core → Core) (f : Int) (nm : Str) (s : Str) (b : Core) (ks : List Core) (bs : List Bind) : Nat → List Bind
 | 0 => bs
 | _ + 1 => mkB (bs.map Bind.ty) (dN sb s b (gvN f nm bs) (ks ++ bs.map Bind.body)).1 ((dN sb s b (gvN f nm bs) (ks ++ bs.map Bind.body)).2.drop ks.length)
noncomputable def zAs (sb : Core → Str → Core → Core) (s : Str) (b : Core) (al : List Alt) : Nat → List Alt
 | 0 => al
 | i + 1 => s5 sb s b al i
theorem wK : ∀ {l m : List Alt} {k : Nat}, l.length = m.length → keys (fam k l) = keys (fam k m)
 | [], [], _, _ => rfl
 | a :: l, c :: m, k, h => by
  show (k + 800) :: keys (fam (k + 1) l) = (k + 800) :: keys (fam (k + 1) m);rw [wK (by simpa using h)]
end
def vT (z : Str) : Ty := .mk 2 0 z []
theorem aFc (n : Int) (nm : Str) (t : Ty) (kid : Core) (far : List Str) (hfar : far.length ≤ 540000000000) (hno : ¬ nm ∈ far) :
  aU Tryz.prog 62 [.one (.vp 700 0), bU far] (gHl 7 n nm t [kid] [] []) (.tup []) (gHl 7 n nm t [kid] [] []) := by
 have hct := bW far nm (by omega);rw [decide_eq_false hno] at hct;refine bT (n := 44) tok Tryz.func62 rfl rfl rfl ?_;refine a8 (aE mixed ?_);refine ak 5 [] rfl ?_;refine kc hct ?_;refine az ?_;refine aA rfl (fun hb => by cases hb) (fun hb => ?_);refine aD ?_;exact ⟨.inl rfl, ⟨[], [], .nil, .nil, rfl⟩, ⟨⟨_, rfl, .var rfl⟩, ⟨_, rfl, .arr⟩, ⟨_, rfl, .arr⟩, ⟨_, rfl, .rarr rfl⟩, trivial⟩, rfl⟩
theorem aFb (n : Int) (nm : Str) (t : Ty) (kid kid' : Core) (far : List Str) (hfar : far.length ≤ 540000000000) (hin : nm ∈ far) (hI : dR 540000000000) (hty : aU Tryz.prog 61 [.pa (aC kid)] [] (bU (tyR kid)) []) (htl : far.length + (tyR kid).length ≤ 540000000000)
  (hs : aU Tryz.prog 23 [.pa (aC kid), Go.AM.T nm, tyV (vT (b8 (far ++ tyR kid)))] [] (.pa (aC kid')) []) :
  aU Tryz.prog 62 [.one (.vp 700 0), bU far] (gHl 7 n nm t [kid] [] []) (.tup []) (gHl 7 n (b8 (far ++ tyR kid)) t [kid'] [] []) := by
 have hct := bW far nm (by omega);rw [decide_eq_true hin] at hct;have hcl := mJ (far.map bN) (by rw [length_map]; omega);have hfl : (far.map bN).length = far.length := length_map _;have htl2 : ((tyR kid).map bN).length = (tyR kid).length := length_map _;have hfr := wW (far ++ tyR kid) (by rw [length_append]; omega) fun k hk => hI k (by rw [length_append] at hk; omega)
 generalize b8 (far ++ tyR kid) = z at hs hfr ⊢;refine bT (n := 44) tok Tryz.func62 rfl rfl rfl ?_;refine a8 (aE mixed ?_);refine ak 5 [] rfl ?_;refine kc hct ?_;refine az ?_;refine aA rfl (fun hb => ?_) (fun hb => by cases hb);refine a8 (aE mixed ?_);refine ak 1 [] rfl ?_;refine kc hcl ?_;refine ak 6 [(7, .row 0 (aC kid))] rfl ?_;refine kc hty ?_;refine ak 1 [(9, .fz)] rfl ?_;refine kc hfr ?_;refine ak 1 [] rfl ?_;refine az ?_;refine a8 (aE mixed ?_);refine ak 15 [(9, .row 0 (aC kid))] rfl ?_;refine kc (aQo z) ?_;refine kc hs ?_;refine ak 2 [(18, .row 0 (aC kid))] rfl ?_;refine az ?_;refine ag [] rfl ?_;exact ⟨.inl rfl, ⟨[], [], .nil, .nil, rfl⟩, ⟨⟨_, rfl, .var rfl⟩, ⟨_, rfl, .arr⟩, ⟨_, rfl, .arr⟩, ⟨_, rfl, .rarr rfl⟩, trivial⟩, rfl⟩
theorem aYr (name : Str) (by_ t t' : Ty) (h : aU Tryz.prog 65 [tyV t, bU [name], .one (.c (.sl 4 [bD by_]))] [] (tyV t') []) :
  aU Tryz.prog 64 [tyV t, .one (.vp 4 0), .one (.vp 5 0)] [(4, .var 9 [.c (.str name)]), (5, .var 33 ((bD by_).map R.c))] (tyV t') [(4, .var 9 [.c (.str name)]), (5, .var 33 ((bD by_).map R.c))] := by
 refine bT (n := 11) tok Tryz.func64 rfl rfl rfl ?_;refine a8 (ag [(0, .id 730), (1, .id 731)] rfl ?_);refine a8 (aE mixed ?_);refine ak 5 [(2, .all), (4, .all)] rfl ?_;refine kc h ?_;refine ak 1 [] rfl ?_;refine az ?_;exact aI (rtC trw)
def iR (ts : Ty → Ty) (sb : Core → Core) : Core → Core
 | .mk f n nm t ks bs al => .mk f n nm (ts t) (ks.map sb) (bs.map fun b => .mk b.name (ts b.ty) (sb b.body)) (al.map fun a => .mk a.form a.n a.name a.vars (sb a.body))
def tsB (ts : Ty → Ty) (b : Bind) : Bind := .mk b.name (ts b.ty) b.body
section
variable {α : Type} {g : α → α}
def kM (g : α → α) (bs : List α) (j : Nat) : List α := (bs.take j).map g ++ bs.drop j
theorem lI {bs : List α} {j : Nat} : (kM g bs j).length = bs.length := by unfold kM; simp; omega
theorem vZ {bs : List α} {j : Nat} {b : α} (h : bs[j]? = some b) : (kM g bs j)[j]? = some b := by
 have hlt : j < bs.length := (List.getElem?_eq_some_iff.1 h).1
 unfold kM;rw [List.getElem?_append_right (by simp; omega), length_map, length_take, min_eq_left (by omega), sub_self, List.getElem?_drop, add_zero, h]
theorem nH {bs : List α} {j : Nat} {b : α} (h : bs[j]? = some b) : kM g bs (j + 1) = (kM g bs j).set j (g b) := by
 have hlt : j < bs.length := (List.getElem?_eq_some_iff.1 h).1
 unfold kM;rw [oN h, qT (by simp; omega), take_add_one, h];simp
theorem kL {bs : List α} : kM g bs 0 = bs := by simp [kM]
theorem aNx {bs : List α} : kM g bs bs.length = bs.map g := by simp [kM]
theorem vY {bs : List α} {j : Nat} (h : bs.length ≤ j) : kM g bs j = bs.map g := by unfold kM; rw [take_of_length_le h, List.drop_eq_nil_of_le h, append_nil]
end
def sbB (sb : Core → Core) (b : Bind) : Bind := .mk b.name b.ty (sb b.body)
def sbA (sb : Core → Core) (a : Alt) : Alt := .mk a.form a.n a.name a.vars (sb a.body)
theorem s4 : ∀ {l : List Alt} {k i : Nat} {a : Alt}, aS k (l.set i a) = (aS k l).set i (dH (k + i) a)
 | [], _, _, _ => rfl
 | b :: l, k, 0, a => rfl
 | b :: l, k, i + 1, a => by
  simp only [set_cons_succ, aS];rw [s4 (l := l) (k := k + 1), show k + 1 + i = k + (i + 1) by omega]
theorem aEx (sb : Core → Core) : ∀ (l : List Alt) (k j : Nat), fam k (kM (sbA sb) l j) = fam k l
 | [], _, _ => by simp [kM]
 | a :: l, k, 0 => by rw [kL]
 | a :: l, k, j + 1 => by
  have e : kM (sbA sb) (a :: l) (j + 1) = sbA sb a :: kM (sbA sb) l j := rfl;rw [e];show (k + 800, AObj.arr 9 1 (a.vars.map bN) 0) :: fam (k + 1) _ = _;rw [aEx sb l (k + 1) j]; rfl
theorem aM3 {f n : Int} {nm : Str} {t : Ty} {ks : List Core} {bs : List Bind} {al : List Alt} {r v : Nat}
  (hr : Nat.blt r 700 = true) (hv : Nat.blt v 700 = true) {st1 : St} (hF : FarEq st1.h (fam 0 al)) (he : eQ (fun p : Nat × V => st1.e p.1 = some (p.2.ren (fun i => i))) [(r, V.one (.vp r 0)), (v, V.one (.vp 700 0))])
  (hh : eQ (fun p : Nat × AObj => ∃ o, st1.h p.1 = some o ∧ Ole (fun i => i) o p.2) (gHl f n nm t ks bs al)) (h6 : ∃ o, st1.h r = some o ∧ Ole (fun i => i) o (.var 37 bS)) (hd : st1.d = []) (hne : r ≠ v) :
  Sub [] (mk [(r, .one (.vp r 0)), (v, .one (.vp 700 0))] [(r, .var 37 bS), (700, .var 37 (bB (.mk f n nm t ks bs al)))]) st1 := by
 have hr' := le_of_ble_eq_true hr;have hv' := le_of_ble_eq_true hv;have hTF : TF (fam 0 al) := fJ;have hel : ∀ x ∈ n8 [(r, V.one (.vp r 0)), (v, V.one (.vp 700 0))], x = r ∨ x = 700 := fun x hx => by simpa [n8, V.refs, R.refs] using hx
 have hdist : Go.AM.distinct (List.map (fun p : Nat × AObj => p.1) (oHl ks bs al ++ [(700, .var 37 (eD f n nm t ks.length bs.length al.length)), (r, .var 37 bS)])) = true := by
  refine fM ?_;simp [oHl];omega
 have hnear : ((oHl ks bs al ++ [(700, AObj.var 37 (eD f n nm t ks.length bs.length al.length)), (r, .var 37 bS)]).all fun p => Nat.blt p.1 800) = true := by
  simp [oHl, aGw (show r < 800 by omega)]
 have s1 : Sub [] (mkt [(r, .one (.vp r 0)), (v, .one (.vp 700 0))] (oHl ks bs al ++ [(700, .var 37 (eD f n nm t ks.length bs.length al.length)), (r, .var 37 bS)]) (fam 0 al)) st1 := by
  obtain ⟨h0, h1, h2, h3, _⟩ := hh;refine slT hTF hF (fun x hx => .inl ?_) (fun x hx => ?_) (fun _ h => by cases h) (he := he) (hh := ⟨h1, h2, h3, h0, h6, trivial⟩) (hd := hd) (h3 := hdist) (h3' := hnear)
  ·rcases hel x hx with rfl | rfl <;> simp [oHl, keys]
  ·rw [iF] at hx;rcases mem_append.1 hx with hx | hx
   ·exact .inr (cR x (by simpa [oHl, dG, AObj.refs] using hx))
   ·refine .inl ?_;have hx : x = 702 ∨ x = 701 ∨ x = 703 := by simpa [dG, AObj.refs, eD, bS, R.refsL, R.refs] using hx
    rcases hx with rfl | rfl | rfl <;> simp [oHl, keys]
 have s2 := oD (kf := []) (el := [(r, .one (.vp r 0)), (v, .one (.vp 700 0))]) (ex := [(700, .var 37 (eD f n nm t ks.length bs.length al.length)), (r, .var 37 bS)]) (ks := ks) (bs := bs) (al := al) (by simp)
  (fun x hx => by
    rcases hel x hx with rfl | rfl
    ·exact .inr (.inl (by simp [keys]))
    ·exact .inr (.inl (by simp [keys])))
  ⟨fun x hx => by
    have hx : x = 702 ∨ x = 701 ∨ x = 703 := by simpa [AObj.refs, eD, R.refsL, R.refs] using hx
    rcases hx with rfl | rfl | rfl <;> exact .inl (by simp [oHl, keys]), fun x hx => by simp [AObj.refs, bS, R.refsL, R.refs] at hx, trivial⟩
  (fun _ h => by cases h) hdist (by simp [aGw (show r < 800 by omega)]) (by simp; exact hne) (fun p hp => by
   rcases mem_cons.1 hp with rfl | hp
   ·rfl
   ·rw [mem_singleton.1 hp]; rfl)
 have e1 : fzH 703 (.ra al.length 14 (aS 0 al).flatten) ([(701, .arr 73 15 (aR bs) 2), (702, .arr 37 10 (aQ ks) 2)] ++ [(700, .var 37 (eD f n nm t ks.length bs.length al.length)), (r, .var 37 bS)])
   = [(701, .arr 73 15 (aR bs) 2), (702, .arr 37 10 (aQ ks) 2), (700, .var 37 (j2 f n nm t ks.length bs.length al)), (r, .var 37 bS)] := by
  unfold eD j2;show [(701, _), (702, _), (700, AObj.var _ (R.fzL _ _ _)), (r, AObj.var _ (R.fzL _ _ _))] = _;simp only [R.fzL, R.fz, beq_refl, if_true, Bool.and_self];rfl
 have e2 : fzE 703 (.ra al.length 14 (aS 0 al).flatten) [(r, .one (.vp r 0)), (v, .one (.vp 700 0))] = [(r, .one (.vp r 0)), (v, .one (.vp 700 0))] := rfl;rw [e1, e2] at s2;have hFz : TF (wH (fam 0 al)) := hTF.frz;have hn4 : (([(701, AObj.arr 73 15 (aR bs) 2), (702, .arr 37 10 (aQ ks) 2), (700, .var 37 (j2 f n nm t ks.length bs.length al)), (r, .var 37 bS)] : List (Nat × AObj)).all fun p => Nat.blt p.1 800) = true := by simp [aGw (show r < 800 by omega)]
 obtain ⟨ids, hp⟩ := r3 (h := (mkt [(r, .one (.vp r 0)), (v, .one (.vp 700 0))] [(701, .arr 73 15 (aR bs) 2), (702, .arr 37 10 (aQ ks) 2), (700, .var 37 (j2 f n nm t ks.length bs.length al)), (r, .var 37 bS)] (wH (fam 0 al))).h) (f := f) (n := n) (s := nm) (t := t) (ks := ks) (bs := bs) (al := al) rfl rfl (FarEq.mkt hFz hn4);have s3 := Sub.varPure (kf := []) (st := mkt [(r, .one (.vp r 0)), (v, .one (.vp 700 0))] [(701, .arr 73 15 (aR bs) 2), (702, .arr 37 10 (aQ ks) 2), (700, .var 37 (j2 f n nm t ks.length bs.length al)), (r, .var 37 bS)] (wH (fam 0 al))) (x := 700) (tv := 37) rfl hp;refine Sub.trans ?_ (Sub.trans s3 (Sub.trans s2 s1));have n700 : r ≠ 700 := by omega
 refine Sub.list (fun i => i) ?_ ?_ ?_
 ·have hrv : Nat.beq v r = false := uJ (Ne.symm hne);refine ⟨?_, ?_, trivial⟩
  ·show Go.AM.look [(r, V.one (.vp r 0)), (v, V.one (.vp 700 0))] r = _;rw [dE]; rfl
  ·show Go.AM.look [(r, V.one (.vp r 0)), (v, V.one (.vp 700 0))] v = _;rw [dT (Ne.symm hne), dE]; rfl
 ·refine ⟨⟨.var 37 bS, ?_, .var rfl⟩, ⟨.var 37 (bB (.mk f n nm t ks bs al)), ?_, .var (aIp _).symm⟩, trivial⟩
  ·show upd _ 700 _ r = _;rw [b7 _ _ _ n700];show (match Go.AM.look [(701, AObj.arr 73 15 (aR bs) 2), (702, .arr 37 10 (aQ ks) 2), (700, .var 37 (j2 f n nm t ks.length bs.length al)), (r, .var 37 bS)] r with | some x => some x | none => _) = _;rw [dT (by omega), dT (by omega), dT (by omega), dE]
  ·dsimp only;rw [aJ];rfl
 ·simp only [aTu, Bool.and_eq_true];refine ⟨⟨⟨⟨⟨eJ fun x hx => ?_, eJ fun x hx => ?_⟩, fM ?_⟩, rfl⟩, rfl⟩, rfl⟩
  ·rcases hel x hx with rfl | rfl <;> simp
  ·have : x ∈ R.refsL bS ++ (R.refsL (bB (.mk f n nm t ks bs al)) ++ []) := hx;simp [bS, bB, aC, R.refsL, R.refs] at this
  ·simp; exact n700
end Go.Proofs.YtmoekkcdkjopgaaGreatDoor
