/-
  LiftChecks: which combinators are such is the document's
-/
import Derived.Test.YtlegeikmepnmcaaDoorM8
import Derived.Test.YtlegeikmepnmcaaDoorCards
import Derived.Test.YtlegeikmepnmcaaDoorTie
import Derived.ProofKit
import Derived.Lib.LaidTab
import Derived.Stop.LaidErr
import Derived.OpenShut
import Derived.LaidMore
import Derived.Lay
import Derived.SevenTiedAt
import Derived.Stop.Joined
open List (all_cons all_eq_true append_assoc append_nil cons_append count_le_length drop_eq_getElem_cons drop_length drop_of_length_le eq_nil_of_length_eq_zero length_append length_cons length_drop length_map length_nil length_set length_singleton length_take map_append map_cons map_map map_nil map_take mem_append mem_cons mem_cons_of_mem mem_cons_self mem_map mem_of_mem_take mem_singleton nil_append nodup_append nodup_nil range_succ take_length take_zero)
open Nat (add_assoc le_add_right le_refl le_trans zero_add zero_le)
namespace Go.Proofs.YtlegeikmepnmcaaDoor
open Go Go.AM
set_option maxRecDepth 20000
theorem aF1 {m m' : CM} {of : Str} {made made' : List Sup} {c c' : Core}
  (hf : bN Tryd.prog 37 [.one (.vp 810 0), .pa (aE c), .one (.mr 800)] (lH 800 of made m) (.pa (aE c')) (lH 800 of made' m')) :
  bN Tryd.prog 36 ([R.vp 8 0, R.vp 7 0, R.vp 9 0].map V.one) [(800, cR m), (8, .var 73 [.vp 810 0]), (7, .var 38 (bT c)), (9, .var mT [.mr 800]), (810, lfO of made), (901, kQ made)] (.tup []) [(800, cR m'), (8, .var 73 [.vp 810 0]), (7, .var 38 (bT c')), (9, .var mT [.mr 800]), (810, lfO of made'), (901, kQ made')] := by
 refine cT (n := 7) tok Tryd.func36 rfl rfl rfl ?_;refine aJ mixed ?_;refine ak 3 [] rfl ?_;refine kc hf ?_;refine ak 1 [] rfl ?_;refine az ?_;exact ⟨.inl rfl, ⟨_, _, .nil, .nil, rfl⟩, ⟨⟨_, rfl, .map⟩, ⟨_, rfl, .var rfl⟩, ⟨_, rfl, .var rfl⟩, ⟨_, rfl, .var rfl⟩, ⟨_, rfl, .var rfl⟩, ⟨_, rfl, .arr⟩, trivial⟩, rfl⟩
structure POk (b : Bind) : Prop where
 ok : BOk b
 few : aIf (bJ b.body) (fun x => decide (x ∈ aW b.body))
 lams : cE (bJ b.body) ≤ 90
 cn : (aW b.body).length ≤ 100
theorem aH2 (l : List Bind) (hl : l.length ≤ 1000) (h : ∀ b ∈ l, POk b) : bN Tryd.prog 15 [.one (.c (.sl 15 (l.map aK)))] [] (aFk (fC l)) [(500, aI1 (fC l))] := by
 have hM : 1000000000 ≤ maxLen := by decide
 have hll := iI fun b hb => (h b hb).ok
 refine cT (n := 48) tok Tryd.func15 rfl rfl rfl ?_;refine a8 (ag [] rfl ?_);refine a8 (ag [] rfl ?_);refine AWp.sub (Sub.own (t := 3) (id := 500) 40 12 rfl rfl) ?_;refine a8 (a8 (ag [] rfl ?_));refine aB ?_;have hkl : (l.map aK).length = l.length := length_map _;refine aL (fun i : Nat => mk [(10, .one (.c (.sl 15 (l.map aK)))), (11, I .i64 ((l.map aK).length : Int)), (3, aFk (fC (l.take i))), (12, I .i64 i)] [(500, aI1 (fC (l.take i)))]) (fun i => i ≤ l.length) (fun i => l.length - i) 0 (zero_le _) sl ?_;intro i hi;refine a8 (ag [] rfl ?_);refine a8 (aA rfl (fun hb => ?_) (fun hb => ?_))
 ·have hlt := ltD hb hkl;obtain ⟨b, hbi⟩ := aI hlt;have hbi' := c6 aK hbi;have hm := List.mem_of_getElem? hbi;obtain ⟨⟨hw, hs, hn⟩, hfe, hla, hcn⟩ := h b hm;obtain ⟨w1, w2, w3, w4, w5, w6⟩ := iR _ b.body (le_refl _) hw;have hch := wN b.body w1 (by omega);have hsh : uW (aW b.body) := fun s hs' => by have := w5 s hs'; omega
  have hpa := wO (aW b.body) hcn hsh;have hst := oA hbi;rw [jY hw] at hst;have hlm := iI (l := l.take i) fun x hx => (h x (mem_of_mem_take hx)).ok
  rw [length_take] at hlm;have hpl := eZ b.name (bJ b.body) false (fun x => decide (x ∈ aW b.body)) [];simp only [length_nil] at hpl;have hti : ∀ s, 0 ≤ times s (aW b.body) ∧ times s (aW b.body) ≤ 100 := fun s => by
   have := gG s (aW b.body) (aW b.body).length;rw [take_length] at this;omega
  have hca : ∀ u, cnt (gE (aW b.body) []) u = times u (aW b.body) := fun u => by rw [cF]; show (0 : Int) + _ = _; omega
  obtain ⟨m2, hs2, hpt⟩ := aAm _ (bJ b.body) (le_refl _) b.name (gE (aW b.body) []) [] w2 hn (fun u => by
   have := hti u;rw [hca u]
   omega) (by omega) (by rw [eH]; exact hfe) (by simp; omega)
  rw [eH] at hpt;generalize bD b.name false (bJ b.body) (fun x => decide (x ∈ aW b.body)) [] = r at hpt hst hpl;have hp1 := aF1 (hpt.swap 801 800)
  have hp2 := dT (aW b.body) [] m2 _ _ [800, 8, 7, 9, 810, 901] (by omega) (fun u => by show (0 : Int) ≤ (0 : Int) ∧ (0 : Int) ≤ _; omega) (fun u => by
   have := hti u;have := hs2 u;rw [hca u] at this
   omega) (fun x => ⟨rfl, by kernel_rfl⟩) (fun x => ⟨rfl, by kernel_rfl⟩) rfl (by kernel_rfl) hp1
  generalize fC (l.take i) = X at hst hlm ⊢;refine aD ?_;refine a8 (aB (a8 (ag [(0, .row i (aK b))] rfl ?_)));refine a8 (ag [(2, .pc (.tup [b7 (aW b.body), .pa (aE (bJ b.body))]))] rfl ?_);refine a8 (ag [(3, .id 810)] rfl ?_);refine AWp.sub (Sub.ownCell (x := 810) (k := 1) (id := 901) 40 12 rfl rfl rfl) ?_;refine a8 (ag [(0, .id 800)] rfl ?_);refine a8 (aJ mixed ?_);refine ak 3 [] rfl ?_;refine kc hp2 ?_;refine az ?_;refine a8 (ag [(4, .pc (b7 (aX (aW b.body))))] rfl ?_);refine ag [(5, .all)] rfl ?_;refine ag [] rfl ?_;refine ⟨i + 1, hlt, by dsimp only; omega, ?_⟩;dsimp only;rw [hst];have hrows : X.map aY ++ [aY (Sup.mk b.name (aX (aW b.body)) r.1)] ++ r.2.map aY = (X ++ Sup.mk b.name (aX (aW b.body)) r.1 :: r.2).map aY := by
   rw [map_append, append_assoc]; rfl
  exact sl (he := ⟨rfl, rfl, Go.AM.hs_ren (by simp; omega) (by simp; omega), rfl, trivial⟩) (hh := ⟨⟨_, rfl, .arrS hrows⟩, trivial⟩)
 have hge := geD hb hkl hi;subst hge;rw [take_length];refine aM ?_;refine a8 (ag [] rfl ?_);exact aF (rtT (hc := .refl))
def tyd (b : Bind) : Bool := !decide (b.ty.form = 0)
theorem aF0 (b : Bind) : bN Tryd.prog 44 [.pa (aK b)] [] (B (tyd b)) [] := by
 refine cT (n := 7) tok Tryd.func44 rfl rfl rfl ?_;refine a8 (ag [] rfl ?_);refine a8 (ag [] rfl ?_);exact aF rtT
def aD8 {α : Type} (p : α → Bool) : List α → Nat → Int
 | [], _ => -1
 | x :: l, i => if p x then (i : Int) else aD8 p l (i + 1)
theorem zQ {α : Type} (p : α → Bool) : ∀ (l : List α) (i : Nat), decide (aD8 p l i ≥ 0) = l.any p
 | [], _ => rfl
 | x :: l, i => by
  rw [aD8, List.any_cons];cases h : p x
  ·rw [if_neg (by simp), zQ p l]; rfl
  ·rw [if_pos rfl, Bool.true_or]; simp
theorem pX (l : List Bind) (hl : l.length ≤ 1000000000) : bN Tryd.prog 61 [.one (.c (.sl 15 (l.map aK))), .one (.clo 44 [])] [] (I .i64 (aD8 tyd l 0)) [] := by
 have hkl : (l.map aK).length = l.length := length_map _;refine cT (n := 19) tok Tryd.func61 rfl rfl rfl ?_;refine a8 (ag [] rfl ?_);refine a8 (a8 (ag [] rfl ?_));refine aB ?_;refine aL (fun i : Nat => mk [(0, .one (.c (.sl 15 (l.map aK)))), (1, .one (.clo 44 [])), (7, I .i64 ((l.map aK).length : Int)), (8, I .i64 i)] []) (fun i => i ≤ l.length ∧ aD8 tyd l 0 = aD8 tyd (l.drop i) i) (fun i => l.length - i) 0 ⟨zero_le _, rfl⟩ sl ?_;intro i ⟨hi, hid⟩;refine a8 (ag [] rfl ?_);refine a8 (aA rfl (fun hb => ?_) (fun hb => ?_))
 ·have hlt := ltD hb hkl;obtain ⟨b, hbi⟩ := aI hlt;have hbi' := c6 aK hbi;have hc : bN Tryd.prog 44 ([.pa (aK b)] ++ ([] : List R).map V.one) [] (B (tyd b)) [] := aF0 b;have hdr : l.drop i = b :: l.drop (i + 1) := by rw [drop_eq_getElem_cons hlt, (List.getElem?_eq_some_iff.1 hbi).2]
  rw [hdr, aD8] at hid;refine aD ?_;refine a8 (aB (a8 (ag [] rfl ?_)));refine a8 (aJ mixed ?_);refine ak 5 [(3, .row i (aK b))] rfl ?_;refine kv (args := [.pa (aK b)]) hc ?_;refine az ?_;refine aA rfl (fun hb => ?_) (fun hb => ?_)
  ·have hb : tyd b = true := hb;rw [if_pos hb] at hid;rw [hid];refine a8 (ag [] rfl ?_);exact aF rtT
  ·have hb : tyd b = false := hb;rw [if_neg (by rw [hb]; exact Bool.false_ne_true)] at hid;refine aD ?_;refine ag [] rfl ?_;exact ⟨i + 1, ⟨hlt, hid⟩, by dsimp only; omega, sl⟩
 have hge := geD hb hkl hi;subst hge;rw [drop_length, aD8] at hid;rw [hid];refine aM ?_;refine a8 (ag [] rfl ?_);exact aF (rtT (v := I .i64 (-1)) (hc := .refl))
theorem lR (l : List Bind) (hl : l.length ≤ 1000000000) : bN Tryd.prog 43 [.one (.c (.sl 15 (l.map aK))), .one (.clo 44 [])] [] (B (l.any tyd)) [] := by
 have h := pX l hl;rw [← zQ tyd l 0];refine cT (n := 9) tok Tryd.func43 rfl rfl rfl ?_;refine a8 (ag [] rfl ?_);refine a8 (aJ mixed ?_);refine ak 2 [] rfl ?_;refine kc h ?_;refine ak 2 [] rfl ?_;refine az ?_;exact aF rtT
def sV : Nat := 4
def ftL (ep : R) (g : List Str) (ok : Bool) (ks : List Core) (bs : List Bind) (al : List Alt) : List (Nat × AObj) :=
 [(5, .var sV [.c (.bool ok)]), (2, .var mT [.mr 800]), (7, .var 88 [ep, .c (.sl 1 (g.map bF))]), (701, .arr 46 15 (aP bs) 0), (702, .arr 38 10 (bB ks) 0), (703, .arr 65 14 (bH al) 0)]
theorem wfT (ep : R) (g : List Str) (ok : Bool) (ks : List Core) (bs : List Bind) (al : List Alt) (h : ep.refs = [701] ∨ ep.refs = [702] ∨ ep.refs = [703]) (x : CM) : Wf [800, 5, 2, 7, 701, 702, 703] ((800, cR x) :: ftL ep g ok ks bs al) := by
 refine ⟨rfl, ?_⟩;rcases h with h | h | h <;> simp [ftL, eS, AObj.refs, cR, R.refsL, R.refs, h, subset, AObj.live, AObj.plain] <;> rfl
def aBo (c : Core) : Prop := ∀ m : CM, (∀ s, 0 ≤ cnt m s ∧ cnt m s + aG c ≤ 1000000000) → aG c ≤ 400000 →
 ∃ m', mB m m' ∧ bN Tryd.prog 26 [.one (.mr 800), .pa (aE c)] [(800, cR m)] (B (bK c (cA m))) [(800, cR m')]
theorem aAx {m m' : CM} {r : Bool} {ks : List Core} {bs : List Bind} {al : List Alt} (g : List Str) {j : Nat} {y : Bind} (hx : bs[j]? = some y) (ok : Bool) (hm : ok = false → m' = m)
  (hf : ok = true → bN Tryd.prog 26 [.one (.mr 800), .pa (aE y.body)] [(800, cR m)] (B r) [(800, cR m')]) :
  bN Tryd.prog 46 ([R.vp 5 0, R.vp 2 0, R.vp 7 0].map V.one) ((800, cR m) :: ftL (.ep 701 j 5 bs.length) g ok ks bs al) (.tup []) ((800, cR m') :: ftL (.ep 701 j 5 bs.length) g (ok && r) ks bs al) := by
 have hx' : (aP bs)[j]? = some (aK y) := cB hx;have hl : bs.length = (aP bs).length := by rw [aU, length_map]
 have hlt := (List.getElem?_eq_some_iff.1 hx).1
 cases ok with
 | false =>
  rw [hm rfl, Bool.false_and];refine cT (n := 12) tok Tryd.func46 rfl rfl rfl ?_;refine agN [] rfl ?_;exact ⟨.inl rfl, ⟨_, _, .nil, .nil, rfl⟩, ⟨⟨_, rfl, .map⟩, ⟨_, rfl, .var rfl⟩, ⟨_, rfl, .var rfl⟩, ⟨_, rfl, .var rfl⟩, ⟨_, rfl, .arr⟩, ⟨_, rfl, .arr⟩, ⟨_, rfl, .arr⟩, trivial⟩, rfl⟩
 | true =>
  have hf := hf rfl;rw [Bool.true_and];refine cT (n := 12) tok Tryd.func46 rfl rfl rfl ?_;refine aJ mixed ?_;refine ak 7 [(6, .row j (aK y))] rfl ?_;refine kcG hf ?_;refine ak 2 [] rfl ?_;refine az ?_;exact ⟨.inl rfl, ⟨_, _, .nil, .nil, rfl⟩, ⟨⟨_, rfl, .map⟩, ⟨_, rfl, .var rfl⟩, ⟨_, rfl, .var rfl⟩, ⟨_, rfl, .var rfl⟩, ⟨_, rfl, .arr⟩, ⟨_, rfl, .arr⟩, ⟨_, rfl, .arr⟩, trivial⟩, rfl⟩
theorem aAw {m m' : CM} {r : Bool} {ks : List Core} {bs : List Bind} {al : List Alt} (g : List Str) {j : Nat} {y : Core} (hx : ks[j]? = some y) (ok : Bool) (hm : ok = false → m' = m)
  (hf : ok = true → bN Tryd.prog 26 [.one (.mr 800), .pa (aE y)] [(800, cR m)] (B r) [(800, cR m')]) :
  bN Tryd.prog 46 ([R.vp 5 0, R.vp 2 0, R.vp 7 0].map V.one) ((800, cR m) :: ftL (.ep 702 j 0 ks.length) g ok ks bs al) (.tup []) ((800, cR m') :: ftL (.ep 702 j 0 ks.length) g (ok && r) ks bs al) := by
 have hx' : (bB ks)[j]? = some (aE y) := cU hx;have hl : ks.length = (bB ks).length := by rw [b9, length_map]
 have hlt := (List.getElem?_eq_some_iff.1 hx).1
 cases ok with
 | false =>
  rw [hm rfl, Bool.false_and];refine cT (n := 12) tok Tryd.func46 rfl rfl rfl ?_;refine agN [] rfl ?_;exact ⟨.inl rfl, ⟨_, _, .nil, .nil, rfl⟩, ⟨⟨_, rfl, .map⟩, ⟨_, rfl, .var rfl⟩, ⟨_, rfl, .var rfl⟩, ⟨_, rfl, .var rfl⟩, ⟨_, rfl, .arr⟩, ⟨_, rfl, .arr⟩, ⟨_, rfl, .arr⟩, trivial⟩, rfl⟩
 | true =>
  have hf := hf rfl;rw [Bool.true_and];refine cT (n := 12) tok Tryd.func46 rfl rfl rfl ?_;refine aJ mixed ?_;refine ak 7 [(6, .row j (aE y))] rfl ?_;refine kcG hf ?_;refine ak 2 [] rfl ?_;refine az ?_;exact ⟨.inl rfl, ⟨_, _, .nil, .nil, rfl⟩, ⟨⟨_, rfl, .map⟩, ⟨_, rfl, .var rfl⟩, ⟨_, rfl, .var rfl⟩, ⟨_, rfl, .var rfl⟩, ⟨_, rfl, .arr⟩, ⟨_, rfl, .arr⟩, ⟨_, rfl, .arr⟩, trivial⟩, rfl⟩
theorem aAy {m m' : CM} {r : Bool} {ks : List Core} {bs : List Bind} {al : List Alt} (g : List Str) {j : Nat} {y : Alt} (hx : al[j]? = some y) (ok : Bool) (hm : ok = false → m' = m)
  (hf : ok = true → bN Tryd.prog 26 [.one (.mr 800), .pa (aE y.body)] [(800, cR m)] (B r) [(800, cR m')]) :
  bN Tryd.prog 46 ([R.vp 5 0, R.vp 2 0, R.vp 7 0].map V.one) ((800, cR m) :: ftL (.ep 703 j 4 al.length) g ok ks bs al) (.tup []) ((800, cR m') :: ftL (.ep 703 j 4 al.length) g (ok && r) ks bs al) := by
 have hx' : (bH al)[j]? = some (cL y) := cV hx;have hl : al.length = (bH al).length := by rw [aV, length_map]
 have hlt := (List.getElem?_eq_some_iff.1 hx).1
 cases ok with
 | false =>
  rw [hm rfl, Bool.false_and];refine cT (n := 12) tok Tryd.func46 rfl rfl rfl ?_;refine agN [] rfl ?_;exact ⟨.inl rfl, ⟨_, _, .nil, .nil, rfl⟩, ⟨⟨_, rfl, .map⟩, ⟨_, rfl, .var rfl⟩, ⟨_, rfl, .var rfl⟩, ⟨_, rfl, .var rfl⟩, ⟨_, rfl, .arr⟩, ⟨_, rfl, .arr⟩, ⟨_, rfl, .arr⟩, trivial⟩, rfl⟩
 | true =>
  have hf := hf rfl;rw [Bool.true_and];refine cT (n := 12) tok Tryd.func46 rfl rfl rfl ?_;refine aJ mixed ?_;refine ak 7 [(6, .row j (cL y))] rfl ?_;refine kcG hf ?_;refine ak 2 [] rfl ?_;refine az ?_;exact ⟨.inl rfl, ⟨_, _, .nil, .nil, rfl⟩, ⟨⟨_, rfl, .map⟩, ⟨_, rfl, .var rfl⟩, ⟨_, rfl, .var rfl⟩, ⟨_, rfl, .var rfl⟩, ⟨_, rfl, .arr⟩, ⟨_, rfl, .arr⟩, ⟨_, rfl, .arr⟩, trivial⟩, rfl⟩
theorem xZ (G : Str → Bool) {f n : Int} {s : Str} {t : Ty} {ks : List Core} {bs : List Bind} {al : List Alt} (h0 : ¬ (f = 5 ∨ f = 7 ∨ f = 6)) (h1 : ¬ f = 1) :
  bK (.mk f n s t ks bs al) G = ((decide (t.form = 0) && !bs.any tyd) && (bV f s ks bs al).all fun p => bK p.2 (ext G p.1)) := by
 rw [bK];by_cases ht : t.form = 0
 ·rw [if_neg (by omega), if_neg h1, kX, kW, kY];unfold bV;rw [List.all_append, List.all_append, List.all_map, List.all_map, List.all_map, decide_eq_true ht, Bool.true_and];have hb : (bs.all fun c => bK c.body (ext G (gvs f s bs)) && decide (c.ty.form = 0)) = (!bs.any tyd && bs.all ((fun p : List Str × Core => bK p.2 (ext G p.1)) ∘ fun b => (gvs f s bs, b.body))) := by
   generalize gvs f s bs = g
   induction bs with
   | nil => rfl
   | cons b bs ih =>
    rw [all_cons, ih, List.any_cons, all_cons];unfold tyd;show _ = (_ && (bK b.body (ext G g) && _));cases bK b.body (ext G g) <;> cases decide (b.ty.form = 0) <;> simp
  rw [hb, Bool.and_assoc];simp only [Function.comp_def, pT]
 ·rw [if_pos (by simp [ht]), decide_eq_false ht]; rfl
theorem sO (c : Core) (ih : ∀ x, aG x < aG c → aBo x) : aBo c := by
 intro m hm hsz;have hm0 : ∀ s, 0 ≤ cnt m s := fun s => (hm s).1
 obtain ⟨f, n, s, t, ks, bs, al⟩ := c;have hbox : ∀ b : Bool, bK (.mk f n s t ks bs al) (cA m) = b → (f = 5 ∨ f = 7 ∨ f = 6) ∨ f = 1 → ∃ m', mB m m' ∧ bN Tryd.prog 26 [.one (.mr 800), .pa (aE (.mk f n s t ks bs al))] [(800, cR m)] (B (bK (.mk f n s t ks bs al) (cA m))) [(800, cR m')] := by
  intro b hbe hf;refine ⟨m, fun _ => rfl, ?_⟩;have hmo := iY m;have hlm := mW m s;have h0 := hm0 s;refine cT (n := 50) tok Tryd.func26 rfl rfl rfl ?_;refine a8 (ag [(1, .id 700)] rfl ?_);refine a8 (a8 (ag [] rfl ?_));refine aB (a8 (a8 (ag [] rfl ?_)));refine aA rfl (fun hb1 => ?_) (fun hb1 => ?_)
  ·have h5 : f = 5 := of_decide_eq_true hb1;rw [show bK (.mk f n s t ks bs al) (cA m) = false by rw [bK, if_pos (.inl h5)]];refine aD ?_;refine aA rfl (fun hb => ?_) (fun hb => absurd h5 (of_decide_eq_false hb));refine a8 (ag [] rfl ?_);exact aF rtT
  have h5 : ¬ f = 5 := of_decide_eq_false hb1;refine a8 (ag [] rfl ?_);refine aA rfl (fun hb1 => ?_) (fun hb1 => ?_)
  ·have h7 : f = 7 := of_decide_eq_true hb1;rw [show bK (.mk f n s t ks bs al) (cA m) = false by rw [bK, if_pos (.inr (.inl h7))]];refine aD ?_;refine aA rfl (fun hb => ?_) (fun hb => absurd h7 (of_decide_eq_false hb));refine a8 (ag [] rfl ?_);exact aF rtT
  have h7 : ¬ f = 7 := of_decide_eq_false hb1;refine ag [] rfl ?_;refine aA rfl (fun hb1 => ?_) (fun hb1 => ?_)
  ·have h6 : f = 6 := of_decide_eq_true hb1;rw [show bK (.mk f n s t ks bs al) (cA m) = false by rw [bK, if_pos (.inr (.inr (.inl h6)))]];refine a8 (ag [] rfl ?_);exact aF rtT
  have h6 : ¬ f = 6 := of_decide_eq_false hb1;have h1 : f = 1 := by omega
  refine a8 (ag [] rfl ?_);refine aA rfl (fun hb => ?_) (fun hb => absurd h1 (of_decide_eq_false hb));by_cases hc : 0 < cnt m s
  ·have hc' : decide (cnt m s > 0) = true := decide_eq_true hc
   rw [show bK (.mk f n s t ks bs al) (cA m) = decide (t.form = 0) by
    rw [bK];by_cases ht : t.form = 0
    ·rw [if_neg (by omega), if_pos h1, decide_eq_true ht]; exact hc'
    ·rw [if_pos (by simp [ht]), decide_eq_false ht]]
   refine a8 (ag [(3, .pc (I .i64 (cnt m s))), (5, .bv true), (10, .bv true)] rfl ?_);exact aF rtT
  ·have hc' : decide (cnt m s > 0) = false := decide_eq_false hc
   rw [show bK (.mk f n s t ks bs al) (cA m) = false by
    rw [bK];by_cases ht : t.form = 0
    ·rw [if_neg (by omega), if_pos h1]; exact hc'
    ·rw [if_pos (by simp [ht])]]
   refine a8 (ag [(3, .pc (I .i64 (cnt m s))), (5, .bv false), (10, .bv false)] rfl ?_);exact aF rtT
 by_cases h0 : f = 5 ∨ f = 7 ∨ f = 6
 ·exact hbox _ rfl (.inl h0)
 by_cases h1 : f = 1
 ·exact hbox _ rfl (.inr h1)
 clear hbox;rw [xZ (cA m) h0 h1];have hin : ∀ p ∈ bV f s ks bs al, _ := fun p hp => @pG f n s t ks bs al p hp
 have hat := @lW f s ks bs al;have hcp := uE f n s t ks bs al hsz;have hrr : ∀ x ∈ (yL (dL f s ks bs al)).refs, x ∈ fA.refs := dI;have hN : (dL f s ks bs al).length = (bV f s ks bs al).length := by rw [fI, kI]
 have hpl := fI f s ks bs al;obtain ⟨hkl, hbl, hal⟩ : ks.length < 400000 ∧ bs.length < 400000 ∧ al.length < 400000 := by
  obtain ⟨_, _, _, q1, q2, q3⟩ := @gP f n s t ks bs al;omega
 have hrl : (dL f s ks bs al).length ≤ 1200000 := by omega
 have hcb : bN Tryd.prog 43 [.one (.c (.sl 15 (aP bs))), .one (.clo 44 [])] [] (B (bs.any tyd)) [] := by rw [aU]; exact lR bs (by omega)
 have hPN : (bV f s ks bs al).take (dL f s ks bs al).length = bV f s ks bs al := by rw [hN, take_length]
 have hst : ∀ i p, (bV f s ks bs al)[i]? = some p → (((decide (t.form = 0) && !bs.any tyd) && ((bV f s ks bs al).take (i + 1)).all fun p => bK p.2 (ext (cA m) p.1)) = (((decide (t.form = 0) && !bs.any tyd) && ((bV f s ks bs al).take i).all fun p => bK p.2 (ext (cA m) p.1)) && bK p.2 (ext (cA m) p.1))) := fun i p h => by rw [j2 _ h, Bool.and_assoc, Bool.and_assoc, Bool.and_assoc]
 rw [← hPN];generalize hOK : (fun i => (decide (t.form = 0) && !bs.any tyd) && ((bV f s ks bs al).take i).all fun p => bK p.2 (ext (cA m) p.1)) = OK;have hOKi : ∀ i, ((decide (t.form = 0) && !bs.any tyd) && ((bV f s ks bs al).take i).all fun p => bK p.2 (ext (cA m) p.1)) = OK i := fun i => congrFun hOK i
 have hO0 : (decide (t.form = 0) && !bs.any tyd) = OK 0 := by rw [← hOKi 0, take_zero]; simp
 simp only [hOKi] at hst ⊢;generalize bV f s ks bs al = L at hN hin hat hst ⊢;generalize dL f s ks bs al = rows at hN hat hcp hrr hrl hpl ⊢
 obtain ⟨sq, hs0, hsP, hsR⟩ := j0 (P := fun _ x => mB m x) (R := fun i x y => ∀ p, L[i]? = some p → ∃ m', y = decs p.1 m' ∧ mB (gE p.1 x) m' ∧ (OK i = false → m' = gE p.1 x) ∧ (OK i = true → bN Tryd.prog 26 [.one (.mr 800), .pa (aE p.2)] [(800, cR (gE p.1 x))] (B (bK p.2 (ext (cA m) p.1))) [(800, cR m')])) m (fun _ => rfl) (fun i x hx => by
  cases hp : L[i]? with
  | none => exact ⟨x, hx, fun p h => by cases h⟩
  | some p =>
   cases hok : OK i with
   | false => exact ⟨decs p.1 (gE p.1 x), fun s => by rw [hx s]; exact mB.decs (fun _ => rfl) s, fun p' h => by cases h; exact ⟨gE p.1 x, rfl, fun _ => rfl, fun _ => rfl, fun h => by cases h⟩⟩
   | true =>
    obtain ⟨q1, q2⟩ := hin p (List.mem_of_getElem? hp);have hx0 : ∀ s, 0 ≤ cnt x s := fun s => by rw [← hx s]; exact hm0 s
    obtain ⟨m', g1, g2⟩ := ih p.2 q1 (gE p.1 x) (fun s => by
     have h1 := hm s;have h2 := hx s;have h3 := cF s p.1 x;have h4 : 0 ≤ times s p.1 ∧ times s p.1 ≤ p.1.length := by
      unfold times;have := count_le_length (a := s) (l := p.1);omega
     omega) (by omega)
    rw [iJ hx0, ← jZ hx] at g2
    exact ⟨decs p.1 m', fun s => by rw [hx s]; exact mB.decs g1 s, fun p' h => by cases h; exact ⟨m', rfl, g1, (fun h => by cases h), fun _ => g2⟩⟩)
 refine ⟨sq rows.length, hsP _, ?_⟩;refine cT (n := 50) tok Tryd.func26 rfl rfl rfl ?_;refine a8 (ag [(1, .id 700)] rfl ?_);refine a8 (a8 (ag [] rfl ?_));refine aB (a8 (a8 (ag [] rfl ?_)));refine aA rfl (fun hb => by have : f = 5 := of_decide_eq_true hb; omega) (fun _ => ?_);refine a8 (ag [] rfl ?_);refine aA rfl (fun hb => by have : f = 7 := of_decide_eq_true hb; omega) (fun _ => ?_);refine ag [] rfl ?_;refine aA rfl (fun hb => by have : f = 6 := of_decide_eq_true hb; omega) (fun _ => ?_);refine a8 (ag [] rfl ?_);refine aA rfl (fun hb => absurd (of_decide_eq_true hb) h1) (fun _ => ?_);refine aD ?_;refine a8 (AWp.cut (mk [(2, .one (.vp 2 0)), (3, .one (.vp 700 0)), (5, .one (.vp 5 0))] [(2, .var mT [.mr 800]), (5, .var sV [.c (.bool (OK 0))]), (700, .var 38 (bT (.mk f n s t ks bs al))), (800, cR m)]) ?_ ?_)
 ·by_cases ht : t.form = 0
  ·have ht' : decide (t.form = 0) = true := decide_eq_true ht;rw [← hO0, ht', Bool.true_and];refine aJ mixed ?_;refine ak 7 [(4, .bv true)] rfl ?_;refine kcG hcb ?_ (hw := ht');refine ak 4 [(4, .bv true), (9, .bv true)] rfl ?_;refine az ?_;exact sl
  ·have ht' : decide (t.form = 0) = false := decide_eq_false ht;rw [← hO0, ht', Bool.false_and];exact ag [(4, .bv false), (9, .bv false)] rfl sl
 refine a8 (a8 (aJ mixed ?_));refine kc hcp ?_;refine ak 2 [] rfl ?_;refine az ?_;refine aB ?_;refine aL (fun i : Nat => mk [(2, .one (.vp 2 0)), (5, .one (.vp 5 0)), (37, .one (.ra 704 0 rows.length rows.length)), (38, I .i64 ((rows.length : Nat) : Int)), (39, I .i64 i)] ((704, yL rows) :: [(2, .var mT [.mr 800]), (5, .var sV [.c (.bool (OK i))]), (701, .arr 46 15 (aP bs) 0), (702, .arr 38 10 (bB ks) 0), (703, .arr 65 14 (bH al) 0), (800, cR (sq i))])) (fun i => i ≤ rows.length) (fun i => rows.length - i) 0 (zero_le _) (by rw [hs0]; exact slR fA hrr ⟨_, rfl, .rarrS rfl⟩) ?_;intro i hi;refine a8 (ag [] rfl ?_);refine a8 (aA rfl (fun hb => ?_) (fun hb => ?_))
 ·have hlt : i < rows.length := by
   have : (i : Int) < (rows.length : Int) := of_decide_eq_true hb;omega
  refine aD ?_;refine a8 (aB ?_);rcases hat hlt with ⟨j, b, hb', hro, hpa, _⟩ | ⟨j, k, hk', hro, hpa, _⟩ | ⟨j, al', ha', hro, hpa, _⟩
  ·obtain ⟨m', e1, e2, e3, e4⟩ := hsR i _ hpa;obtain ⟨q1, q2⟩ := hin _ (List.mem_of_getElem? hpa);have hx := hsP i;have hsti := hst i _ hpa;dsimp only at e1 e2 e3 e4 q1 q2 hsti;have hc1 := aAx (ks := ks) (bs := bs) (al := al) (gvs f s bs) hb' (OK i) e3 e4;rw [← hsti] at hc1
   have hci := dT (gvs f s bs) (sq i) m' _ _ [800, 5, 2, 7, 701, 702, 703] (by omega) (fun u => by have := hm u; have := hx u; omega) (fun u => by
    have h1 := hm u;have h2 := hx u;have h3 := e2 u;rw [cF] at h3;have h4 : 0 ≤ times u (gvs f s bs) ∧ times u (gvs f s bs) ≤ (gvs f s bs).length := by
     unfold times;have := count_le_length (a := u) (l := gvs f s bs);omega
    omega) (wfT _ _ _ _ _ _ (by simp [R.refs])) (wfT _ _ _ _ _ _ (by simp [R.refs])) rfl (by kernel_rfl) hc1
   rw [← e1] at hci;refine a8 (ag [(1, .rr (mN 701 5 bs.length (gvs f s bs) j))] rfl ?_);refine aJ mixed ?_;refine ak 4 [] rfl ?_;refine kc hci ?_;refine az ?_;refine ag [] rfl ?_;exact ⟨i + 1, hlt, by dsimp only; omega, slR fA hrr ⟨_, rfl, .rarrS rfl⟩⟩
  ·obtain ⟨m', e1, e2, e3, e4⟩ := hsR i _ hpa;obtain ⟨q1, q2⟩ := hin _ (List.mem_of_getElem? hpa);have hx := hsP i;have hsti := hst i _ hpa;dsimp only at e1 e2 e3 e4 q1 q2 hsti;have hc1 := aAw (ks := ks) (bs := bs) (al := al) (gvs f s bs) hk' (OK i) e3 e4;rw [← hsti] at hc1
   have hci := dT (gvs f s bs) (sq i) m' _ _ [800, 5, 2, 7, 701, 702, 703] (by omega) (fun u => by have := hm u; have := hx u; omega) (fun u => by
    have h1 := hm u;have h2 := hx u;have h3 := e2 u;rw [cF] at h3;have h4 : 0 ≤ times u (gvs f s bs) ∧ times u (gvs f s bs) ≤ (gvs f s bs).length := by
     unfold times;have := count_le_length (a := u) (l := gvs f s bs);omega
    omega) (wfT _ _ _ _ _ _ (by simp [R.refs])) (wfT _ _ _ _ _ _ (by simp [R.refs])) rfl (by kernel_rfl) hc1
   rw [← e1] at hci;refine a8 (ag [(1, .rr (mN 702 0 ks.length (gvs f s bs) j))] rfl ?_);refine aJ mixed ?_;refine ak 4 [] rfl ?_;refine kc hci ?_;refine az ?_;refine ag [] rfl ?_;exact ⟨i + 1, hlt, by dsimp only; omega, slR fA hrr ⟨_, rfl, .rarrS rfl⟩⟩
  ·obtain ⟨m', e1, e2, e3, e4⟩ := hsR i _ hpa;obtain ⟨q1, q2⟩ := hin _ (List.mem_of_getElem? hpa);have hx := hsP i;have hsti := hst i _ hpa;dsimp only at e1 e2 e3 e4 q1 q2 hsti;have hc1 := aAy (ks := ks) (bs := bs) (al := al) (gvs f s bs ++ al'.vars) ha' (OK i) e3 e4;rw [← hsti] at hc1
   have hci := dT (gvs f s bs ++ al'.vars) (sq i) m' _ _ [800, 5, 2, 7, 701, 702, 703] (by omega) (fun u => by have := hm u; have := hx u; omega) (fun u => by
    have h1 := hm u;have h2 := hx u;have h3 := e2 u;rw [cF] at h3;have h4 : 0 ≤ times u (gvs f s bs ++ al'.vars) ∧ times u (gvs f s bs ++ al'.vars) ≤ (gvs f s bs ++ al'.vars).length := by
     unfold times;have := count_le_length (a := u) (l := gvs f s bs ++ al'.vars);omega
    omega) (wfT _ _ _ _ _ _ (by simp [R.refs])) (wfT _ _ _ _ _ _ (by simp [R.refs])) rfl (by kernel_rfl) hc1
   rw [← e1] at hci;refine a8 (ag [(1, .rr (mN 703 4 al.length (gvs f s bs ++ al'.vars) j))] rfl ?_);refine aJ mixed ?_;refine ak 4 [] rfl ?_;refine kc hci ?_;refine az ?_;refine ag [] rfl ?_;exact ⟨i + 1, hlt, by dsimp only; omega, slR fA hrr ⟨_, rfl, .rarrS rfl⟩⟩
 have hge : i = rows.length := by
  have : ¬ (i : Int) < (rows.length : Int) := of_decide_eq_false hb;omega
 subst hge;refine aM ?_;refine a8 (ag [] rfl ?_);exact aF rtT
theorem aAo : ∀ (n : Nat) (c : Core), aG c ≤ n → aBo c
 | 0, c, h => by have := cO c; omega
 | n + 1, c, h => sO c fun x hx => aAo n x (by omega)
def seen : List Str → List Str → List Str
 | [], o => o
 | s :: l, o => seen l (if s ∈ o then o else o ++ [s])
theorem vE (s : Str) : ∀ l o : List Str, seen (l ++ [s]) o = if s ∈ seen l o then seen l o else seen l o ++ [s]
 | [], _ => rfl
 | x :: l, o => by rw [cons_append, seen, vE s l]; rfl
theorem pA : ∀ l o : List Str, (seen l o).length ≤ o.length + l.length
 | [], o => by simp [seen]
 | s :: l, o => by
  rw [seen, length_cons];by_cases h : s ∈ o
  ·rw [if_pos h];have := pA l o;omega
  ·rw [if_neg h];have := pA l (o ++ [s]);rw [length_append, length_singleton] at this;omega
theorem yT : ∀ l o : List Str, decide ((seen l o).length = o.length + l.length) = (cN l && l.all fun s => !decide (s ∈ o))
 | [], o => by simp [seen, cN]
 | s :: l, o => by
  rw [seen, cN, all_cons, length_cons];by_cases h : s ∈ o
  ·rw [if_pos h];have := pA l o;rw [decide_eq_false (by omega), decide_eq_true h];simp
  ·rw [if_neg h];have ih := yT l (o ++ [s]);rw [length_append, length_singleton, add_assoc, Nat.add_comm 1] at ih;rw [ih, decide_eq_false h];have : (l.all fun u => !decide (u ∈ o ++ [s])) = (!decide (s ∈ l) && l.all fun u => !decide (u ∈ o)) := by
    clear ih h
    induction l with
    | nil => rfl
    | cons u l ih =>
     rw [all_cons, all_cons, ih];by_cases h1 : u = s
     ·subst h1; simp
     ·have h2 : ¬ s = u := fun e => h1 e.symm
      have e1 : decide (u ∈ o ++ [s]) = decide (u ∈ o) := by simp [h1]
      have e2 : decide (s ∈ u :: l) = decide (s ∈ l) := by simp [h2]
      rw [e1, e2];cases decide (u ∈ o) <;> cases decide (s ∈ l) <;> simp
   rw [this];cases cN l <;> cases decide (s ∈ l) <;> simp
theorem yS (l : List Str) : decide ((seen l []).length = l.length) = cN l := by
 have := yT l [];simp only [length_nil, zero_add] at this;rw [this];simp
theorem rF (s : Str) : ∀ o : List Str, pL s [] (o.map bF) = (if s ∈ o then o else o ++ [s]).map bF
 | [] => rfl
 | x :: o => by
  have ih := rF s o;simp only [map_cons, bF, pL] at ih ⊢;by_cases h : x = s
  ·subst h; simp [bF]
  ·have h2 : ¬ s = x := fun e => h e.symm
   rw [if_neg h, ih];by_cases h3 : s ∈ o <;> simp [h2, h3, bF]
theorem rD : ∀ o : List Str, i4 (o.map bF)
 | [] => trivial
 | _ :: o => rD o
theorem aEf (l : List Str) (hl : l.length ≤ 1000000000) : bN Tryd.prog 22 [b7 l] [] (B (cN l)) [] := by
 have hkl : (l.map bF).length = l.length := length_map _;rw [← yS];refine cT (n := 22) tok Tryd.func22 rfl rfl rfl ?_;refine a8 (ag [] rfl ?_);refine a8 (ag [(0, .id 800)] rfl ?_);refine a8 (a8 (ag [] rfl ?_));refine aB ?_;refine aL (fun i : Nat => mk [(0, b7 l), (3, .one (.mr 800)), (7, b7 l), (8, I .i64 ((l.map bF).length : Int)), (9, I .i64 i)] [(800, .map true ((seen (l.take i) []).map bF))]) (fun i => i ≤ l.length) (fun i => l.length - i) 0 (zero_le _) sl ?_;intro i hi;have hms := rD (seen (l.take i) []);have hsl := pA (l.take i) [];rw [length_take, length_nil] at hsl;refine a8 (ag [] rfl ?_);refine a8 (aA rfl (fun hb => ?_) (fun hb => ?_))
 ·have hlt := ltD hb hkl;obtain ⟨s, hs⟩ := aI hlt;have hs' := c6 bF hs;have hst : seen (l.take (i + 1)) [] = if s ∈ seen (l.take i) [] then seen (l.take i) [] else seen (l.take i) [] ++ [s] := by rw [bG hs, vE]
  have hmp := rF s (seen (l.take i) []);rw [← hst] at hmp;refine aD ?_;refine a8 (aB (a8 (ag [(0, .row i (bF s))] rfl ?_)));refine ag [] rfl ?_;refine ag [] rfl ?_;exact ⟨i + 1, hlt, by dsimp only; omega, sl⟩
 have hge := geD hb hkl hi;subst hge;rw [take_length] at hms hsl ⊢;refine aM ?_;refine a8 (ag [] rfl ?_);have hval : decide ((((seen l []).map bF).length : Int) = ((l.map bF).length : Int)) = decide ((seen l []).length = l.length) := by
  rw [length_map, length_map];exact decide_eq_decide.2 Int.ofNat_inj
 rw [← hval];exact aF rtT
def aJd : Nat := 40
def aJe (x : Sup) : List R := [.c (.str x.name), .c (.sl 1 (x.params.map bF))] ++ bT x.body
theorem aHz {m m' : CM} {x : Sup} {ok r : Bool} (hx : x.params.length ≤ 1000000000) (hm : (ok && cN x.params) = false → m' = m)
  (hf : (ok && cN x.params) = true → bN Tryd.prog 26 [.one (.mr 800), .pa (aE x.body)] [(800, cR m)] (B r) [(800, cR m')]) :
  bN Tryd.prog 25 ([R.vp 6 0, R.vp 4 0, R.vp 7 0].map V.one) [(800, cR m), (6, .var sV [.c (.bool ok)]), (4, .var aJd (aJe x)), (7, .var mT [.mr 800])] (.tup []) [(800, cR m'), (6, .var sV [.c (.bool (ok && (cN x.params && r)))]), (4, .var aJd (aJe x)), (7, .var mT [.mr 800])] := by
 have ho := aEf x.params hx;generalize cN x.params = o at hm hf ho ⊢;cases ok with
 | false =>
  rw [hm rfl];refine cT (n := 15) tok Tryd.func25 rfl rfl rfl ?_;refine ag [] rfl ?_;exact ⟨.inl rfl, ⟨_, _, .nil, .nil, rfl⟩, ⟨⟨_, rfl, .map⟩, ⟨_, rfl, .var rfl⟩, ⟨_, rfl, .var rfl⟩, ⟨_, rfl, .var rfl⟩, trivial⟩, rfl⟩
 | true =>
  refine cT (n := 15) tok Tryd.func25 rfl rfl rfl ?_;refine aJ mixed ?_;refine ak 4 [] rfl ?_;refine kcG ho ?_;cases o with
  | false =>
   rw [hm rfl];refine ak 8 [] rfl ?_;refine az ?_;exact ⟨.inl rfl, ⟨_, _, .nil, .nil, rfl⟩, ⟨⟨_, rfl, .map⟩, ⟨_, rfl, .var rfl⟩, ⟨_, rfl, .var rfl⟩, ⟨_, rfl, .var rfl⟩, trivial⟩, rfl⟩
  | true =>
   refine ak 5 [] rfl ?_;refine kcG (hf rfl) ?_;refine ak 2 [] rfl ?_;refine az ?_;exact ⟨.inl rfl, ⟨_, _, .nil, .nil, rfl⟩, ⟨⟨_, rfl, .map⟩, ⟨_, rfl, .var rfl⟩, ⟨_, rfl, .var rfl⟩, ⟨_, rfl, .var rfl⟩, trivial⟩, rfl⟩
def aJk (l : List Sup) : Prop := ∀ x ∈ l, aG x.body ≤ 400000 ∧ x.params.length ≤ 100000
theorem aI9 (l : List Sup) (hl : l.length ≤ 100000) (h : aJk l) (m : CM) (hm : ∀ s, 0 ≤ cnt m s ∧ cnt m s ≤ 100000) (ok : Bool) : ∃ m', mB m m' ∧
  bN Tryd.prog 24 ([R.vp 1 0, R.vp 7 0, R.vp 6 0].map V.one) [(800, cR m), (1, .var 24 [.c (.sl 12 (l.map aY))]), (7, .var mT [.mr 800]), (6, .var sV [.c (.bool ok)])] (.tup [])
   [(800, cR m'), (1, .var 24 [.c (.sl 12 (l.map aY))]), (7, .var mT [.mr 800]), (6, .var sV [.c (.bool (ok && l.all fun x => cN x.params && bK x.body (ext (cA m) x.params)))])] := by
 have hm0 : ∀ s, 0 ≤ cnt m s := fun s => (hm s).1
 have hkl : (l.map aY).length = l.length := length_map _;generalize hOK : (fun i => ok && (l.take i).all fun x => cN x.params && bK x.body (ext (cA m) x.params)) = OK;have hOKi : ∀ i, (ok && (l.take i).all fun x => cN x.params && bK x.body (ext (cA m) x.params)) = OK i := fun i => congrFun hOK i
 have hst : ∀ i x, l[i]? = some x → OK (i + 1) = (OK i && (cN x.params && bK x.body (ext (cA m) x.params))) := fun i x h => by rw [← hOKi, ← hOKi, j2 _ h, Bool.and_assoc]
 have hO0 : OK 0 = ok := by rw [← hOKi 0, take_zero]; simp
 have hON : (ok && l.all fun x => cN x.params && bK x.body (ext (cA m) x.params)) = OK l.length := by rw [← hOKi, take_length]
 rw [hON]
 obtain ⟨sq, hs0, hsP, hsR⟩ := j0 (P := fun _ x => mB m x) (R := fun i x y => ∀ p, l[i]? = some p → ∃ m', y = decs p.params m' ∧ mB (gE p.params x) m' ∧ ((OK i && cN p.params) = false → m' = gE p.params x) ∧ ((OK i && cN p.params) = true → bN Tryd.prog 26 [.one (.mr 800), .pa (aE p.body)] [(800, cR (gE p.params x))] (B (bK p.body (ext (cA m) p.params))) [(800, cR m')])) m (fun _ => rfl) (fun i x hx => by
  cases hp : l[i]? with
  | none => exact ⟨x, hx, fun p h => by cases h⟩
  | some p =>
   cases hok : (OK i && cN p.params) with
   | false => exact ⟨decs p.params (gE p.params x), fun s => by rw [hx s]; exact mB.decs (fun _ => rfl) s, fun p' h => by cases h; rw [hok]; exact ⟨gE p.params x, rfl, fun _ => rfl, fun _ => rfl, fun h => by cases h⟩⟩
   | true =>
    obtain ⟨q1, q2⟩ := h p (List.mem_of_getElem? hp);have hx0 : ∀ s, 0 ≤ cnt x s := fun s => by rw [← hx s]; exact hm0 s
    obtain ⟨m', g1, g2⟩ := aAo _ p.body (le_refl _) (gE p.params x) (fun s => by
     have h1 := hm s;have h2 := hx s;have h3 := cF s p.params x;have h4 : 0 ≤ times s p.params ∧ times s p.params ≤ p.params.length := by
      unfold times;have := count_le_length (a := s) (l := p.params);omega
     omega) (by omega)
    rw [iJ hx0, ← jZ hx] at g2
    exact ⟨decs p.params m', fun s => by rw [hx s]; exact mB.decs g1 s, fun p' h => by cases h; rw [hok]; exact ⟨m', rfl, g1, (fun h => by cases h), fun _ => g2⟩⟩)
 refine ⟨sq l.length, hsP _, ?_⟩;refine cT (n := 17) tok Tryd.func24 rfl rfl rfl ?_;refine a8 (ag [] rfl ?_);refine aB ?_;refine aL (fun i : Nat => mk [(1, .one (.vp 7 0)), (2, .one (.vp 6 0)), (5, .one (.c (.sl 12 (l.map aY)))), (6, I .i64 ((l.map aY).length : Int)), (7, I .i64 i)] [(1, .var 24 [.c (.sl 12 (l.map aY))]), (6, .var sV [.c (.bool (OK i))]), (7, .var mT [.mr 800]), (800, cR (sq i))]) (fun i => i ≤ l.length) (fun i => l.length - i) 0 (zero_le _) (by rw [hs0, hO0]; exact sl) ?_;intro i hi;refine a8 (ag [] rfl ?_);refine a8 (aA rfl (fun hb => ?_) (fun hb => ?_))
 ·have hlt := ltD hb hkl;obtain ⟨x, hxi⟩ := aI hlt;have hxi' := c6 aY hxi;obtain ⟨q1, q2⟩ := h x (List.mem_of_getElem? hxi);obtain ⟨m', e1, e2, e3, e4⟩ := hsR i x hxi;have hx := hsP i;have hc1 := aHz (by omega) e3 e4;rw [← hst i x hxi] at hc1
  have hci := dT x.params (sq i) m' _ _ [800, 6, 4, 7] (by omega) (fun u => by have := hm u; have := hx u; omega) (fun u => by
   have h1 := hm u;have h2 := hx u;have h3 := e2 u;rw [cF] at h3;have h4 : 0 ≤ times u x.params ∧ times u x.params ≤ x.params.length := by
    unfold times;have := count_le_length (a := u) (l := x.params);omega
   omega) (fun x => ⟨rfl, by kernel_rfl⟩) (fun x => ⟨rfl, by kernel_rfl⟩) rfl (by kernel_rfl) hc1
  rw [← e1] at hci;refine aD ?_;refine a8 (aB (a8 (ag [(0, .row i (aY x))] rfl ?_)));refine aJ mixed ?_;refine ak 4 [] rfl ?_;refine kc hci ?_;refine az ?_;refine ag [] rfl ?_;exact ⟨i + 1, hlt, by dsimp only; omega, sl⟩
 have hge := geD hb hkl hi;subst hge;refine aM ?_;exact ⟨.inl rfl, ⟨_, _, .nil, .nil, rfl⟩, ⟨⟨_, rfl, .map⟩, ⟨_, rfl, .var rfl⟩, ⟨_, rfl, .var rfl⟩, ⟨_, rfl, .var rfl⟩, trivial⟩, rfl⟩
theorem uO (l : List Sup) (hl : l.length ≤ 100000) (h : aJk l) : bN Tryd.prog 7 [.one (.c (.sl 12 (l.map aY)))] [] (B (oM l)) [] := by
 have hkl : (l.map aY).length = l.length := length_map _;have ho := aEf (l.map (·.name)) (by rw [length_map]; omega);have hti : ∀ s, 0 ≤ times s (l.map (·.name)) ∧ times s (l.map (·.name)) ≤ 100000 := fun s => by
  have := gG s (l.map (·.name)) (l.map (·.name)).length;rw [take_length, length_map] at this;omega
 have hca : ∀ u, cnt (gE (l.map (·.name)) []) u = times u (l.map (·.name)) := fun u => by rw [cF]; show (0 : Int) + _ = _; omega
 obtain ⟨m', hs, hc⟩ := aI9 l hl h (gE (l.map (·.name)) []) (fun s => by rw [hca]; exact hti s) (cN (l.map (·.name)));rw [eH] at hc;rw [show oM l = (cN (l.map (·.name)) && l.all fun x => cN x.params && bK x.body (ext (fun s => decide (s ∈ l.map (·.name))) x.params)) from rfl];generalize (cN (l.map (·.name)) && l.all fun x => cN x.params && bK x.body (ext (fun s => decide (s ∈ l.map (·.name))) x.params)) = r at hc ⊢
 have hci := dT (l.map (·.name)) [] m' _ _ [800, 1, 7, 6] (by rw [length_map]; omega) (fun u => by show (0 : Int) ≤ (0 : Int) ∧ (0 : Int) ≤ _; omega) (fun u => by
  have := hti u;have := hs u;rw [hca u] at this
  omega) (fun x => ⟨rfl, by kernel_rfl⟩) (fun x => ⟨rfl, by kernel_rfl⟩) rfl (by kernel_rfl) hc
 refine cT (n := 28) tok Tryd.func7 rfl rfl rfl ?_;refine a8 (ag [] rfl ?_);refine a8 (ag [] rfl ?_);refine AWp.sub (Sub.own (t := 3) (id := 500) 9 1 rfl rfl) ?_;refine a8 (a8 (ag [] rfl ?_));refine aB ?_;refine aL (fun i : Nat => mk [(1, .one (.vp 1 0)), (3, .one (.hs 500 0 i i)), (8, .one (.c (.sl 12 (l.map aY)))), (9, I .i64 ((l.map aY).length : Int)), (10, I .i64 i)] [(1, .var 24 [.c (.sl 12 (l.map aY))]), (500, .arr 9 1 (((l.take i).map (·.name)).map bF) 0)]) (fun i => i ≤ l.length) (fun i => l.length - i) 0 (zero_le _) sl ?_;intro i hi;have hnl : ((l.take i).map (·.name)).length = i := by rw [length_map, length_take]; omega
 refine a8 (ag [] rfl ?_);refine a8 (aA rfl (fun hb => ?_) (fun hb => ?_))
 ·have hlt := ltD hb hkl;obtain ⟨x, hxi⟩ := aI hlt;have hxi' := c6 aY hxi;have hrows : ((l.take i).map (·.name)).map bF ++ [[.str x.name]] = ((l.take (i + 1)).map (·.name)).map bF := by rw [bG hxi]; simp [bF]
  refine aD ?_;refine a8 (aB (a8 (ag [(0, .row i (aY x))] rfl ?_)));refine ag [] rfl ?_;refine ag [] rfl ?_;exact ⟨i + 1, hlt, by dsimp only; omega, sl⟩
 have hge := geD hb hkl hi;subst hge;rw [take_length] at hnl ⊢;generalize l.map (·.name) = N at hnl hci ho ⊢;refine aM ?_;refine AWp.sub (Sub.freeze (id := 500) rfl) (AWp.sub (cv 3 (N.map bF)) ?_);refine a8 (ag [(1, .pc (B (cN N)))] rfl ?_);refine a8 (ag [(0, .id 800)] rfl ?_);refine a8 (aJ mixed ?_);refine ak 3 [] rfl ?_;refine kc hci ?_;refine az ?_;refine a8 (ag [] rfl ?_);exact aF rtT
theorem c_v (s : Str) : bN Tryd.prog 13 [Go.AM.T s] [] (.pa (aE (dR s))) [] := by
 refine cT (n := 5) tok Tryd.func13 rfl rfl rfl ?_;refine a8 (ag [] rfl ?_);refine a8 (ag [] rfl ?_);refine aF ?_;exact rtC trw
theorem uN (a b : Core) : bN Tryd.prog 27 [.pa (aE a), .pa (aE b)] [] (.pa (aE (tG a b))) [] := by
 refine cT (n := 9) tok Tryd.func27 rfl rfl rfl ?_;refine a8 (ag [] rfl ?_);refine a8 (ag [(2, .all)] rfl ?_);refine aF ?_;exact rtC trw
def uV (a b : Core) : Core := .mk 10 0 [97, 100, 100] zTy [a, b] [] []
theorem aA5 (a b : Core) : bN Tryd.prog 12 [.pa (aE a), .pa (aE b)] [] (.pa (aE (uV a b))) [] := by
 refine cT (n := 9) tok Tryd.func12 rfl rfl rfl ?_;refine a8 (ag [] rfl ?_);refine a8 (ag [(2, .all)] rfl ?_);refine aF ?_;exact rtC trw
theorem uJ (s : Str) (a : Core) : bN Tryd.prog 21 [Go.AM.T s, .pa (aE a)] [] (.pa (aE (nM s a))) [] := by
 refine cT (n := 9) tok Tryd.func21 rfl rfl rfl ?_;refine a8 (ag [] rfl ?_);refine a8 (ag [(2, .all)] rfl ?_);refine aF ?_;exact rtC trw
def aFo (n : Int) : Core := .mk 3 n [] zTy [] [] []
def exB : Core := nM [120] (tG (nM [121] (uV (dR [120]) (dR [121]))) (aFo 1))
def exL : List Bind := [.mk [102] zTy exB]
def exF : Str := [102, 64, 102, 49]
def exS : List Sup := [⟨[102], [[120]], tG (tG (dR exF) (dR [120])) (aFo 1)⟩, ⟨exF, [[120], [121]], uV (dR [120]) (dR [121])⟩]
theorem aFr : fC exL = exS := by kernel_rfl
theorem aC4 : oM exS = true := by kernel_rfl
theorem aFy : bN Tryd.prog 8 [] [] (B true) [] := by
 have hL := aH2 exL (by decide) (fun b hb => by
  rw [mem_singleton.1 hb]
  exact ⟨⟨by kernel_rfl, by decide, by decide⟩, .inr ⟨by kernel_rfl, fun s hs => by
   have : s ∈ [([120] : Str)] := of_decide_eq_true hs
   rw [mem_singleton.1 this]; decide⟩, by decide, by decide⟩)
 rw [aFr] at hL
 have hE := aI6 exS (by decide) (fun x hx => by
  rcases mem_cons.1 hx with rfl | hx
  ·exact ⟨by kernel_rfl, by decide, by decide⟩
  ·rw [mem_singleton.1 hx]; exact ⟨by kernel_rfl, by decide, by decide⟩)
 have hC := uO exS (by decide) (fun x hx => by
  rcases mem_cons.1 hx with rfl | hx
  ·exact ⟨by decide, by decide⟩
  ·rw [mem_singleton.1 hx]; exact ⟨by decide, by decide⟩)
 rw [aC4] at hC;have v1 := c_v [120];have v2 := c_v [121];have v3 := c_v exF;have a1 := aA5 (dR [120]) (dR [121]);have l1 := uJ [121] (uV (dR [120]) (dR [121]));have a2 := uN (nM [121] (uV (dR [120]) (dR [121]))) (aFo 1);have l2 := uJ [120] (tG (nM [121] (uV (dR [120]) (dR [121]))) (aFo 1));have a3 := uN (dR exF) (dR [120]);have a4 := uN (tG (dR exF) (dR [120])) (aFo 1);refine cT (n := 35) tok Tryd.func8 rfl rfl rfl ?_;refine a8 (ag [] rfl ?_);refine a8 (ag [] rfl ?_);refine a8 (aJ mixed ?_);refine ak 9 [(0, .pc (.pa (aE (dR [120])))), (1, .pc (.pa (aE (dR [121])))), (2, .pc (.pa (aE (uV (dR [120]) (dR [121]))))), (3, .pc (.pa (aE (nM [121] (uV (dR [120]) (dR [121])))))), (5, .pc (.pa (aE (tG (nM [121] (uV (dR [120]) (dR [121]))) (aFo 1))))), (6, .pc (.pa (aE exB))), (8, .all)] rfl ?_;refine kc hL ?_;refine ak 1 [] rfl ?_;refine az ?_;refine AWp.sub (Sub.freeze (id := 500) rfl) (AWp.sub (cv 2 (exS.map aY)) ?_);refine a8 (agN [(0, .all), (1, .pc (.pa (aE (dR exF)))), (2, .pc (.pa (aE (dR [120])))), (3, .pc (.pa (aE (tG (dR exF) (dR [120]))))), (5, .pc (.pa (aE (tG (tG (dR exF) (dR [120])) (aFo 1))))), (7, .all), (8, .pc (.pa (aE (dR [120])))), (9, .pc (.pa (aE (dR [121])))), (10, .pc (.pa (aE (uV (dR [120]) (dR [121]))))), (12, .all)] rfl ?_);refine a8 (ag [(2, .pc (B true)), (5, .pc (B true))] rfl ?_);exact aF rtT
def nmB (s : Str) : Bool := decide (s ∈ nmL)
mutual
def qE : Core → Bool
 | .mk f _ s _ ks bs al => (if f = 5 then nmB s && (!ks.isEmpty && bs.isEmpty) else if f = 6 ∨ f = 7 then !ks.isEmpty else if f = 1 then nmB s && (ks.isEmpty && (bs.isEmpty && al.isEmpty)) else true) && (j4 ks && (eU bs && eG al))
def j4 : List Core → Bool
 | [] => true
 | c :: l => qE c && j4 l
def eU : List Bind → Bool
 | [] => true
 | .mk s _ c :: l => (nmB s && qE c) && eU l
def eG : List Alt → Bool
 | [] => true
 | .mk _ _ _ v c :: l => (v.all nmB && qE c) && eG l
end
mutual
def gR : Core → Bool
 | .mk f _ s t ks bs al => (decide (f ≠ 6) && (decide (f ≠ 7) && tz t)) && ((if f = 5 then nmB s && (!ks.isEmpty && bs.isEmpty) else if f = 1 then nmB s && (ks.isEmpty && (bs.isEmpty && al.isEmpty)) else true) && (gCs ks && (gBs bs && gAs al)))
def gCs : List Core → Bool
 | [] => true
 | c :: l => gR c && gCs l
def gBs : List Bind → Bool
 | [] => true
 | .mk s t c :: l => ((nmB s && tz t) && gR c) && gBs l
def gAs : List Alt → Bool
 | [] => true
 | .mk _ _ _ v c :: l => (v.all nmB && gR c) && gAs l
end
mutual
theorem aCb : ∀ c, qE c = true → gR (c7 c) = true
 | .mk f n s t ks bs al, h => by
  rw [qE] at h;simp only [Bool.and_eq_true] at h;obtain ⟨h1, h2, h3, h4⟩ := h;have k2 := aDx ks h2;rw [c7];by_cases h67 : f = 6 ∨ f = 7
  ·have h5 : ¬ f = 5 := by omega
   rw [if_neg h5, if_pos h67] at h1;cases ks with
   | nil => simp at h1
   | cons k ks =>
    rw [if_pos ⟨h67, by simp⟩];rw [cJ, gCs, Bool.and_eq_true] at k2;rw [cJ];exact k2.1
  ·rw [if_neg (fun h => h67 h.1), gR];rw [if_neg h67] at h1;have e1 : decide (f ≠ 6) = true := decide_eq_true fun e => h67 (.inl e)
   have e2 : decide (f ≠ 7) = true := decide_eq_true fun e => h67 (.inr e)
   have e3 : tz zTy = true := rfl;simp only [e1, e2, e3, Bool.and_eq_true, true_and];refine ⟨?_, k2, aDy bs h3, aDz al h4⟩;have n1 : (cJ ks).isEmpty = ks.isEmpty := by cases ks <;> simp [cJ]
   have n2 : (dA bs).isEmpty = bs.isEmpty := by cases bs <;> simp [dA]
   have n3 : (dO al).isEmpty = al.isEmpty := by cases al <;> simp [dO]
   rw [n1, n2, n3];exact h1
theorem aDx : ∀ l, j4 l = true → gCs (cJ l) = true
 | [], _ => by rw [cJ, gCs]
 | c :: l, h => by
  rw [j4, Bool.and_eq_true] at h;rw [cJ, gCs, aCb c h.1, aDx l h.2]; rfl
theorem aDy : ∀ l, eU l = true → gBs (dA l) = true
 | [], _ => by rw [dA, gBs]
 | .mk s t c :: l, h => by
  simp only [eU, Bool.and_eq_true] at h;rw [dA, eK, gBs, aCb c h.1.2, aDy l h.2, h.1.1]; rfl
theorem aDz : ∀ l, eG l = true → gAs (dO l) = true
 | [], _ => by rw [dO, gAs]
 | .mk f n s v c :: l, h => by
  simp only [eG, Bool.and_eq_true] at h;rw [dO, n8, gAs, aCb c h.1.2, aDz l h.2, h.1.1]; rfl
end
theorem o9 : ∀ s ∈ nmL, s.length ≤ 3 := by decide
mutual
theorem aGe : ∀ c, gR c = true → wfR c = true ∧ z0R c = true ∧ nmR c = true
 | .mk f n s t ks bs al, h => by
  rw [gR] at h;simp only [Bool.and_eq_true] at h;obtain ⟨⟨a1, a2, a3⟩, a4, a5, a6, a7⟩ := h;obtain ⟨b1, b2, b3⟩ := aHj ks a5;obtain ⟨c1, c2, c3⟩ := aHk bs a6;obtain ⟨d1, d2, d3⟩ := aHl al a7;rw [wfR, z0R, nmR, b1, b2, b3, c1, c2, c3, d1, d2, d3, a3];simp only [Bool.and_true, true_and];by_cases h5 : f = 5
  ·rw [if_pos h5] at a4 ⊢;simp only [Bool.and_eq_true] at a4;rw [if_pos h5];exact ⟨a4.2.1, a4.1⟩
  ·rw [if_neg h5, if_neg h5]; exact ⟨rfl, rfl⟩
theorem aHj : ∀ l, gCs l = true → tJ l = true ∧ aEq l = true ∧ vS l = true
 | [], _ => by rw [tJ, aEq, vS]; exact ⟨rfl, rfl, rfl⟩
 | c :: l, h => by
  rw [gCs, Bool.and_eq_true] at h;obtain ⟨x1, x2, x3⟩ := aGe c h.1;obtain ⟨y1, y2, y3⟩ := aHj l h.2;rw [tJ, aEq, vS, x1, x2, x3, y1, y2, y3]; exact ⟨rfl, rfl, rfl⟩
theorem aHk : ∀ l, gBs l = true → aB1 l = true ∧ aEr l = true ∧ aCs l = true
 | [], _ => by rw [aB1, aEr, aCs]; exact ⟨rfl, rfl, rfl⟩
 | .mk s t c :: l, h => by
  simp only [gBs, Bool.and_eq_true] at h;obtain ⟨x1, x2, x3⟩ := aGe c h.1.2;obtain ⟨y1, y2, y3⟩ := aHk l h.2;have hs : decide (s ∈ nmL) = true := h.1.1.1;rw [aB1, aEr, aCs, x1, x2, x3, y1, y2, y3, h.1.1.2, hs]; exact ⟨rfl, rfl, rfl⟩
theorem aHl : ∀ l, gAs l = true → aB2 l = true ∧ aEs l = true ∧ aCt l = true
 | [], _ => by rw [aB2, aEs, aCt]; exact ⟨rfl, rfl, rfl⟩
 | .mk f n s v c :: l, h => by
  simp only [gAs, Bool.and_eq_true] at h;obtain ⟨x1, x2, x3⟩ := aGe c h.1.2;obtain ⟨y1, y2, y3⟩ := aHl l h.2;have hv : (v.all fun s => decide (s ∈ nmL)) = true := h.1.1;rw [aB2, aEs, aCt, x1, x2, x3, y1, y2, y3, hv]; exact ⟨rfl, rfl, rfl⟩
end
mutual
theorem rY : ∀ (c : Core) (G : Str → Bool) (out : List Str), gR c = true → (∀ s ∈ out, s ∈ nmL) → ∀ s ∈ fR c G out, s ∈ nmL
 | .mk f n x t ks bs al, G, out, h, ho, s, hs => by
  rw [gR] at h;simp only [Bool.and_eq_true] at h;obtain ⟨⟨a1, a2, a3⟩, a4, a5, a6, a7⟩ := h;rw [fR] at hs;split at hs
  ·rename_i h1;rw [if_neg (by omega), if_pos h1] at a4;simp only [Bool.and_eq_true] at a4;split at hs
   ·rcases mem_append.1 hs with hs | hs
    ·exact ho s hs
    ·rw [mem_singleton.1 hs]; exact of_decide_eq_true a4.1
   ·exact ho s hs
  ·exact zU al _ _ a7 (zT bs _ _ a6 (zS ks _ _ a5 ho)) s hs
theorem zS : ∀ (l : List Core) (G : Str → Bool) (out : List Str), gCs l = true → (∀ s ∈ out, s ∈ nmL) → ∀ s ∈ fRk l G out, s ∈ nmL
 | [], _, _, _, ho, s, hs => by rw [fRk] at hs; exact ho s hs
 | c :: l, G, out, h, ho, s, hs => by
  rw [gCs, Bool.and_eq_true] at h;rw [fRk] at hs;exact zS l G _ h.2 (rY c G out h.1 ho) s hs
theorem zT : ∀ (l : List Bind) (G : Str → Bool) (out : List Str), gBs l = true → (∀ s ∈ out, s ∈ nmL) → ∀ s ∈ fRb l G out, s ∈ nmL
 | [], _, _, _, ho, s, hs => by rw [fRb] at hs; exact ho s hs
 | .mk _ _ c :: l, G, out, h, ho, s, hs => by
  simp only [gBs, Bool.and_eq_true] at h;rw [fRb] at hs;exact zT l G _ h.2 (rY c G out h.1.2 ho) s hs
theorem zU : ∀ (l : List Alt) (G : Str → Bool) (out : List Str), gAs l = true → (∀ s ∈ out, s ∈ nmL) → ∀ s ∈ fRa l G out, s ∈ nmL
 | [], _, _, _, ho, s, hs => by rw [fRa] at hs; exact ho s hs
 | .mk _ _ _ v c :: l, G, out, h, ho, s, hs => by
  simp only [gAs, Bool.and_eq_true] at h;rw [fRa] at hs;exact zU l G _ h.2 (rY c _ out h.1.2 ho) s hs
end
mutual
theorem k8 : ∀ c, aG (c7 c) ≤ aG c ∧ cE (c7 c) ≤ cE c
 | .mk f n s t ks bs al => by
  obtain ⟨a1, a2⟩ := sD ks;obtain ⟨b1, b2⟩ := sE bs;obtain ⟨d1, d2⟩ := sF al;rw [c7];split
  ·rename_i h;have h5 : ¬ f = 5 := by omega
   cases ks with
   | nil => simp at h
   | cons k ks =>
    rw [cJ, bA, bA] at a1;rw [cJ, bL, bL] at a2;rw [cJ];obtain ⟨k1, k2⟩ := k8 k;rw [aG, bA, cE, bL];show aG (c7 k) ≤ _ ∧ cE (c7 k) ≤ _;omega
  ·rw [aG, aG, cE, cE];omega
theorem sD : ∀ l, bA (cJ l) ≤ bA l ∧ bL (cJ l) ≤ bL l
 | [] => by rw [cJ]; exact ⟨le_refl _, le_refl _⟩
 | c :: l => by
  obtain ⟨h1, h2⟩ := k8 c;obtain ⟨h3, h4⟩ := sD l;rw [cJ, bA, bA, bL, bL]; omega
theorem sE : ∀ l, bE (dA l) ≤ bE l ∧ bP (dA l) ≤ bP l
 | [] => by rw [dA]; exact ⟨le_refl _, le_refl _⟩
 | .mk s t c :: l => by
  obtain ⟨h1, h2⟩ := k8 c;obtain ⟨h3, h4⟩ := sE l;rw [dA, eK, bE, bE, bsize, bsize, bP, bP]; omega
theorem sF : ∀ l, bC (dO l) ≤ bC l ∧ bI (dO l) ≤ bI l
 | [] => by rw [dO]; exact ⟨le_refl _, le_refl _⟩
 | .mk f n s v c :: l => by
  obtain ⟨h1, h2⟩ := k8 c;obtain ⟨h3, h4⟩ := sF l;rw [dO, n8, bC, bC, fT, fT, bI, bI]; omega
end
theorem lX {l : List Str} {n : Int} (hl : 0 < l.length) : oneOf l n ∈ l := by
 obtain ⟨k, hk⟩ := Int.eq_ofNat_of_zero_le (cP n (k := l.length) (by omega)).1;have hlt := (cP n (k := l.length) (by omega)).2
 have h1 : k < l.length := by omega
 have : oneOf l n = l[k] := by
  unfold oneOf;rw [hk];simp [h1]
 rw [this];exact List.getElem_mem h1
theorem aFg (n : Int) : oneOf nmL n ∈ nmL := lX (by decide)
theorem aAj (n : Int) : (oneOf aC8 n).length ≤ 4 := (by decide : ∀ s ∈ aC8, s.length ≤ 4) _ (lX (by decide))
theorem aCo (n : Int) : (oneOf tU n).length ≤ 4 := (by decide : ∀ s ∈ tU, s.length ≤ 4) _ (lX (by decide))
theorem aEv (n : Int) : (oneOf tK n).length ≤ 4 := (by decide : ∀ s ∈ tK, s.length ≤ 4) _ (lX (by decide))
theorem aHc (n : Int) : nmB (oneOf nmL n) = true := decide_eq_true (aFg n)
theorem iW (n : Int) : ∀ i : Nat, ∀ s ∈ cZ n i, s ∈ nmL
 | 0, s, h => by simp [cZ] at h
 | i + 1, s, h => by
  rw [cZ, aGk] at h;split at h
  ·exact iW n i s h
  ·rcases mem_append.1 h with h | h
   ·exact iW n i s h
   ·rw [mem_singleton.1 h]; exact aFg _
theorem yO : ∀ l : List Str, (∀ s ∈ l, s ∈ nmL) → (l.map fun v => 1 + v.length).sum ≤ 4 * l.length
 | [], _ => by simp
 | s :: l, h => by
  have h1 := yO l fun x hx => h x (mem_cons_of_mem _ hx)
  have h2 := o9 s (h s mem_cons_self);rw [map_cons, List.sum_cons, length_cons];omega
def lf (left : Int) : Nat := (left - 1).toNat
structure MkG (c : Core) (left left' : Int) : Prop where
 raw : qE c = true
 lams : cE c + lf left' ≤ lf left
 size : aG c + 100 * lf left' ≤ 100 * lf left + 7
def aH7 (g : List Int → Int → Mk) : Prop := ∀ l left, MkG (g l left).1 left (g l left).2.2
theorem qT : ∀ a b, eU (a ++ b) = (eU a && eU b)
 | [], b => by rw [nil_append, eU, Bool.true_and]
 | .mk s t c :: a, b => by rw [cons_append, eU, eU, qT a b]; simp only [Bool.and_assoc]
theorem qU : ∀ a b, eG (a ++ b) = (eG a && eG b)
 | [], b => by rw [nil_append, eG, Bool.true_and]
 | .mk f n s v c :: a, b => by rw [cons_append, eG, eG, qU a b]; simp only [Bool.and_assoc]
theorem oP : ∀ a b, bE (a ++ b) = bE a + bE b
 | [], b => by rw [nil_append, bE, zero_add]
 | x :: a, b => by rw [cons_append, bE, bE, oP a b, add_assoc]
theorem oS : ∀ a b, bC (a ++ b) = bC a + bC b
 | [], b => by rw [nil_append, bC, zero_add]
 | x :: a, b => by rw [cons_append, bC, bC, oS a b, add_assoc]
theorem oC : ∀ a b, bP (a ++ b) = bP a + bP b
 | [], b => by rw [nil_append, bP, zero_add]
 | .mk s t c :: a, b => by rw [cons_append, bP, bP, oC a b, add_assoc]
theorem oD : ∀ a b, bI (a ++ b) = bI a + bI b
 | [], b => by rw [nil_append, bI, zero_add]
 | .mk f n s v c :: a, b => by rw [cons_append, bI, bI, oD a b, add_assoc]
theorem sW {g : List Int → Int → Mk} (h : aH7 g) (ns : List Str) (hns : ∀ s ∈ ns, s ∈ nmL) (l : List Int) (left : Int) : ∀ i : Nat, i ≤ ns.length → eU (bS g ns l left i).1 = true ∧ bP (bS g ns l left i).1 + lf (bS g ns l left i).2.2 ≤ lf left ∧ bE (bS g ns l left i).1 + 100 * lf (bS g ns l left i).2.2 ≤ 100 * lf left + 11 * i
 | 0, _ => by simp [bS, eU, bP, bE]
 | i + 1, hi => by
  obtain ⟨h1, h2, h3⟩ := sW h ns hns l left i (by omega);obtain ⟨k1, k2, k3⟩ := h (cK 2 (bS g ns l left i).2.1).2 (bS g ns l left i).2.2;have hs : (ns[i]?.getD []) ∈ nmL := by
   obtain ⟨s, hs⟩ := aI (l := ns) (by omega : i < ns.length);rw [hs]; exact hns s (List.mem_of_getElem? hs)
  have hsl := o9 _ hs;have hsb : nmB (ns[i]?.getD []) = true := decide_eq_true hs;simp only [bS];rw [qT, oC, oP, eU, eU, bP, bP, bE, bE, bsize, h1, k1, hsb];refine ⟨rfl, by omega, by omega⟩
theorem wX {g : List Int → Int → Mk} (h : aH7 g) (n : Int) (l : List Int) (left : Int) : ∀ i : Nat, eG (cQ g n l left i).1 = true ∧ bI (cQ g n l left i).1 + lf (cQ g n l left i).2.2 ≤ lf left ∧ bC (cQ g n l left i).1 + 100 * lf (cQ g n l left i).2.2 ≤ 100 * lf left + 24 * i
 | 0 => by simp [cQ, eG, bI, bC]
 | i + 1 => by
  obtain ⟨h1, h2, h3⟩ := wX h n l left i;obtain ⟨k1, k2, k3⟩ := h (b6 (cQ g n l left i).2.1).2 (cQ g n l left i).2.2;have hni : ∀ s ∈ (b6 (cQ g n l left i).2.1).1, s ∈ nmL := iW _ _;have hnl := iX (cQ g n l left i).2.1;have hvs := yO _ hni;have hva : (b6 (cQ g n l left i).2.1).1.all nmB = true := all_eq_true.2 fun s hs => decide_eq_true (hni s hs)
  have hcl := aAj (n / 14 + i);simp only [cQ];rw [qU, oD, oS, h1];split
  ·rw [eG, eG, bI, bI, bC, bC, fT, k1];refine ⟨rfl, by omega, ?_⟩;simp only [length_nil, map_nil, List.sum_nil];omega
  ·split
   ·rw [eG, eG, bI, bI, bC, bC, fT, k1];refine ⟨rfl, by omega, ?_⟩;simp only [length_nil, map_nil, List.sum_nil];omega
   ·rw [eG, eG, bI, bI, bC, bC, fT, k1, hva];exact ⟨rfl, by omega, by omega⟩
theorem aAh {g : List Int → Int → Mk} (h : aH7 g) (n k : Int) (l : List Int) (left : Int) (hk : 4 ≤ k → 1 ≤ left) : MkG (dB g n k l left).1 (left + 1) (dB g n k l left).2.2 := by
 have hlf : lf left ≤ lf (left + 1) := by unfold lf; omega
 have hlk : 4 ≤ k → lf left + 1 = lf (left + 1) := fun h => by have := hk h; unfold lf; omega
 have n1 := o9 _ (aFg (n / 14));have n2 := aAj (n / 14);have n3 := aCo (n / 14);have n4 := aEv (n / 14);have nb := aHc (n / 14);obtain ⟨g1, g2, g3⟩ := h l left;obtain ⟨h1, h2, h3⟩ := h (g l left).2.1 (g l left).2.2;obtain ⟨u1, u2, u3⟩ := h (cK 2 l).2 left;unfold dB;split
 ·refine ⟨by simp [qE, j4, eU, eG, nb], ?_, ?_⟩ <;> simp only [cE, bL, bP, bI, aG, bA, bE, bC] <;> simp <;> omega
 split
 ·refine ⟨by simp [qE, j4, eU, eG], ?_, ?_⟩ <;> simp only [cE, bL, bP, bI, aG, bA, bE, bC] <;> simp <;> omega
 split
 ·refine ⟨by simp [qE, j4, eU, eG], ?_, ?_⟩ <;> simp only [cE, bL, bP, bI, aG, bA, bE, bC] <;> simp <;> omega
 have hl := hlk (by omega);split
 ·refine ⟨by simp [qE, j4, eU, eG, g1, h1], ?_, ?_⟩ <;> simp only [cE, bL, bP, bI, aG, bA, bE, bC] <;> simp <;> omega
 split
 ·refine ⟨by simp [qE, j4, eU, eG, u1, nb], ?_, ?_⟩ <;> simp only [cE, bL, bP, bI, aG, bA, bE, bC] <;> simp <;> omega
 split
 ·refine ⟨by simp [qE, j4, eU, eG, u1], ?_, ?_⟩ <;> simp only [cE, bL, bP, bI, aG, bA, bE, bC] <;> simp <;> omega
 split
 ·refine ⟨by simp [qE, j4, eU, eG, g1], ?_, ?_⟩ <;> simp only [cE, bL, bP, bI, aG, bA, bE, bC] <;> simp <;> omega
 split
 ·have hnl := iX l;obtain ⟨b1, b2, b3⟩ := sW h (b6 l).1 (iW _ _) (b6 l).2 left (b6 l).1.length (le_refl _);generalize bS g (b6 l).1 (b6 l).2 left (b6 l).1.length = r at b1 b2 b3 ⊢;obtain ⟨c1, c2, c3⟩ := h r.2.1 r.2.2;refine ⟨by simp [qE, j4, eG, c1, b1], ?_, ?_⟩ <;> simp only [cE, bL, bI, aG, bA, bC] <;> simp <;> omega
 split
 ·obtain ⟨b1, b2, b3⟩ := wX h n (g (cK 2 l).2 left).2.1 (g (cK 2 l).2 left).2.2 (n / 14 % 4).toNat;have hi : (n / 14 % 4).toNat ≤ 3 := by omega
  dsimp only;generalize cQ g n (g (cK 2 l).2 left).2.1 (g (cK 2 l).2 left).2.2 (n / 14 % 4).toNat = r at b1 b2 b3 ⊢;refine ⟨by simp [qE, j4, eU, u1, b1], ?_, ?_⟩ <;> simp only [cE, bL, bP, aG, bA, bE] <;> simp <;> omega
 split
 ·refine ⟨by simp [qE, j4, eU, eG, g1, h1], ?_, ?_⟩ <;> simp only [cE, bL, bP, bI, aG, bA, bE, bC] <;> simp <;> omega
 ·refine ⟨by simp [qE, j4, eU, eG], ?_, ?_⟩ <;> simp only [cE, bL, bP, bI, aG, bA, bE, bC] <;> simp <;> omega
theorem aAg : ∀ f : Nat, aH7 (lQ f)
 | 0 => fun l left => by
  have h : aH7 (fun l left => ((.mk 0 0 [] zTy [] [] [], l, left) : Mk)) := fun l left => ⟨by simp [qE, j4, eU, eG], by simp [cE, bL, bP, bI], by simp [aG, bA, bE, bC]; omega⟩
  have := aAh h (aN l).1 ((aN l).1 % 4) (aN l).2 (left - 1) (fun h => by omega);rw [Int.sub_add_cancel] at this;exact this
 | f + 1 => fun l left => by
  have := aAh (aAg f) (aN l).1 (if left - 1 < 1 then (aN l).1 % 4 else (aN l).1 % 14) (aN l).2 (left - 1) (fun h => by
   split at h
   ·omega
   ·omega)
  rw [Int.sub_add_cancel] at this;exact this
theorem rJ (l : List Int) : gR (c7 (eO l)) = true ∧ aG (eO l) ≤ 3000 ∧ aG (c7 (eO l)) ≤ 3000 ∧ cE (c7 (eO l)) ≤ 29 := by
 obtain ⟨h1, h2, h3⟩ := aAg 6 (l.take 60) 30;obtain ⟨e1, e2⟩ := k8 (eO l);have : lf 30 = 29 := rfl;rw [this] at h2 h3;unfold eO at e1 e2 ⊢;exact ⟨aCb _ h1, by omega, by omega, by omega⟩
mutual
theorem n6 : ∀ (c : Core) (G : Str → Bool) (out : List Str), out.Nodup → (fR c G out).Nodup
 | .mk f _ x _ ks bs al, G, out, h => by
  rw [fR];split
  ·split
   ·rename_i hc;simp only [Bool.and_eq_true, Bool.not_eq_true', decide_eq_false_iff_not] at hc;rw [nodup_append];exact ⟨h, by simp, fun a ha b hb e => by simp only [mem_singleton] at hb; subst hb; subst e; exact hc.2 ha⟩
   ·exact h
  ·exact wF al _ _ (wE bs _ _ (wD ks _ _ h))
theorem wD : ∀ (l : List Core) (G : Str → Bool) (out : List Str), out.Nodup → (fRk l G out).Nodup
 | [], _, _, h => by rw [fRk]; exact h
 | c :: l, G, out, h => by rw [fRk]; exact wD l _ _ (n6 c _ _ h)
theorem wE : ∀ (l : List Bind) (G : Str → Bool) (out : List Str), out.Nodup → (fRb l G out).Nodup
 | [], _, _, h => by rw [fRb]; exact h
 | .mk _ _ c :: l, G, out, h => by rw [fRb]; exact wE l _ _ (n6 c _ _ h)
theorem wF : ∀ (l : List Alt) (G : Str → Bool) (out : List Str), out.Nodup → (fRa l G out).Nodup
 | [], _, _, h => by rw [fRa]; exact h
 | .mk _ _ _ vs c :: l, G, out, h => by rw [fRa]; exact wF l _ _ (n6 c _ _ h)
end
mutual
theorem aAa : ∀ (c : Core) (G : Str → Bool) (out : List Str), ∀ s ∈ out, s ∈ fR c G out
 | .mk f _ x _ ks bs al, G, out, s, h => by
  rw [fR];split
  ·split
   ·exact mem_append.2 (.inl h)
   ·exact h
  ·exact n5 al _ _ s (pQ bs _ _ s (u5 ks _ _ s h))
theorem u5 : ∀ (l : List Core) (G : Str → Bool) (out : List Str), ∀ s ∈ out, s ∈ fRk l G out
 | [], _, _, s, h => by rw [fRk]; exact h
 | c :: l, G, out, s, h => by rw [fRk]; exact u5 l _ _ s (aAa c _ _ s h)
theorem pQ : ∀ (l : List Bind) (G : Str → Bool) (out : List Str), ∀ s ∈ out, s ∈ fRb l G out
 | [], _, _, s, h => by rw [fRb]; exact h
 | .mk _ _ c :: l, G, out, s, h => by rw [fRb]; exact pQ l _ _ s (aAa c _ _ s h)
theorem n5 : ∀ (l : List Alt) (G : Str → Bool) (out : List Str), ∀ s ∈ out, s ∈ fRa l G out
 | [], _, _, s, h => by rw [fRa]; exact h
 | .mk _ _ _ vs c :: l, G, out, s, h => by rw [fRa]; exact n5 l _ _ s (aAa c _ _ s h)
end
mutual
theorem aC3 : ∀ (c : Core) (G H : Str → Bool) (out : List Str), Le G H → (∀ s ∈ fR c G out, H s = true) → clR c H = true
 | .mk f _ x _ ks bs al, G, H, out, hl, h => by
  rw [fR] at h;rw [clR];by_cases h1 : f = 1
  ·rw [if_pos h1] at h ⊢;by_cases hg : G x = true
   ·exact hl x hg
   ·have hg' : G x = false := by simpa using hg
    rw [hg'] at h;by_cases hx : x ∈ out
    ·simp [hx] at h; exact h x hx
    ·simp [hx] at h; exact h x (.inr rfl)
  ·rw [if_neg h1] at h ⊢;have hl' := hl.ext (gvs f x bs);have he : ∀ s, H s = true → ext H (gvs f x bs) s = true := fun s hs => by unfold ext; rw [hs]; rfl
   have ha := aEc al _ _ _ hl' fun s hs => he s (h s hs)
   have hb := aEb bs _ _ _ hl' fun s hs => he s (h s (n5 al _ _ s hs))
   have hk := aEa ks _ _ _ hl' fun s hs => he s (h s (n5 al _ _ s (pQ bs _ _ s hs)))
   rw [ha, hb, hk]; rfl
theorem aEa : ∀ (l : List Core) (G H : Str → Bool) (out : List Str), Le G H → (∀ s ∈ fRk l G out, H s = true) → aAk l H = true
 | [], _, _, _, _, _ => by rw [aAk]
 | c :: l, G, H, out, hl, h => by
  rw [fRk] at h;rw [aAk, aC3 c G H out hl fun s hs => h s (u5 l _ _ s hs), aEa l G H _ hl h]; rfl
theorem aEb : ∀ (l : List Bind) (G H : Str → Bool) (out : List Str), Le G H → (∀ s ∈ fRb l G out, H s = true) → aBy l H = true
 | [], _, _, _, _, _ => by rw [aBy]
 | .mk _ _ c :: l, G, H, out, hl, h => by
  rw [fRb] at h;rw [aBy, aC3 c G H out hl fun s hs => h s (pQ l _ _ s hs), aEb l G H _ hl h]; rfl
theorem aEc : ∀ (l : List Alt) (G H : Str → Bool) (out : List Str), Le G H → (∀ s ∈ fRa l G out, H s = true) → aBz l H = true
 | [], _, _, _, _, _ => by rw [aBz]
 | .mk _ _ _ v c :: l, G, H, out, hl, h => by
  rw [fRa] at h;rw [aBz, aC3 c (ext G v) (ext H v) out (hl.ext v) (fun s hs => by unfold ext; rw [h s (n5 l _ _ s hs)]; rfl), aEc l G H _ hl h]; rfl
end
def cY (N : List Str) : List Str → Core → Core
 | [], c => c
 | s :: l, c => cY N l (if s ∈ N then c else nM s c)
theorem oL (N : List Str) (s : Str) : ∀ (l : List Str) (c : Core), cY N (l ++ [s]) c = if s ∈ N then cY N l c else nM s (cY N l c)
 | [], _ => rfl
 | x :: l, c => by rw [cons_append, cY, oL N s l]; rfl
theorem aHs (s : Str) (c : Core) (H : Str → Bool) : clR (nM s c) H = clR c (ext H [s]) := by
 unfold nM;rw [clR, if_neg (by decide), aBy, aBz, aAk, aAk];rw [show gvs 5 s [] = [s] from rfl];simp
theorem wK (N : List Str) : ∀ (l : List Str) (c : Core), clR c (ext (fun s => decide (s ∈ N)) l) = true → clR (cY N l c) (fun s => decide (s ∈ N)) = true
 | [], c, h => by rw [ext_nil] at h; exact h
 | s :: l, c, h => by
  rw [cY];refine wK N l _ ?_;split
  ·rename_i hs;refine kA c (fun x hx => ?_) h;simp only [ext, Bool.or_eq_true, decide_eq_true_eq, mem_cons] at hx ⊢;rcases hx with hx | rfl | hx
   ·exact .inl hx
   ·exact .inl hs
   ·exact .inr hx
  ·rw [aHs, pT];refine kA c (fun x hx => ?_) h;simp only [ext, Bool.or_eq_true, decide_eq_true_eq, mem_cons, mem_append, List.not_mem_nil, or_false] at hx ⊢;rcases hx with hx | rfl | hx
   ·exact .inl hx
   ·exact .inr (.inr rfl)
   ·exact .inr (.inl hx)
theorem aI3 {s : Str} {c : Core} (hs : s ∈ nmL) (h : gR c = true) : gR (nM s c) = true := by
 have : nmB s = true := decide_eq_true hs;unfold nM;rw [gR, gCs, gCs, gBs, gAs, h, if_pos rfl, this]; rfl
theorem uD (N : List Str) : ∀ (l : List Str) (c : Core), (∀ s ∈ l, s ∈ nmL) → gR c = true → gR (cY N l c) = true ∧ aG (cY N l c) ≤ aG c + 4 * l.length ∧ cE (cY N l c) ≤ cE c + l.length
 | [], c, _, h => ⟨h, by rw [cY]; simp, by rw [cY]; simp⟩
 | s :: l, c, hl, h => by
  have hs := hl s mem_cons_self;have h3 := o9 s hs;rw [cY, length_cons];by_cases hn : s ∈ N
  ·rw [if_pos hn];obtain ⟨i1, i2, i3⟩ := uD N l c (fun x hx => hl x (mem_cons_of_mem _ hx)) h;exact ⟨i1, by omega, by omega⟩
  ·rw [if_neg hn];obtain ⟨i1, i2, i3⟩ := uD N l (nM s c) (fun x hx => hl x (mem_cons_of_mem _ hx)) (aI3 hs h);have e1 : aG (nM s c) = 1 + s.length + aG c := by unfold nM; rw [aG, bA, bA, bE, bC]; simp
   have e2 : cE (nM s c) = 1 + cE c := by unfold nM; rw [cE, bL, bL, bP, bI]; simp
   exact ⟨i1, by omega, by omega⟩
def cI : List Str := [[120], [98], [122, 64, 49], [103]]
def jK (l : List (List Int)) (k : Nat) : List Bind := (List.range k).map fun i => .mk (cI[i]?.getD []) zTy (c7 (eO (l[i]?.getD [])))
def wL (N : List Str) (b : Bind) : Bind := .mk b.name b.ty (cY N (fR b.body (fun _ => false) []) b.body)
def gD (l : List (List Int)) : List Bind := (jK l (min l.length 4)).map (wL (cI.take (min l.length 4)))
theorem tY (l : List (List Int)) : ∀ k, k ≤ 4 → (jK l k).map Bind.name = cI.take k := by
 intro k hk;unfold jK;rw [map_map];have : k = 0 ∨ k = 1 ∨ k = 2 ∨ k = 3 ∨ k = 4 := by omega
 rcases this with rfl | rfl | rfl | rfl | rfl <;> rfl
theorem rQ (l : List (List Int)) : (gD l).map Bind.name = cI.take (min l.length 4) := by
 unfold gD;rw [map_map, ← tY l _ (by omega)];rfl
structure BG (N : List Str) (b : Bind) : Prop where
 g : gR b.body = true
 sz : aG b.body ≤ 3020
 lams : cE b.body ≤ 34
 cl : clR b.body (fun s => decide (s ∈ N)) = true
 nm : b.name.length ≤ 3
 ne : b.name ≠ []
theorem aCz (l : List (List Int)) : ∀ b ∈ gD l, BG (cI.take (min l.length 4)) b := by
 intro b hb;have hbn : b.name ∈ cI := by
  have : b.name ∈ (gD l).map Bind.name := mem_map.2 ⟨b, hb, rfl⟩;rw [rQ] at this;exact mem_of_mem_take this
 obtain ⟨x, hx, rfl⟩ := mem_map.1 hb;obtain ⟨i, hi, rfl⟩ := mem_map.1 hx;obtain ⟨m1, m2, m3, m4⟩ := rJ (l[i]?.getD []);have hf := rY _ (fun _ => false) [] m1 (by simp);have hfl : (fR (c7 (eO (l[i]?.getD []))) (fun _ => false) []).length ≤ 5 := iE nmL _ (n6 _ _ _ nodup_nil) hf;obtain ⟨c1, c2, c3⟩ := uD (cI.take (min l.length 4)) _ _ hf m1;refine ⟨c1, ?_, ?_, ?_, (by decide : ∀ s ∈ cI, s.length ≤ 3) _ hbn, (by decide : ∀ s ∈ cI, s ≠ []) _ hbn⟩
 ·exact le_trans c2 (by omega)
 ·exact le_trans c3 (by omega)
 ·refine wK _ _ _ (aC3 _ (fun _ => false) _ [] (fun s h => by cases h) fun s hs => ?_);simp only [ext, Bool.or_eq_true, decide_eq_true_eq];exact .inr hs
theorem BG.pok {N : List Str} {b : Bind} (h : BG N b) : POk b := by
 obtain ⟨w1, w2, w3⟩ := aGe _ h.g;obtain ⟨c1, c2, c3⟩ := jX _ b.body (le_refl _) w1 w3;have h1 := h.sz;have h2 := h.lams;have h3 := h.nm;exact ⟨⟨w1, by omega, by omega⟩, .inr ⟨c2, fun s hs => c1 s (of_decide_eq_true hs)⟩, by omega, by omega⟩
def kG : List Sup → Nat
 | [] => 0
 | x :: l => aG x.body + kG l
theorem vW : ∀ a b : List Sup, kG (a ++ b) = kG a + kG b
 | [], b => by rw [nil_append, kG, zero_add]
 | x :: a, b => by rw [cons_append, kG, kG, vW a b, add_assoc]
theorem vU (c : Core) : ∀ (l : List Sup) (k : Nat), kG (setBody l k c) ≤ kG l + aG c
 | [], k => by rw [setBody]; exact le_add_right _ _
 | x :: l, 0 => by rw [setBody, kG, kG]; dsimp only; omega
 | x :: l, k + 1 => by rw [setBody, kG, kG]; have := vU c l k; omega
theorem vV : ∀ {l : List Sup} {x : Sup}, x ∈ l → aG x.body ≤ kG l
 | y :: l, x, h => by
  rw [kG];rcases mem_cons.1 h with rfl | h
  ·omega
  ·have := vV h; omega
def aJb (l : List Str) : Prop := ∀ s ∈ l, s.length ≤ 40
theorem jI : ∀ (l : List Str) (i : Nat), (∀ s ∈ l, s ∈ nmL) → aJb (eR i l)
 | [], _, _ => by rw [eR]; intro s hs; simp at hs
 | s :: l, i, h => by
  have ih := jI l (i + 1) fun x hx => h x (mem_cons_of_mem _ hx)
  have h1 := o9 s (h s mem_cons_self);have h2 := jN i;rw [eR];intro x hx;rcases mem_cons.1 hx with rfl | hx
  ·split
   ·simp only [length_append, length_cons, length_nil]; omega
   ·omega
  ·exact ih x hx
def qD (l : List Sup) : Prop := ∀ x ∈ l, x.params.length ≤ 100 ∧ aJb x.params
theorem qD.app {a b : List Sup} (ha : qD a) (hb : qD b) : qD (a ++ b) := fun x hx => (mem_append.1 hx).elim (ha x) (hb x)
theorem qD.set (c : Core) : ∀ {l : List Sup} (k : Nat), qD l → qD (setBody l k c)
 | [], k, h => by rw [setBody]; exact h
 | x :: l, 0, h => by
  rw [setBody];intro y hy;rcases mem_cons.1 hy with rfl | hy
  ·exact h x mem_cons_self
  ·exact h y (mem_cons_of_mem _ hy)
 | x :: l, k + 1, h => by
  rw [setBody];intro y hy;rcases mem_cons.1 hy with rfl | hy
  ·exact h _ mem_cons_self
  ·exact qD.set c (l := l) k (fun z hz => h z (mem_cons_of_mem _ hz)) y hy
theorem lL : ∀ (l : List Str) (c : Core), (∀ s ∈ l, s ∈ nmL) → aG (eI c l) ≤ aG c + 5 * l.length
 | [], c, _ => by rw [eI]; exact le_add_right _ _
 | s :: l, c, h => by
  have h1 := lL l (tG c (dR s)) fun x hx => h x (mem_cons_of_mem _ hx)
  have h2 := o9 s (h s mem_cons_self);have h3 : aG (tG c (dR s)) = aG c + s.length + 2 := by
   unfold tG dR;rw [aG, bA, bA, bA, bE, bC, aG, bA, bE, bC];simp;omega
  rw [eI, length_cons];omega
theorem y7 {ks : List Core} (hw : tJ ks = true) (hn : vS ks = true) : (∀ s ∈ cM ks, s ∈ nmL) ∧ (cM ks).length ≤ bL ks := by
 cases ks with
 | nil => rw [cM]; exact ⟨by simp, by simp⟩
 | cons k ks =>
  rw [tJ, Bool.and_eq_true] at hw;rw [vS, Bool.and_eq_true] at hn;obtain ⟨h1, _, h3⟩ := jX _ k (le_refl _) hw.1 hn.1;rw [cM, bL];exact ⟨h1, by omega⟩
def Sml (of : Str) : Prop := of.length ≤ 10
def AIn (A : Str → Bool) : Prop := ∀ s, A s = true → s ∈ nmL
theorem AIn.ext {A : Str → Bool} (h : AIn A) {l : List Str} (hl : ∀ s ∈ l, s ∈ nmL) : AIn (ext A l) := fun s hs => by
 simp only [YtlegeikmepnmcaaDoor.ext, Bool.or_eq_true, decide_eq_true_eq] at hs;exact hs.elim (h s) (hl s)
mutual
theorem mP {of : Str} (ho : Sml of) : ∀ (c : Core) (ch : Bool) (A : Str → Bool) (made : List Sup), wfR c = true → nmR c = true → cE c ≤ 90 → AIn A → qD made →
  aG (bD of ch c A made).1 + kG (bD of ch c A made).2 ≤ aG c + kG made + 100 * cE c ∧ qD (bD of ch c A made).2
 | .mk f n s t ks bs al, ch, A, made, hw, hn, hl, hA, hp => by
  have hw0 := hw;have hn0 := hn;simp only [wfR, Bool.and_eq_true] at hw;simp only [nmR, Bool.and_eq_true] at hn;rw [cE] at hl ⊢;rw [bD];by_cases h5 : f = 5
  ·rw [if_pos h5] at hl hw hn ⊢;rw [if_pos h5];have hne : ks ≠ [] := fun e => by subst e; simp at hw
   cases ch with
   | true =>
    rw [if_pos rfl];obtain ⟨k1, k2⟩ := vM ho ks A made hne hw.2.1 hn.2.1 (by omega) hA hp;rw [aG];exact ⟨by omega, k2⟩
   | false =>
    rw [if_neg Bool.false_ne_true];dsimp only;have hfi := iZ A (.mk f n s t ks bs al) (fun _ => false) [] (fun s hs => by simp at hs);have hfo := gL A (.mk f n s t ks bs al) (fun _ => false) [] nodup_nil;have hfn : ∀ x ∈ bZ A (.mk f n s t ks bs al) (fun _ => false) [], x ∈ nmL := fun x hx => hA x (hfi x hx)
    have hfl := iE nmL _ hfo hfn;have hnl : nmL.length = 5 := rfl;obtain ⟨c1, c2⟩ := y7 hw.2.1 hn.2.1;generalize bZ A (.mk f n s t ks bs al) (fun _ => false) [] = free at hfn hfl ⊢;have han : ∀ x ∈ free ++ (s :: cM ks), x ∈ nmL := fun x hx => by
     rcases mem_append.1 hx with hx | hx
     ·exact hfn x hx
     ·rcases mem_cons.1 hx with rfl | hx
      ·exact of_decide_eq_true hn.1
      ·exact c1 x hx
    have hal : (free ++ (s :: cM ks)).length ≤ 100 := by rw [length_append, length_cons]; omega
    generalize free ++ (s :: cM ks) = all at han hal ⊢;have hpl : (aX all).length = all.length := eA all 0;obtain ⟨k1, k2⟩ := vM ho ks (fun x => decide (x ∈ all)) (made ++ [⟨cX of made.length, aX all, eE⟩]) hne hw.2.1 hn.2.1 (by omega) (fun x hx => han x (of_decide_eq_true hx)) (hp.app fun x hx => by rw [mem_singleton.1 hx]; exact ⟨by show (aX all).length ≤ 100; omega, jI all 0 han⟩);rw [vW] at k1;have e1 : kG [⟨cX of made.length, aX all, eE⟩] = 1 := by simp [kG, eE, aG, bA, bE, bC]
    rw [e1] at k1;generalize jH of ks (fun x => decide (x ∈ all)) (made ++ [⟨cX of made.length, aX all, eE⟩]) = r at k1 k2 ⊢;have hs := vU r.1 r.2 made.length;have ha := lL free (dR (cX of made.length)) hfn;have hd := jN (made.length + 1);have hv : aG (dR (cX of made.length)) ≤ 33 := by
     unfold dR cX;unfold Sml at ho;simp only [aG, bA, bE, bC, length_append];simp;omega
    refine ⟨?_, qD.set r.1 made.length k2⟩;rw [aG];omega
  ·rw [if_neg h5] at hl ⊢;rw [if_neg h5];have hg := vQ hn0;have hA' := hA.ext hg;obtain ⟨b1, b2⟩ := r8 ho bs (ext A (gvs f s bs)) made hw.2.2.1 hn.2.2.1 (by omega) hA' hp;obtain ⟨k1, k2⟩ := r7 ho ks (ext A (gvs f s bs)) (bM of bs (ext A (gvs f s bs)) made).2 hw.2.1 hn.2.1 (by omega) hA' b2;obtain ⟨a1, a2⟩ := r9 ho al (ext A (gvs f s bs)) (bX of ks (ext A (gvs f s bs)) (bM of bs (ext A (gvs f s bs)) made).2).2 hw.2.2.2 hn.2.2.2 (by omega) hA' k2;refine ⟨?_, a2⟩;dsimp only;rw [aG, aG];omega
theorem vM {of : Str} (ho : Sml of) : ∀ (l : List Core) (A : Str → Bool) (made : List Sup), l ≠ [] → tJ l = true → vS l = true → bL l ≤ 90 → AIn A → qD made →
  aG (jH of l A made).1 + kG (jH of l A made).2 ≤ bA l + kG made + 100 * bL l ∧ qD (jH of l A made).2
 | [], _, _, h, _, _, _, _, _ => absurd rfl h
 | c :: l, A, made, _, hw, hn, hl, hA, hp => by
  rw [tJ, Bool.and_eq_true] at hw;rw [vS, Bool.and_eq_true] at hn;rw [bL] at hl ⊢;rw [jH, bA];obtain ⟨h1, h2⟩ := mP ho c true A made hw.1 hn.1 (by omega) hA hp;exact ⟨by omega, h2⟩
theorem r7 {of : Str} (ho : Sml of) : ∀ (l : List Core) (A : Str → Bool) (made : List Sup), tJ l = true → vS l = true → bL l ≤ 90 → AIn A → qD made →
  bA (bX of l A made).1 + kG (bX of l A made).2 ≤ bA l + kG made + 100 * bL l ∧ qD (bX of l A made).2
 | [], _, _, _, _, _, _, hp => by rw [bX]; exact ⟨by dsimp only; rw [bL]; omega, hp⟩
 | c :: l, A, made, hw, hn, hl, hA, hp => by
  rw [tJ, Bool.and_eq_true] at hw;rw [vS, Bool.and_eq_true] at hn;rw [bL] at hl ⊢;rw [bX];obtain ⟨h1, h2⟩ := mP ho c false A made hw.1 hn.1 (by omega) hA hp;obtain ⟨h3, h4⟩ := r7 ho l A (bD of false c A made).2 hw.2 hn.2 (by omega) hA h2;refine ⟨?_, h4⟩;dsimp only;rw [bA, bA];omega
theorem r8 {of : Str} (ho : Sml of) : ∀ (l : List Bind) (A : Str → Bool) (made : List Sup), aB1 l = true → aCs l = true → bP l ≤ 90 → AIn A → qD made →
  bE (bM of l A made).1 + kG (bM of l A made).2 ≤ bE l + kG made + 100 * bP l ∧ qD (bM of l A made).2
 | [], _, _, _, _, _, _, hp => by rw [bM]; exact ⟨by dsimp only; rw [bP]; omega, hp⟩
 | .mk s t c :: l, A, made, hw, hn, hl, hA, hp => by
  simp only [aB1, Bool.and_eq_true] at hw;simp only [aCs, Bool.and_eq_true] at hn;rw [bP] at hl ⊢;rw [bM];obtain ⟨h1, h2⟩ := mP ho c false A made hw.1.2 hn.1.2 (by omega) hA hp;obtain ⟨h3, h4⟩ := r8 ho l A (bD of false c A made).2 hw.2 hn.2 (by omega) hA h2;refine ⟨?_, h4⟩;dsimp only;rw [bE, bE, bsize, bsize];omega
theorem r9 {of : Str} (ho : Sml of) : ∀ (l : List Alt) (A : Str → Bool) (made : List Sup), aB2 l = true → aCt l = true → bI l ≤ 90 → AIn A → qD made →
  bC (c0 of l A made).1 + kG (c0 of l A made).2 ≤ bC l + kG made + 100 * bI l ∧ qD (c0 of l A made).2
 | [], _, _, _, _, _, _, hp => by rw [c0]; exact ⟨by dsimp only; rw [bI]; omega, hp⟩
 | .mk f n s v c :: l, A, made, hw, hn, hl, hA, hp => by
  rw [aB2, Bool.and_eq_true] at hw;simp only [aCt, Bool.and_eq_true] at hn;rw [bI] at hl ⊢;rw [c0];obtain ⟨h1, h2⟩ := mP ho c false (ext A v) made hw.1 hn.1.2 (by omega) (hA.ext fun x hx => of_decide_eq_true (all_eq_true.1 hn.1.1 x hx)) hp;obtain ⟨h3, h4⟩ := r9 ho l A (bD of false c (ext A v) made).2 hw.2 hn.2 (by omega) hA h2;refine ⟨?_, h4⟩;dsimp only;rw [bC, bC, fT, fT];omega
end
theorem aCy {N : List Str} {b : Bind} (h : BG N b) : ∀ x ∈ tX b, aG x.body ≤ 10000 ∧ x.params.length ≤ 100 ∧ aJb x.params := by
 obtain ⟨w1, w2, w3⟩ := aGe _ h.g;have hp := h.pok;obtain ⟨c1, c2, c3⟩ := jX _ b.body (le_refl _) w1 w3;obtain ⟨x1, x2, x3, x4, x5, x6⟩ := iR _ b.body (le_refl _) w1;have hs := h.sz;have hl := h.lams;obtain ⟨k1, k2⟩ := mP (of := b.name) (by have := h.nm; unfold Sml; omega) (bJ b.body) false (fun x => decide (x ∈ aW b.body)) [] x2 c2 (by omega) (fun x hx => c1 x (of_decide_eq_true hx)) (fun x hx => by simp at hx);rw [jY w1];generalize bD b.name false (bJ b.body) (fun x => decide (x ∈ aW b.body)) [] = r at k1 k2 ⊢;rw [kG] at k1;intro x hx;rcases mem_cons.1 hx with rfl | hx
 ·have hpl : (aX (aW b.body)).length = (aW b.body).length := eA _ 0;have := hp.cn;exact ⟨by show aG r.1 ≤ _; omega, by show (aX (aW b.body)).length ≤ _; omega, jI _ 0 c1⟩
 ·have := vV hx;exact ⟨by omega, k2 x hx⟩
theorem zP {N : List Str} {b : Bind} (h : BG N b) : (tX b).length ≤ 35 := by
 obtain ⟨w1, w2, w3⟩ := aGe _ h.g;obtain ⟨c1, c2, c3⟩ := jX _ b.body (le_refl _) w1 w3;have hl := h.lams;rw [jY w1, length_cons];have := jS b.name (bJ b.body) false (fun x => decide (x ∈ aW b.body)) [];simp only [length_nil] at this;omega
theorem tW {N : List Str} {l : List Bind} (h : ∀ b ∈ l, BG N b) : (∀ x ∈ fC l, aG x.body ≤ 10000 ∧ x.params.length ≤ 100) ∧ (fC l).length ≤ 35 * l.length := by
 refine ⟨fun x hx => ?_, ?_⟩
 ·obtain ⟨b, hb, hx'⟩ := List.mem_flatMap.1 hx;obtain ⟨h1, h2, _⟩ := aCy (h b hb) x hx';exact ⟨h1, h2⟩
 ·induction l with
  | nil => simp [fC]
  | cons b l ih =>
   have h1 := zP (h b mem_cons_self);have h2 := ih fun x hx => h x (mem_cons_of_mem _ hx)
   unfold fC at h2 ⊢;rw [List.flatMap_cons, length_append, length_cons];omega
def aFs (x : List Int) : List C := [.sl 1 (x.map aAc)]
theorem rR (l : List (List Int)) (k : Nat) : (jK l k).length = k := by simp [jK]
theorem xX (l : List (List Int)) {i : Nat} {s : Str} {x : List Int} (hs : cI[i]? = some s) (hx : l[i]? = some x) : jK l (i + 1) = jK l i ++ [.mk s zTy (c7 (eO x))] := by
 unfold jK;rw [range_succ, map_append, List.map_singleton, hs, hx];rfl
theorem aDb (l : List (List Int)) (hl : Fits l) (hn : ∀ x ∈ l, yN x ∧ Fits x) : bN Tryd.prog 6 [.one (.c (.sl 1 (l.map aFs)))] [] (.one (.c (.sl 15 ((gD l).map aK)))) [] := by
 unfold Fits at hl;have hkl : (l.map aFs).length = l.length := length_map _;have hlb := rR l;refine cT (n := 77) tok Tryd.func6 rfl rfl rfl ?_;refine a8 (ag [] rfl ?_);refine a8 (ag [(0, .all)] rfl ?_);refine a8 (ag [] rfl ?_);refine AWp.sub (Sub.own (t := 4) (id := 500) 46 15 rfl rfl) ?_;refine a8 (a8 (ag [] rfl ?_));refine aB ?_;refine aL (fun i : Nat => mk [(0, .one (.c (.sl 1 (l.map aFs)))), (3, b7 cI), (4, .one (.hs 500 0 i i)), (5, I .i64 i)] [(500, .arr 46 15 ((jK l i).map aK) 0)]) (fun i => i ≤ min l.length 4) (fun i => 4 - i) 0 (zero_le _) sl ?_;intro i hi;have hli := hlb i;have hli2 : ((jK l i).map aK).length = i := by rw [length_map]; exact hli
 refine a8 (a8 (agF 5 [] rfl rfl rfl ?_));refine aA rfl (fun hb => ?_) (fun hb => ?_)
 ·have hlt : i < l.length ∧ i < 4 := by
   simp at hb;omega
  obtain ⟨x, hx⟩ := aI hlt.1;have hx' := c6 aFs hx;obtain ⟨s, hs⟩ := aI (show i < cI.length from hlt.2);have hs' := c6 bF hs;obtain ⟨n1, n2⟩ := hn x (List.mem_of_getElem? hx);have hmd := aEg x n1 n2;obtain ⟨m1, m2, m3, m4⟩ := rJ x;have her : bN Tryd.prog 10 [.pa (aE (eO x))] [] (.pa (aE (c7 (eO x)))) [] := uM _ (eO x) (le_refl _) (by omega);have hst := xX l hs hx;have hrows : (jK l i).map aK ++ [aK (.mk s zTy (c7 (eO x)))] = (jK l (i + 1)).map aK := by rw [hst, map_append]; rfl
  generalize eO x = c at hmd her hrows;generalize c7 c = e at her hrows;refine aD ?_;refine a8 (aB ?_);refine agN [(3, .row i (bF s)), (7, .row i (aFs x)), (9, .pc (.pa (aE c))), (10, .pc (.pa (aE e))), (12, .all)] rfl ?_;refine ag [] rfl ?_;exact ⟨i + 1, by omega, by dsimp only; omega, sl⟩
 have hge : i = min l.length 4 := by
  simp at hb;omega
 subst hge;refine aM ?_;have hk : min l.length 4 ≤ 4 := Nat.min_le_right _ _;have hLl : (gD l).length = min l.length 4 := by unfold gD; rw [length_map]; exact hlb _
 have hBL : ∀ {i b}, (jK l (min l.length 4))[i]? = some b → (gD l)[i]? = some (wL (cI.take (min l.length 4)) b) := fun h => by unfold gD; rw [List.getElem?_map, h]; rfl
 have hgB : ∀ b ∈ jK l (min l.length 4), gR b.body = true ∧ aG b.body ≤ 3000 := fun b hb => by
  obtain ⟨i, hi, rfl⟩ := mem_map.1 hb;obtain ⟨m1, m2, m3, m4⟩ := rJ (l[i]?.getD []);exact ⟨m1, m3⟩
 have hb0 := hlb (min l.length 4);generalize gD l = L at hLl hBL ⊢;generalize jK l (min l.length 4) = B0 at hb0 hBL hgB ⊢;generalize min l.length 4 = k at hk hLl hBL hb0 ⊢;refine a8 (a8 (ag [] rfl ?_));refine aB ?_;refine aL (fun i : Nat => mk [(3, b7 cI), (4, .one (.hs 500 0 k k)), (6, I .i64 i)] [(500, .arr 46 15 ((L.take i ++ B0.drop i).map aK) 0)]) (fun i => i ≤ k) (fun i => k - i) 0 (zero_le _) sl ?_;intro i hi;have hml : ((L.take i ++ B0.drop i).map aK).length = k := by rw [length_map, length_append, length_take, length_drop]; omega
 have hml2 : (L.take i ++ B0.drop i).length = k := by rw [length_append, length_take, length_drop]; omega
 refine a8 (a8 (ag [] rfl ?_));refine aA rfl (fun hb => ?_) (fun hb => ?_)
 ·have hlt : i < k := by
   have : (i : Int) < (k : Int) := of_decide_eq_true hb;omega
  obtain ⟨b, hbi⟩ := aI (show i < B0.length by omega);obtain ⟨g1, g2⟩ := hgB b (List.mem_of_getElem? hbi);have hLi := hBL hbi;have hMi : (L.take i ++ B0.drop i)[i]? = some b := qA (by rw [length_take]; omega) hbi;have hMi' := c6 aK hMi;have hstep : (L.take i ++ B0.drop i).set i (wL (cI.take k) b) = L.take (i + 1) ++ B0.drop (i + 1) := vD (by omega) hLi;have hfr := aDg b.body (by omega);have hff := rY b.body (fun _ => false) [] g1 (by simp);have hfl : (fR b.body (fun _ => false) []).length ≤ 5 := iE nmL _ (n6 _ _ _ nodup_nil) hff;have hcb : wL (cI.take k) b = .mk b.name b.ty (cY (cI.take k) (fR b.body (fun _ => false) []) b.body) := rfl;rw [hcb] at hstep;generalize fR b.body (fun _ => false) [] = free at hfr hfl hstep;generalize L.take i ++ B0.drop i = M at hml hml2 hMi hMi' hstep ⊢;have hkf : (free.map bF).length = free.length := length_map _;have hM0 : M.map aK = (M.set i (.mk b.name b.ty (cY (cI.take k) (free.take 0) b.body))).map aK := by
   rw [take_zero, cY];rw [show Bind.mk b.name b.ty b.body = b by cases b; rfl, lT hMi]
  refine aD ?_;refine a8 (aB ?_);refine a8 (ag [(4, .row i (aK b)), (5, .pc (b7 free))] rfl ?_);refine a8 (ag [] rfl ?_);refine aB ?_;refine aL (fun j : Nat => mk [(3, b7 cI), (4, .one (.hs 500 0 k k)), (6, I .i64 i), (7, b7 free), (8, I .i64 j)] [(500, .arr 46 15 ((M.set i (.mk b.name b.ty (cY (cI.take k) (free.take j) b.body))).map aK) 0)]) (fun j => j ≤ free.length) (fun j => free.length - j) 0 (zero_le _) (by rw [← hM0]; exact sl) ?_;intro j hj;have hsl : ((M.set i (Bind.mk b.name b.ty (cY (cI.take k) (free.take j) b.body))).map aK).length = k := by rw [length_map, length_set]; exact hml2
  refine a8 (a8 (ag [] rfl ?_));refine aA rfl (fun hb => ?_) (fun hb => ?_)
  ·have hlt2 := ltD hb hkf;obtain ⟨s, hs⟩ := aI hlt2;have hs' := c6 bF hs;have hst : cY (cI.take k) (free.take (j + 1)) b.body = if s ∈ cI.take k then cY (cI.take k) (free.take j) b.body else nM s (cY (cI.take k) (free.take j) b.body) := by rw [bG hs, oL]
   have hrow : (M.set i (Bind.mk b.name b.ty (cY (cI.take k) (free.take j) b.body)))[i]? = some (Bind.mk b.name b.ty (cY (cI.take k) (free.take j) b.body)) := List.getElem?_set_self (by omega);have hrow' := c6 aK hrow;have hss : ∀ y, (M.set i (Bind.mk b.name b.ty (cY (cI.take k) (free.take j) b.body))).set i y = M.set i y := fun y => List.set_set _
   have hha : bN Tryd.prog 20 [.one (.c (.sl 1 ((cI.map bF).take k))), Go.AM.T s] [] (B (decide (s ∈ cI.take k))) [] := by rw [← map_take]; exact nE _ _ (by unfold Fits; rw [length_take]; omega)
   generalize cY (cI.take k) (free.take j) b.body = c at hst hrow hrow' hss hsl ⊢;have hlc := uJ s c;generalize hM2 : M.set i (Bind.mk b.name b.ty c) = M2 at hrow hrow' hss hsl ⊢;refine aD ?_;refine a8 (aB ?_);refine a8 (agN [(6, .row j (bF s)), (8, .pc (B (decide (s ∈ cI.take k))))] rfl ?_);refine aA rfl (fun hb => ?_) (fun hb => ?_)
   ·have hin : ¬ s ∈ cI.take k := by simpa using hb
    rw [if_neg hin] at hst;have hset : (M2.map aK).set i (aK (.mk b.name b.ty (nM s c))) = (M.set i (.mk b.name b.ty (nM s c))).map aK := by rw [← hss, List.map_set]
    refine agN [(4, .row j (bF s)), (10, .row i (aK (.mk b.name b.ty c))), (11, .pc (.pa (aE (nM s c)))), (14, .row i (aK (.mk b.name b.ty c)))] rfl ?_;refine ag [] rfl ?_;refine ⟨j + 1, hlt2, by dsimp only; omega, ?_⟩;dsimp only;rw [hst];exact sl
   ·have hin : s ∈ cI.take k := by simpa using hb
    rw [if_pos hin] at hst;rw [← hM2];refine aD ?_;refine ag [] rfl ?_;refine ⟨j + 1, hlt2, by dsimp only; omega, ?_⟩;dsimp only;rw [hst];exact sl
  have hge2 := geD hb hkf hj;subst hge2;refine aM ?_;rw [take_length, hstep];refine ag [] rfl ?_;exact ⟨i + 1, hlt, by dsimp only; omega, sl⟩
 have hge : i = k := by
  have : ¬ (i : Int) < (k : Int) := of_decide_eq_false hb;omega
 subst hge;have hend : L.take i ++ B0.drop i = L := by rw [← hLl, take_length, drop_of_length_le (by omega), append_nil]
 rw [hend];refine aM ?_;refine a8 (ag [] rfl ?_);refine AWp.sub (Sub.freeze (id := 500) rfl) ?_;exact aF (rtT (hc := hs_all rfl rfl (by rw [length_map]; exact hLl.symm) rfl))
def j5 : Str := [110, 111, 110, 101]
def mS (h : Int) (x0 x : Sup) (v : List Int) : Sup :=
 if h = 1 then ⟨x0.name, x.params, x.body⟩
 else if h = 2 then ⟨x.name, x.params ++ [[120]], x.body⟩
 else if h = 3 then ⟨x.name, x.params, c7 (eO v)⟩
 else if h = 4 then ⟨x.name, x.params, eO v⟩
 else if h = 5 then ⟨x.name, x.params, uV x.body (dR j5)⟩
 else if h = 6 then ⟨x.name, [], x.body⟩
 else if h = 7 then ⟨x.name, x.params, .mk 8 0 [] zTy [dR j5] [.mk j5 zTy x.body] []⟩
 else x
theorem aFh {h : Int} {x0 x : Sup} {v : List Int} (hx : aG x.body ≤ 10000 ∧ x.params.length ≤ 100) : aG (mS h x0 x v).body ≤ 400000 ∧ (mS h x0 x v).params.length ≤ 100000 := by
 obtain ⟨m1, m2, m3, m4⟩ := rJ v;unfold mS;split
 ·exact ⟨by dsimp only; omega, by dsimp only; omega⟩
 split
 ·exact ⟨by dsimp only; omega, by dsimp only; rw [length_append]; simp; omega⟩
 split
 ·exact ⟨by dsimp only; omega, by dsimp only; omega⟩
 split
 ·exact ⟨by dsimp only; omega, by dsimp only; omega⟩
 split
 ·refine ⟨?_, by dsimp only; omega⟩;dsimp only;unfold uV dR j5;simp only [aG, bA, bE, bC];simp;omega
 split
 ·exact ⟨by dsimp only; omega, by simp⟩
 split
 ·refine ⟨?_, by dsimp only; omega⟩;dsimp only;unfold dR j5;simp only [aG, bA, bE, bC, bsize];simp;omega
 ·exact ⟨by omega, by omega⟩
theorem aEy {α : Type} {l : List α} {k : Nat} {y x : α} (h : x ∈ l.set k y) : x ∈ l ∨ x = y := List.mem_or_eq_of_mem_set h
theorem sS (l : List (List Int)) (n m : Int) (v : List Int) (hl : Fits l) (hn : ∀ x ∈ l, yN x ∧ Fits x) (hi : i64 n) (hj : i64 m) (hv : yN v ∧ Fits v) :
  aGb Tryd.prog 3 [.one (.c (.sl 1 (l.map aFs))), I .i64 n, I .i64 m, .one (.c (.sl 1 (v.map aAc)))] (B true) := by
 have hbi := aDb l hl hn;have hbg := aCz l;have hbl : (gD l).length ≤ 4 := by
  unfold gD;rw [length_map, rR];omega
 have hlf := aAq (gD l) (by omega) fun b hb => (hbg b hb).pok.ok
 obtain ⟨hsz, hsl⟩ := tW hbg;have hlv := aFy;have hmd := aEg v hv.1 hv.2;obtain ⟨m1, m2, m3, m4⟩ := rJ v;have her : bN Tryd.prog 10 [.pa (aE (eO v))] [] (.pa (aE (c7 (eO v)))) [] := uM _ (eO v) (le_refl _) (by omega);have hck0 : bN Tryd.prog 7 [.one (.c (.sl 12 []))] [] (B true) [] := uO [] (by decide) (fun x hx => by simp at hx);generalize gD l = L at hbi hbl hlf hsl hsz;have hsl : (fC L).length ≤ 140 := by omega
 generalize fC L = S at hlf hsz hsl;clear hbg;refine aI2 (n := 110) tok Tryd.func3 rfl rfl rfl ?_;refine a8 (ag [] rfl ?_);refine a8 (aJ mixed ?_);refine ak 2 [(1, .pc (.one (.c (.sl 15 (L.map aK)))))] rfl ?_;refine kc hlf ?_;refine ak 1 [] rfl ?_;refine az ?_;refine a8 (a8 (ag [] rfl ?_));refine aA rfl (fun hb => ?_) (fun hb => ?_)
 ·refine a8 (ag [(0, .pc (B true)), (2, .pc (B true))] rfl ?_);exact aF rtT
 have h1 : 1 ≤ S.length := by
  simp at hb;have : S.length ≠ 0 := by
   intro e;exact hb (eq_nil_of_length_eq_zero e)
  omega
 obtain ⟨k, hk⟩ := Int.eq_ofNat_of_zero_le (cP m (k := S.length) (by omega)).1;have hklt := (cP m (k := S.length) (by omega)).2
 have hac := hP m S.length hj (by omega);have ha8 := hP n 8 hi (by omega);rw [hk] at hac hklt;generalize kE n 8 = h at ha8;obtain ⟨x, hx⟩ := aI (show k < S.length by omega);obtain ⟨x0, hx0⟩ := aI (show 0 < S.length by omega);have hx' := c6 bQ hx;have hx0' := c6 bQ hx0;have hSl : (S.map bQ).length = S.length := length_map _;refine aD ?_;refine a8 (ag [(3, .pc (I .i64 (k : Int)))] rfl ?_);refine a8 (a8 (ag [(1, .pc (I .i64 h))] rfl ?_));have hys := aFh (h := h) (x0 := x0) (v := v) (hsz x (List.mem_of_getElem? hx));refine AWp.cut (mk [(9, aFk (S.set k (mS h x0 x v)))] [(500, aI1 (S.set k (mS h x0 x v)))]) ?_ ?_
 ·have hml : S.length = (S.set k (mS h x0 x v)).length := by rw [length_set]
  have hvn := c_v j5;have han := aA5 x.body (dR j5);refine aB ?_;refine a8 (ag [] rfl ?_);refine aA rfl (fun hb => ?_) (fun hb => ?_)
  ·have e1 : h = 1 := of_decide_eq_true hb;have hy : mS h x0 x v = ⟨x0.name, x.params, x.body⟩ := by rw [mS, if_pos e1]
   rw [hy] at hml ⊢;refine ag [(5, .row 0 (bQ x0)), (8, .row k (bQ x))] rfl ?_;refine Sub.trans ?_ (Sub.arrWeak (x := 500) rfl (nU (y := ⟨x0.name, x.params, x.body⟩) hx (by show CsLe [_, _, _, _, _, _, _, _, _, _, _, _] [_, _, _, _, _, _, _, _, _, _, _, _]; repeat (first | exact .nil | apply Go.AM.CsLe.cons .refl | apply Go.AM.CsLe.cons .nl | apply Go.AM.CsLe.cons .sg))));exact Sub.flag (sl (he := ⟨Go.AM.hs_ren hml hml, trivial⟩))
  have e1 : ¬ h = 1 := of_decide_eq_false hb;refine a8 (ag [] rfl ?_);refine aA rfl (fun hb => ?_) (fun hb => ?_)
  ·have e2 : h = 2 := of_decide_eq_true hb;have hy : mS h x0 x v = ⟨x.name, x.params ++ [[120]], x.body⟩ := by rw [mS, if_neg e1, if_pos e2]
   rw [hy] at hml ⊢;obtain ⟨hxs, hxp⟩ := hsz x (List.mem_of_getElem? hx);have hpl : (x.params.map bF).length = x.params.length := length_map _;have hmx : ((S.take k).map aY ++ bQ x :: (S.drop (k + 1)).map aY).length = S.length := by simp; omega
   have hrk := aB9 (x := x) (n := (x.params.map bF).length) hx;have hlr := qK (x := x) (n := (x.params.map bF).length) hx;refine AWp.sub (st2 := mk [(9, aFk S), (10, I .i64 (k : Int))] [(500, aFl S)]) (Sub.flag sl) ?_;refine AWp.sub (st2 := mk [(9, aFk S), (10, I .i64 (k : Int))] [(500, .arr 40 12 ((S.take k).map aY ++ bQ x :: (S.drop (k + 1)).map aY) 0)]) (Sub.trans (Sub.flag sl) (Sub.arrWeak (x := 500) rfl (aHe hx))) ?_
   refine AWp.sub (Sub.sgRow (t := 9) (id := 500) (N := S.length) (tp := 9) (ep := 1) (l := x.params.map bF) (ra := [.str x.name]) (rb := aE x.body) (pre := (S.take k).map aY) (post := (S.drop (k + 1)).map aY) rfl rfl hmx.symm (pI _) (pI _) rfl (vO _) (lZ _) (fun j o hj => (aHg hj).1) (by decide) (fun s u e => by
    rcases aHf e with ⟨rfl, rfl⟩ | ⟨rfl, rfl⟩
    ·exact .inl rfl
    ·exact .inr ⟨_, rfl, rfl⟩) (by decide) (by simp) (fun j hj => by simpa using hj) rfl) ?_
   refine AWp.sub (st2 := mk [(9, .one (.ra 500 0 S.length S.length)), (10, I .i64 (k : Int))] [(500, .rarr 40 12 (j3 S k x (x.params.map bF).length)), (998, .arr 9 1 (x.params.map bF) 2)]) (Sub.flag (slR (.rarr 0 0 [[.hs 998 0 0 0]]) (fun y hy => by
    have hy : y ∈ gT (j3 S k x (x.params.map bF).length) := hy
    rw [nX] at hy; exact hy) ⟨_, rfl, .rarrS rfl⟩)) ?_
   refine ag [(6, .rr (aDw x (x.params.map bF).length)), (7, .all), (8, .fz), (11, .rr (aDw x (x.params.map bF).length))] rfl ?_;have hrs := yX (x := x) (n := (x.params.map bF).length) (m := (x.params.map bF).length + 1) hx;have hlr2 := qK (x := x) (n := (x.params.map bF).length + 1) hx
   refine Sub.trans ?_ (Sub.trans (Sub.rpure (t := 9) (id := 500) (te := 40) (es := 12) (N := S.length) (rows := j3 S k x ((x.params.map bF).length + 1)) (rows' := (S.set k ⟨x.name, x.params ++ [[120]], x.body⟩).map aY) (ids := [998]) (st := mk [(9, .one (.ra 500 0 S.length S.length))] [(500, .rarr 40 12 (j3 S k x ((x.params.map bF).length + 1))), (998, .arr 9 1 ((x.params ++ [[120]]).map bF) 2)]) rfl rfl hlr2.symm (by rw [hlr2]; simp) h1 (fun r hr => by
    obtain ⟨q, _, rfl⟩ := mem_map.1 hr
    exact aEx q) (yV hx rfl rfl rfl (by simp)) (by decide) rfl (fun s u e => .inl (aHg e).1) (fun j o hj => by
    rcases aHf hj with ⟨rfl, _⟩ | ⟨_, rfl⟩
    ·exact .inl rfl
    ·exact .inr ⟨_, _, _, _, rfl⟩)) ?_)
   ·exact Sub.flag (sl (he := ⟨Go.AM.hs_ren hml hml, trivial⟩) (hh := ⟨⟨_, rfl, .arrS rfl⟩, trivial⟩))
   ·refine Sub.flag (slR (.rarr 0 0 [[.hs 998 0 0 0]]) (fun y hy => by
     have hy : y ∈ gT (j3 S k x ((x.params.map bF).length + 1)) := hy
     rw [nX] at hy; exact hy) ⟨_, rfl, .rarrS hrs⟩ (hh := ⟨⟨_, rfl, .arrS (by simp [bF])⟩, trivial⟩))
  have e2 : ¬ h = 2 := of_decide_eq_false hb;refine a8 (ag [] rfl ?_);refine aA rfl (fun hb => ?_) (fun hb => ?_)
  ·have e3 : h = 3 := of_decide_eq_true hb;have hy : mS h x0 x v = ⟨x.name, x.params, c7 (eO v)⟩ := by rw [mS, if_neg e1, if_neg e2, if_pos e3]
   rw [hy] at hml ⊢;refine ag [(3, .pc (.pa (aE (eO v)))), (4, .pc (.pa (aE (c7 (eO v))))), (7, .row k (bQ x))] rfl ?_;refine Sub.trans ?_ (Sub.arrWeak (x := 500) rfl (nU (y := ⟨x.name, x.params, c7 (eO v)⟩) hx (by show CsLe [_, _, _, _, _, _, _, _, _, _, _, _] [_, _, _, _, _, _, _, _, _, _, _, _]; repeat (first | exact .nil | apply Go.AM.CsLe.cons .refl | apply Go.AM.CsLe.cons .nl | apply Go.AM.CsLe.cons .sg))));exact Sub.flag (sl (he := ⟨Go.AM.hs_ren hml hml, trivial⟩))
  have e3 : ¬ h = 3 := of_decide_eq_false hb;refine a8 (ag [] rfl ?_);refine aA rfl (fun hb => ?_) (fun hb => ?_)
  ·have e4 : h = 4 := of_decide_eq_true hb;have hy : mS h x0 x v = ⟨x.name, x.params, eO v⟩ := by rw [mS, if_neg e1, if_neg e2, if_neg e3, if_pos e4]
   rw [hy] at hml ⊢;refine ag [(3, .pc (.pa (aE (eO v)))), (6, .row k (bQ x))] rfl ?_;refine Sub.trans ?_ (Sub.arrWeak (x := 500) rfl (nU (y := ⟨x.name, x.params, eO v⟩) hx (by show CsLe [_, _, _, _, _, _, _, _, _, _, _, _] [_, _, _, _, _, _, _, _, _, _, _, _]; repeat (first | exact .nil | apply Go.AM.CsLe.cons .refl | apply Go.AM.CsLe.cons .nl | apply Go.AM.CsLe.cons .sg))));exact Sub.flag (sl (he := ⟨Go.AM.hs_ren hml hml, trivial⟩))
  have e4 : ¬ h = 4 := of_decide_eq_false hb;refine a8 (ag [] rfl ?_);refine aA rfl (fun hb => ?_) (fun hb => ?_)
  ·have e5 : h = 5 := of_decide_eq_true hb;have hy : mS h x0 x v = ⟨x.name, x.params, uV x.body (dR j5)⟩ := by rw [mS, if_neg e1, if_neg e2, if_neg e3, if_neg e4, if_pos e5]
   rw [hy] at hml ⊢;refine agN [(6, .row k (bQ x)), (7, .pc (.pa (aE (dR j5)))), (8, .pc (.pa (aE (uV x.body (dR j5))))), (11, .row k (bQ x))] rfl ?_;refine Sub.trans ?_ (Sub.arrWeak (x := 500) rfl (nU (y := ⟨x.name, x.params, uV x.body (dR j5)⟩) hx (by show CsLe [_, _, _, _, _, _, _, _, _, _, _, _] [_, _, _, _, _, _, _, _, _, _, _, _]; repeat (first | exact .nil | apply Go.AM.CsLe.cons .refl | apply Go.AM.CsLe.cons .nl | apply Go.AM.CsLe.cons .sg))));exact Sub.flag (sl (he := ⟨Go.AM.hs_ren hml hml, trivial⟩))
  have e5 : ¬ h = 5 := of_decide_eq_false hb;refine a8 (ag [] rfl ?_);refine aA rfl (fun hb => ?_) (fun hb => ?_)
  ·have e6 : h = 6 := of_decide_eq_true hb;have hy : mS h x0 x v = ⟨x.name, [], x.body⟩ := by rw [mS, if_neg e1, if_neg e2, if_neg e3, if_neg e4, if_neg e5, if_pos e6]
   rw [hy] at hml ⊢;refine ag [(4, .row k (bQ x))] rfl ?_;refine Sub.trans ?_ (Sub.arrWeak (x := 500) rfl (nU (y := ⟨x.name, [], x.body⟩) hx (by show CsLe [_, _, _, _, _, _, _, _, _, _, _, _] [_, _, _, _, _, _, _, _, _, _, _, _]; repeat (first | exact .nil | apply Go.AM.CsLe.cons .refl | apply Go.AM.CsLe.cons .nl | apply Go.AM.CsLe.cons .sg))));exact Sub.flag (sl (he := ⟨Go.AM.hs_ren hml hml, trivial⟩))
  have e6 : ¬ h = 6 := of_decide_eq_false hb;refine a8 (ag [] rfl ?_);refine aA rfl (fun hb => ?_) (fun hb => ?_)
  ·have e7 : h = 7 := of_decide_eq_true hb;have hy : mS h x0 x v = ⟨x.name, x.params, .mk 8 0 [] zTy [dR j5] [.mk j5 zTy x.body] []⟩ := by rw [mS, if_neg e1, if_neg e2, if_neg e3, if_neg e4, if_neg e5, if_neg e6, if_pos e7]
   rw [hy] at hml ⊢;refine agN [(6, .row k (bQ x)), (8, .all), (9, .pc (.pa (aE (dR j5)))), (10, .all), (14, .row k (bQ x))] rfl ?_;refine Sub.trans ?_ (Sub.arrWeak (x := 500) rfl (nU (y := ⟨x.name, x.params, .mk 8 0 [] zTy [dR j5] [.mk j5 zTy x.body] []⟩) hx (by show CsLe [_, _, _, _, _, _, _, _, _, _, _, _] [_, _, _, _, _, _, _, _, _, _, _, _]; repeat (first | exact .nil | apply Go.AM.CsLe.cons .refl | apply Go.AM.CsLe.cons .nl | apply Go.AM.CsLe.cons .sg))));exact Sub.flag (sl (he := ⟨Go.AM.hs_ren hml hml, trivial⟩))
  have e7 : ¬ h = 7 := of_decide_eq_false hb;have hy : mS h x0 x v = x := by rw [mS, if_neg e1, if_neg e2, if_neg e3, if_neg e4, if_neg e5, if_neg e6, if_neg e7]
  rw [hy] at hml ⊢;refine aD ?_;refine Sub.trans ?_ (Sub.arrWeak (x := 500) rfl (by have := kH S; rwa [show (S.map aY) = (S.set k x).map aY by rw [lT hx]] at this));exact Sub.flag (sl (he := ⟨Go.AM.hs_ren hml hml, trivial⟩))
 generalize mS h x0 x v = y at hys ⊢;have hS2 : ∀ z ∈ S.set k y, aG z.body ≤ 400000 ∧ z.params.length ≤ 100000 := fun z hz => by
  rcases aEy hz with hz | rfl
  ·have := hsz z hz; omega
  ·exact hys
 have hl2 : (S.set k y).length ≤ 140 := by rw [length_set]; exact hsl
 generalize S.set k y = S2 at hS2 hl2;have hc1 := uO S2 (by omega) hS2;have hc2 := aA3 S2 (by omega) hS2;generalize oM S2 = r at hc1 hc2;refine AWp.sub (Sub.freeze (id := 500) rfl) (AWp.sub (cv 9 (S2.map aY)) ?_);refine a8 (ag [(1, .pc (B r)), (3, .pc (B r)), (5, .bv true), (6, .pc (B true)), (7, .bv true)] rfl ?_);exact aF rtT
end Go.Proofs.YtlegeikmepnmcaaDoor
namespace Go.Proofs.YtlegeikmepnmcaaDoor
open Go Go.ChangeShapes Go.WideShapes Go.ChangeAt Go.RowKit Go.AM
theorem Tryd.own : ownKnob Tryd.prog.godebug = none := by kernel_rfl
theorem Tryd.laidOut : laidOutB Tryd.prog = true := by kernel_rfl
theorem j7 {H : Type} {P : Program} {e : TypeId} : ∀ {xs : List (DataW H)} {k : Nat} {y : DataW H} {n : Nat}, xs[k]? = some y → n ∈ y.weights P e → n ∈ DataW.weightsAll P e xs
 | x :: xs, 0, y, n, h, hn => by
  simp at h;subst h;rw [DataW.weightsAll];exact mem_append.2 (.inl hn)
 | x :: xs, k + 1, y, n, h, hn => by
  rw [DataW.weightsAll];exact mem_append.2 (.inr (j7 (k := k) (by simpa using h) hn))
theorem aHn (l : List (List Int)) : ((k9 l).map fun c => [c]) = l.map aFs := by
 unfold k9;rw [map_map];rfl
theorem o4 {n k : Nat} (h : n * (k + 1) ≤ reachBytes) : n ≤ 1152921504606846976 := by
 have h1 := reachBytes_lt;have h2 : n ≤ n * (k + 1) := Nat.le_mul_of_pos_right n (Nat.succ_pos k);omega
theorem aB4 : Rows.laid_internal_strconv_uint64pow10 (H := Unit) = Lib.tabData .u64 Lib.pow10Tab := by kernel_rfl
theorem aGn {W : World} (h : laidMetH Tryd.prog Rows.liftChecksRow.laid W) : aDs W := by
 rw [MakeChecks.laidMetH_plain _ _ _ (by kernel_rfl)] at h;have h3 := laidMet.tail (laidMet.tail h);rw [aB4] at h3;have ht := Lib.tabIs_of_head (g := 0) (t := 116) (e := 109) (n := 20) (by kernel_rfl) (by kernel_rfl) (by kernel_rfl) (by kernel_rfl) (by kernel_rfl) (by kernel_rfl) h3;intro g hg;cases hg;unfold Lib.TabIs World.var? at ht;rw [show Tryd.prog.globalNamed "internal/strconv.uint64pow10" = some 0 by kernel_rfl] at ht;simp only [Option.bind_some] at ht;split at ht
 ·rename_i cs t fr hq;simp only [Option.some.injEq] at ht;subst ht;exact ⟨dS hq, t, fr, hq⟩
 ·cases ht
theorem aD9 {n : Int} (h : (Lit.int .i64 n).wf = true) : i64 n := by
 simp only [Lit.wf, Bool.and_eq_true, decide_eq_true_eq] at h;exact h
set_option maxRecDepth 100000 in
theorem kS (os : Os) (started : os.Started) (H : Type) (enc : TypeId × Value → H) :
  ReturnsInHanded {} Tryd.checked os 3 .any (fun w args => (Rows.liftChecksSpec.pre enc Tryd.prog Tryd.f3 Rows.liftChecksRow.domain false w args ∧ laidMetH Tryd.prog Rows.liftChecksRow.laid w) ∧ sizedMet enc Tryd.prog Tryd.f3 (OpenSpec.ofChange Rows.liftChecksSpec) false w args)
   (Rows.liftChecksSpec.post enc Tryd.prog Tryd.f3 false true false false) := by
 refine returnsInHanded_of_change_and (C := Tryd.checked) (X := fun w _ => laidMetH Tryd.prog Rows.liftChecksRow.laid w) (fun _ _ _ hh h => h.of_heap hh) Tryd.own started (by kernel_rfl) Tryd.func3
  (ChangeSpec.witness_shaped (enc := enc) (C := Tryd.checked) (os := os) (X := fun w _ => laidMetH Tryd.prog Rows.liftChecksRow.laid w) false (World.laidAll Tryd.prog os Rows.liftChecksRow.laid) #[.slice none 0 0, .int .i64 0, .int .i64 0, .slice none 0 0] 8 (World.laidAll_os _ _ _)
   (World.shaped_of_ZipB (by kernel_rfl) (by kernel_rfl)) (by kernel_rfl) (by kernel_rfl) (by kernel_rfl)
   (by rw [MakeChecks.laidMetH_plain _ _ _ (by kernel_rfl)]; exact laidMet_laidAll _ (by kernel_rfl) (by kernel_rfl))) ?_
 intro W base args ds gs before hval0 hW hcnd hwt hL _
 have hval : ∀ (j : Nat) t v, Tryd.f3.params[j]? = some t → args[j]? = some v → Value.okWide Tryd.prog W .any base t v := hval0
 have hW' := hW
 obtain ⟨p, q, hA0, hV, rfl, hfz, hnd⟩ := hW
 have hA : DataW.TrodAll enc Tryd.prog W 0 (fun _ => true) true Tryd.f3.params.toList args.toList ds p := hA0
 rw [Tryd.params3] at hA hval
 obtain ⟨v0, v1, v2, v3, d0, d1, d2, d3, p0, p1, p2, p3, rfl, rfl, rfl, h0, h1, h2, h3⟩ := trodAll_four hA
 obtain ⟨rfl, rfl⟩ := trodVars_none hV
 obtain ⟨ls, hrep1, hr1, xs, zs, hd1⟩ := xR Tryd.underlying22 Tryd.underlying23 Tryd.underlying3 (by kernel_rfl) (by kernel_rfl) (hval 0 22 v0 rfl rfl) h0
 rw [aHn] at hrep1
 obtain ⟨n1, rfl, rfl, rfl, w1⟩ := open_int Tryd.underlying3 (hval 1 3 v1 rfl rfl) h1
 obtain ⟨n2, rfl, rfl, rfl, w2⟩ := open_int Tryd.underlying3 (hval 2 3 v2 rfl rfl) h2
 obtain ⟨m, hrep2, hr2, x2, y2, hd2⟩ := xT Tryd.underlying23 Tryd.underlying3 (by kernel_rfl) (hval 3 23 v3 rfl rfl) h3
 clear hA0 hval0
 simp only [append_nil, append_assoc] at hW'
 have hlt : ∀ x ∈ p0, x.block < W.heap.size := fun x hx => by simpa using hW'.lt x (mem_append.2 (.inl hx))
 have hlt3 : ∀ x ∈ p3, x.block < W.heap.size := fun x hx => by simpa using hW'.lt x (mem_append.2 (.inr hx))
 have hwt' : (DataW.weightsEach Tryd.prog (Tryd.f3.params.toList ++ Rows.liftChecksSpec.plain.varTypes Tryd.prog) ([d0, .lit (.int .i64 n1), .lit (.int .i64 n2), d3] ++ [])).all (· ≤ reachBytes) = true := hwt
 have hmf : Fits m := by
  unfold Fits
  rcases hd2 with ⟨_, hd2⟩ | ⟨rfl, hd2⟩
  ·rw [hd2]; simp
  ·have := sized_slice hwt' (j := 3) (t := 23) (e := 3) rfl rfl Tryd.underlying23
   rw [show Tryd.prog.bytesOf 3 = 8 by kernel_rfl] at this
   have hb := reachBytes_lt
   omega
 have hw1 : ∀ n ∈ d0.weights Tryd.prog 22, n ≤ reachBytes := fun n hn => by
  have h1 := all_eq_true.1 hwt' n (DataW.weights_mem_each (j := 0) (t := 22) (d := d0) rfl rfl n hn)
  exact of_decide_eq_true h1
 have hl1 : ls.length ≤ 1152921504606846976 ∧ ∀ x ∈ ls, Fits x := by
  unfold Fits
  rcases hd1 with ⟨rfl, rfl⟩ | ⟨rfl, hxl, hxe⟩
  ·exact ⟨by simp, by simp⟩
  ·rw [DataW.weights, Tryd.underlying22] at hw1
   dsimp only at hw1
   refine ⟨?_, fun x hx => ?_⟩
   ·have h1 := hw1 _ mem_cons_self
    rw [show Tryd.prog.bytesOf 23 = 23 + 1 by kernel_rfl] at h1
    have := o4 h1
    omega
   ·obtain ⟨k, hk⟩ := List.getElem?_of_mem hx
    obtain ⟨y, hy, ⟨rfl, rfl⟩ | ⟨u, z, rfl, hu⟩⟩ := hxe k x hk
    ·simp
    ·have h1 := hw1 ((u.length + z.length) * Tryd.prog.bytesOf 3) (mem_cons_of_mem _ (mem_append.2 (.inl (j7 hy (by rw [DataW.weights, Tryd.underlying23]; exact mem_cons_self)))))
     rw [show Tryd.prog.bytesOf 3 = 7 + 1 by kernel_rfl] at h1
     have := o4 h1
     omega
 refine (xY (sS ls n1 n2 m hl1.1 (fun x hx => ⟨fun k hk => hr1 x hx k hk, hl1.2 x hx⟩) (aD9 w1) (aD9 w2) ⟨hr2, hmf⟩) W (vals := [v0, .int .i64 n1, .int .i64 n2, v3]) ⟨_, _, rfl, hrep1, ⟨_, _, rfl, rfl, ⟨_, _, rfl, rfl, ⟨_, _, rfl, hrep2, rfl⟩⟩⟩⟩ (ht := aGn hL)).mono fun e W' ⟨v, S, μ, he, bel, hv⟩ => ?_
 subst he
 rw [aF2 hv]
 have hp0 := Below.trod Tryd.laidOut (by kernel_rfl) (of_decide_eq_true (by kernel_rfl)) h0 bel hlt
 have hp3 := Below.trod Tryd.laidOut (by kernel_rfl) (of_decide_eq_true (by kernel_rfl)) h3 bel hlt3
 have hq := trodAll_mk4 hp0 (shut_int Tryd.underlying3 w1) (shut_int Tryd.underlying3 w2) hp3
 simp only [nil_append] at hq
 exact ⟨_, rfl, ⟨_, _, _, [], _, [], hW', trodAll_mk1 (shut_bool Tryd.underlying4 true), hq, rfl, bel.frame _, fun h => by cases h⟩⟩
theorem lO : Rows.LiftChecksSaid :=
 OpenClaim.holds_of_wide 3 Tryd.f3 rfl rfl rfl rfl rfl rfl rfl ⟨rfl, rfl, rfl, rfl, rfl⟩ rfl rfl rfl rfl rfl (by kernel_rfl) Tryd.func3 (by kernel_rfl)
  (of_decide_eq_true (by kernel_rfl)) (by unfold Func.isWrapper; first | (rw [if_pos (by decide +kernel)]; kernel_rfl) | (rw [if_neg (by decide +kernel)]; exact ⟨rfl, rfl⟩))
  (fun os started H enc _ => kS os started H enc)
theorem liftChecks_card_holds : Rows.LiftChecksCardSaid :=
 Claim7.holds_tied_plain_at .later [] [.data, .data, .data] true (true, "b2c7159c94ab231dba4ba8e5127b8ed493c3929850cb4ac4fba222e17b06fb41") false lO (fun _ h => by cases h) (by kernel_rfl) (fun _ h => by cases h) liftChecks_row_tie rfl ⟨rfl, rfl⟩ (by kernel_rfl) rfl
  (fun f fn hf hfn => by
   obtain rfl : f = 3 := Option.some.inj ((show Tryd.prog.funcNamed "fugue/fuguelaw25.LiftChecks" = some 3 by kernel_rfl).symm.trans hf) |>.symm;obtain rfl : fn = Tryd.f3 := (Option.some.inj (Tryd.func3.symm.trans hfn)).symm
   exact ⟨by kernel_rfl, fun j t ht => by
    rw [Tryd.params3] at ht;have hm : t ∈ [22, 3, 3, 23] := by simpa using Array.mem_of_getElem? ht
    have hall : ([22, 3, 3, 23].all fun u => !Tryd.prog.wantsStandIn u) = true := by kernel_rfl
    exact (show Tryd.prog.wantsStandIn t = false by simpa using all_eq_true.1 hall t hm)⟩)
  (by kernel_rfl)
end Go.Proofs.YtlegeikmepnmcaaDoor
