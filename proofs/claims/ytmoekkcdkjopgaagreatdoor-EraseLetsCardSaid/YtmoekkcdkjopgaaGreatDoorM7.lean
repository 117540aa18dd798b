/-
  Texts Ls2 to Am39 in one.
-/
import Derived.Test.YtmoekkcdkjopgaaGreatDoorM6
import Derived.Laws.Runes
open List (all_append all_eq_true append_assoc append_nil cons_append filter_cons flatMap_append flatten_cons foldl_append length_append length_cons length_map length_nil length_take map_append map_cons map_map mem_append mem_cons mem_map mem_of_mem_take mem_range nil_append nodup_append nodup_cons nodup_nil not_mem_nil set_eq_take_append_cons_drop take_add_one take_length take_succ_cons take_zero)
open Nat (le_max_left le_max_right le_refl le_trans mul_le_mul_right succ_mul zero_add zero_le)
namespace Go.Proofs.YtmoekkcdkjopgaaGreatDoor
open Go Go.AM
set_option maxRecDepth 20000
def gH (f : Int) (s : Str) (o : List Str) (x : Str) : List Str := if ¬ x ∈ o ∧ (¬ f = 5 ∨ ¬ x = s) then o ++ [x] else o
def rZ (f : Int) (s : Str) (o : List Str) (l : List Str) : List Str := l.foldl (gH f s) o
mutual
def tfR : Ty → List Str
 | .mk f _ s a => if f = 2 then [s] else nY f s a []
def nY (f : Int) (s : Str) : List Ty → List Str → List Str
 | [], o => o
 | t :: l, o => nY f s l (rZ f s o (tfR t))
end
def tfL (f : Int) (s : Str) (l : List Ty) (o : List Str) : List Str := l.foldl (fun o t => rZ f s o (tfR t)) o
theorem aAq (f : Int) (s : Str) : ∀ (l : List Ty) (o : List Str), nY f s l o = tfL f s l o
 | [], o => by rw [nY]; rfl
 | t :: l, o => by rw [nY, aAq f s l]; rfl
theorem aHr (f : Int) (s : Str) (o : List Str) (x : Str) : (gH f s o x).length ≤ o.length + 1 := by
 unfold gH; split
 ·simp
 ·omega
theorem pC (f : Int) (s : Str) : ∀ (l o : List Str), (rZ f s o l).length ≤ o.length + l.length
 | [], o => le_refl _
 | x :: l, o => by
  have h1 := pC f s l (gH f s o x);have h2 := aHr f s o x;show (rZ f s (gH f s o x) l).length ≤ _;rw [length_cons]; omega
mutual
theorem aHo : ∀ t : Ty, (tfR t).length ≤ tn t
 | .mk f n s a => by
  rw [tfR, tn];split
  ·simp; omega
  ·have := aAp f s a [];simp only [length_nil] at this;omega
theorem aAp (f : Int) (s : Str) : ∀ (l : List Ty) (o : List Str), (nY f s l o).length ≤ o.length + tns l
 | [], o => by rw [nY, tns]; exact le_refl _
 | t :: l, o => by
  rw [nY, tns];have h1 := aAp f s l (rZ f s o (tfR t));have h2 := pC f s (tfR t) o;have h3 := aHo t;omega
end
theorem aHu {f : Int} {s : Str} {o l : List Str} {j : Nat} {x : Str} (h : l[j]? = some x) : rZ f s o (l.take (j + 1)) = gH f s (rZ f s o (l.take j)) x := by
 unfold rZ; rw [take_add_one, h, foldl_append]; rfl
theorem aMz {f : Int} {s : Str} {o : List Str} {l : List Ty} {j : Nat} {x : Ty} (h : l[j]? = some x) : tfL f s (l.take (j + 1)) o = rZ f s (tfL f s (l.take j) o) (tfR x) := by
 unfold tfL; rw [take_add_one, h, foldl_append]; rfl
theorem aC8 : ∀ (l : List Ty) (i : Nat), tns (l.take i) ≤ tns l
 | [], i => by simp
 | t :: l, 0 => by rw [take_zero, tns]; omega
 | t :: l, i + 1 => by rw [take_succ_cons, tns, tns]; have := aC8 l i; omega
theorem nM (t : Ty) (ht : t.args.length ≤ 1000000000) (hL : ∀ i, (tfL t.form t.name (t.args.take i) []).length ≤ 1000000000) (hU : ∀ u ∈ t.args, (tfR u).length ≤ 1000000000) (ih : ∀ u ∈ t.args, aY Tryz.prog 63 [tyV u] [] (bN (tfR u)) []) : aY Tryz.prog 63 [tyV t] [] (bN (tfR t)) [] := by
 obtain ⟨f, n, s, a⟩ := t;have hal : a.length ≤ 1000000000 := ht;have hL : ∀ i, (tfL f s (a.take i) []).length ≤ 1000000000 := hL;have hU : ∀ u ∈ a, (tfR u).length ≤ 1000000000 := hU;have ih : ∀ u ∈ a, aY Tryz.prog 63 [tyV u] [] (bN (tfR u)) [] := ih;have hka : (eL a).length = a.length := by rw [j6, length_map]
 rw [tfR];refine c8 (n := 50) tok Tryz.func63 rfl rfl rfl ?_;refine a8 (ag [] rfl ?_);refine a8 (a8 (ag [] rfl ?_));refine aB rfl (fun hb => ?_) (fun hb => ?_)
 ·have h2 : f = 2 := zq0 hb;rw [if_pos h2];refine a8 (ag [(2, .all)] rfl ?_);exact aE rtT
 ·have h2 : ¬ f = 2 := zq1 hb;rw [if_neg h2, aAq] at *;refine aD ?_;refine a8 (ag [] rfl ?_);refine AWp.sub (Sub.own (t := 3) (id := 600) 9 1 rfl rfl) (AWp.sub (Sub.freeze (id := 600) rfl) ?_);refine a8 (a8 (ag [] rfl ?_));refine aC ?_;refine aJ (fun i : Nat => mk [(1, .one (.vp 1 0)), (3, .one (.hs 600 0 (tfL f s (a.take i) []).length (tfL f s (a.take i) []).length)), (15, .one (.c (.sl 4 (eL a)))), (16, I .i64 ((eL a).length : Int)), (17, I .i64 i)] [(600, .arr 9 1 ((tfL f s (a.take i) []).map bG) 2), (1, .var 33 ((cG (.mk f n s a)).map R.c))]) (fun i => i ≤ a.length) (fun i => a.length - i) 0 (zero_le _) sl ?_;intro i hi;refine a8 (ag [] rfl ?_);refine a8 (aB rfl (fun hb => ?_) (fun hb => ?_))
  ·have hlt := ltD hb hka;obtain ⟨u, hu⟩ := aL hlt;have hu' : (eL a)[i]? = some (cG u) := by rw [j6]; exact cE cG hu
   have hm := zq7 hu;have hc := ih u hm;have hul := hU u hm;have hst := aMz (f := f) (s := s) (o := []) hu;have hol := hL i;generalize tfL f s (a.take i) [] = o at hst hol ⊢;have hkf : ((tfR u).map bG).length = (tfR u).length := length_map _;generalize tfR u = fu at hc hul hst hkf;refine aD ?_;refine a8 (aC ?_);refine a8 (ag [(0, .row i (cG u))] rfl ?_);refine a8 (aF mixed ?_);refine ak 1 [] rfl ?_;refine kc hc ?_;refine ak 2 [] rfl ?_;refine az ?_;refine aC ?_;refine aJ (fun j : Nat => mk [(1, .one (.vp 1 0)), (3, .one (.hs 600 0 (rZ f s o (fu.take j)).length (rZ f s o (fu.take j)).length)), (15, .one (.c (.sl 4 (eL a)))), (16, I .i64 ((eL a).length : Int)), (17, I .i64 i), (22, bN fu), (23, I .i64 ((fu.map bG).length : Int)), (24, I .i64 j)] [(600, .arr 9 1 ((rZ f s o (fu.take j)).map bG) 2), (1, .var 33 ((cG (.mk f n s a)).map R.c))]) (fun j => j ≤ fu.length) (fun j => fu.length - j) 0 (zero_le _) sl ?_;intro j hj;refine a8 (ag [] rfl ?_);refine a8 (aB rfl (fun hb => ?_) (fun hb => ?_))
   ·have hlj := ltD hb hkf;obtain ⟨x, hx⟩ := aL hlj;have hx' := cE bG hx;have hsn := aHu (f := f) (s := s) (o := o) hx;have hpl : (rZ f s o (fu.take j)).length ≤ 2000000000 := by
     have := pC f s (fu.take j) o;rw [length_take] at this;omega
    generalize rZ f s o (fu.take j) = q at hsn hpl ⊢;have hct := bU q x (by omega);have hkq : (q.map bG).length = q.length := length_map _;refine aD ?_;refine a8 (aC ?_);refine a8 (ag [(0, .row j (bG x))] rfl ?_);by_cases hxq : x ∈ q
    ·rw [decide_eq_true hxq] at hct;have he : gH f s q x = q := by unfold gH; rw [if_neg (fun h => h.1 hxq)]
     refine a8 (aF mixed ?_);refine ak 2 [] rfl ?_;refine kc hct ?_;refine ak 12 [] rfl ?_;refine az ?_;refine aB rfl (fun hb => by cases hb) (fun _ => ?_);refine aD ?_;refine ag [] rfl ?_;refine ⟨j + 1, hlj, by dsimp only; omega, ?_⟩;dsimp only;rw [hsn, he];exact sl
    rw [decide_eq_false hxq] at hct;by_cases h5 : f = 5
    ·have d5 : decide (f = 5) = true := decide_eq_true h5;have d5' : (!decide (f = 5)) = false := by rw [d5]; rfl
     refine a8 (aF mixed ?_);refine ak 2 [] rfl ?_;refine kc hct ?_;refine ak 12 [(8, .bv false), (13, .bv false)] rfl ?_;refine az ?_;refine aB rfl (fun hb => ?_) (fun hb => ?_)
     ·have hxs : ¬ x = s := by simp at hb; exact hb
      have he : gH f s q x = q ++ [x] := by unfold gH; rw [if_pos ⟨hxq, .inr hxs⟩]
      refine ag [(2, .all)] rfl ?_;refine AWp.sub (Sub.freeze (id := 600) rfl) ?_;refine ag [] rfl ?_;refine ⟨j + 1, hlj, by dsimp only; omega, ?_⟩;dsimp only;rw [hsn, he];exact sl (hh := ⟨⟨_, rfl, .arrS (by rw [map_append]; rfl)⟩, ⟨_, rfl, .var rfl⟩, trivial⟩)
     ·have hxs : x = s := by simp at hb; exact hb
      have he : gH f s q x = q := by unfold gH; rw [if_neg (fun h => h.2.elim (fun h => h h5) (fun h => h hxs))]
      refine aD ?_;refine ag [] rfl ?_;refine ⟨j + 1, hlj, by dsimp only; omega, ?_⟩;dsimp only;rw [hsn, he];exact sl
    ·have d5 : decide (f = 5) = false := decide_eq_false h5;have d5' : (!decide (f = 5)) = true := by rw [d5]; rfl
     have he : gH f s q x = q ++ [x] := by unfold gH; rw [if_pos ⟨hxq, .inl h5⟩]
     refine a8 (aF mixed ?_);refine ak 2 [] rfl ?_;refine kc hct ?_;refine ak 12 [(8, .bv true), (13, .bv true)] rfl ?_;refine az ?_;refine aB rfl (fun _ => ?_) (fun hb => by cases hb);refine ag [(2, .all)] rfl ?_;refine AWp.sub (Sub.freeze (id := 600) rfl) ?_;refine ag [] rfl ?_;refine ⟨j + 1, hlj, by dsimp only; omega, ?_⟩;dsimp only;rw [hsn, he];exact sl (hh := ⟨⟨_, rfl, .arrS (by rw [map_append]; rfl)⟩, ⟨_, rfl, .var rfl⟩, trivial⟩)
   have hge := geD hb hkf hj;subst hge;rw [take_length];refine aK ?_;refine ag [] rfl ?_;refine ⟨i + 1, hlt, by dsimp only; omega, ?_⟩;dsimp only;rw [hst];exact sl
  have hge := geD hb hka hi;subst hge;rw [take_length];refine aK ?_;refine a8 (ag [] rfl ?_);exact aE (rtT (hc := hs_all rfl rfl (by simp) rfl))
theorem yY (t : Ty) (ht : tn t ≤ 1000000000) (ih : ∀ u, tn u < tn t → aY Tryz.prog 63 [tyV u] [] (bN (tfR u)) []) : aY Tryz.prog 63 [tyV t] [] (bN (tfR t)) [] := by
 obtain ⟨f, n, s, a⟩ := t;rw [tn] at ht ih;have hal := aHl a;refine nM (.mk f n s a) (show a.length ≤ _ by omega) (fun i => ?_) (fun u hu => ?_) fun u hu => ih u ?_
 ·have h1 := aAp f s (a.take i) [];rw [aAq] at h1;have h2 := aC8 a i;simp only [length_nil] at h1;show (tfL f s (a.take i) []).length ≤ _;omega
 ·have h1 := mC (show u ∈ a from hu);have h2 := aHo u;omega
 ·have h1 := mC (show u ∈ a from hu);omega
theorem aEx : ∀ (k : Nat) (t : Ty), tn t ≤ k → tn t ≤ 1000000000 → aY Tryz.prog 63 [tyV t] [] (bN (tfR t)) []
 | 0, t, h, _ => by have := lU t; omega
 | k + 1, t, h, hm => yY t hm fun u hu => aEx k u (by omega) (by omega)
mutual
def fvm : Ty → Nat
 | .mk f n s a => max (tfR (.mk f n s a)).length (aKf a)
def aKf : List Ty → Nat
 | [] => 0
 | t :: l => max (fvm t) (aKf l)
end
theorem nA (t : Ty) : (tfR t).length ≤ fvm t := by cases t; rw [fvm]; exact le_max_left ..
theorem aEn : ∀ {l : List Ty} {t : Ty}, t ∈ l → fvm t ≤ aKf l
 | u :: l, t, h => by
  rw [aKf];rcases mem_cons.1 h with rfl | h
  ·exact le_max_left ..
  ·exact le_trans (aEn h) (le_max_right ..)
theorem w7 {f n : Int} {s : Str} {a : List Ty} {u : Ty} (h : u ∈ a) : fvm u ≤ fvm (.mk f n s a) := by
 rw [fvm]; exact le_trans (aEn h) (le_max_right ..)
theorem aHt {f : Int} {s : Str} {L : Nat} : ∀ {l : List Ty} {o : List Str}, (∀ u ∈ l, (tfR u).length ≤ L) → (tfL f s l o).length ≤ o.length + l.length * L
 | [], o, _ => by simp [tfL]
 | t :: l, o, h => by
  have h1 := aHt (f := f) (s := s) (l := l) (o := rZ f s o (tfR t)) fun u hu => h u (zq3 _ hu)
  have h2 := pC f s (tfR t) o;have h3 := h t zq2;show (tfL f s l (rZ f s o (tfR t))).length ≤ _;rw [length_cons, succ_mul]; omega
theorem nN : ∀ (k : Nat) (t : Ty), tn t ≤ k → wfS t = true → fvm t ≤ 400000000 → aY Tryz.prog 63 [tyV t] [] (bN (tfR t)) []
 | 0, t, h, _, _ => by have := lU t; omega
 | k + 1, t, h, hw, hf => by
  obtain ⟨f, n, s, a⟩ := t;obtain ⟨h1, h2, _⟩ := qA hw;have hu : ∀ u ∈ a, (tfR u).length ≤ 400000000 := fun u hu => le_trans (nA u) (le_trans (w7 hu) hf)
  refine nM (.mk f n s a) (show a.length ≤ _ by omega) (fun i => ?_) (fun u hu' => le_trans (hu u hu') (by decide)) fun u hu' => ?_
  ·have h3 := aHt (f := f) (s := s) (l := a.take i) (o := []) fun u hu' => hu u (mem_of_mem_take hu')
   rw [length_take, length_nil] at h3;have h4 : min i a.length * 400000000 ≤ 2 * 400000000 := mul_le_mul_right _ (by omega);show (tfL f s (a.take i) []).length ≤ _;omega
  ·have hu' : u ∈ a := hu';exact nN k u (by have := mC hu'; rw [tn] at h; omega) (h2 u hu') (le_trans (w7 hu') hf)
def fw (t : Ty) : Nat := if wfS t = true ∧ fvm t ≤ tn t then fvm t else tn t
theorem aW5 (t : Ty) : (tfR t).length ≤ fw t := by
 unfold fw; split
 ·exact nA t
 ·exact aHo t
theorem aQz {t : Ty} (h : wfS t = true) : fw t ≤ fvm t := by
 unfold fw; split
 ·exact le_refl _
 ·rename_i h';have : ¬ fvm t ≤ tn t := fun hh => h' ⟨h, hh⟩
  omega
theorem aEy (t : Ty) (h : fw t ≤ 400000000) : aY Tryz.prog 63 [tyV t] [] (bN (tfR t)) [] := by
 unfold fw at h;split at h
 ·rename_i h';exact nN (tn t) t (le_refl _) h'.1 h
 ·exact aEx (tn t) t (le_refl _) (by omega)
end Go.Proofs.YtmoekkcdkjopgaaGreatDoor
namespace Go.AM
open Go
theorem aXb : ∀ m : _root_.Fin 128, Utf8.encode ((m.val : Nat) : Int) = ⟨⟨[UInt8.ofNat m.val]⟩⟩ := by decide +kernel
section
variable {P : Program} {T : TT} {n : Nat} {o : Oper} {st : St} {d : Nat}
theorem aSm {src dst : TypeId} {i j : TI} {x : Operand} {k : IntKind} {m : Nat} (hm : m < 128) (hT : Tok P T) (ho : o.op = .convert src dst x) (hd : o.dst = some d) (hdn : d < n) (hi : T[src]? = some (some i)) (hik : i.k = .int k) (hj : T[dst]? = some (some j)) (hjk : j.k = .str)
  (hx : opv st x = some (I k (m : Int))) : Step P n o st ⟨opr x, []⟩ ⟨some (d, some (Go.AM.T [UInt8.ofNat m])), []⟩ := by
 refine Step.value hd hdn fun st' ha G S μ a w hs => ?_
 have hv := eS (aM hs hx ha.1);refine ⟨.string ⟨⟨[UInt8.ofNat m]⟩⟩, ?_, by simp [aV, b8, Rep]⟩;have h1 := (hT.get hi).int hik;have h2 := (hT.get hj).str hjk;have h3 := run_convert_int_string (P := P) w src dst k (m : Int) (by rw [h1]; rfl) h2;rw [aXb ⟨m, hm⟩] at h3;simp only [execOp, ho, hv, Sem.run_bind, h3, Result.andThen_ok, Sem.run_pure]
end
section
variable {P : Program} {n : Nat} {ops : Array Oper} {draw : Bool} {k d : Nat} {st : St} {pre : REs} {Q : St → Prop} {o : Oper}
theorem kr {tr : Tr} {src dst : TypeId} {i j : TI} {x : Operand} {kk : IntKind} (m : Nat) (hm : m < 128) (hT : Tok P tr.flat)
  (hk : jV P n ops draw (k + 1) ⟨upd st.e d (some (Go.AM.T [UInt8.ofNat m])), st.h, st.d⟩ ((⟨opr x, []⟩, ⟨some (d, some (Go.AM.T [UInt8.ofNat m])), []⟩) :: pre) Q) (hw : tr.wf = true)
  (ho : ops[k]? = some o := by rfl) (hg : o.guard = none := by rfl) (hop : o.op = .convert src dst x := by rfl) (hd : o.dst = some d := by rfl) (hdn : Nat.blt d n = true := by rfl) (hi : tr.get src = some i := by rfl) (hik : i.k = .int kk := by rfl) (hj : tr.get dst = some j := by rfl) (hjk : j.k = .str := by rfl) (hx : opv st x = some (I kk (m : Int)) := by first | rfl | assumption) : jV P n ops draw k st pre Q :=
 k_ (g_ ho hg (aSm hm hT hop hd (eQ hdn) (Tr.get_ok hw hi) hik (Tr.get_ok hw hj) hjk hx)) hk
end
end Go.AM
namespace Go.Proofs.YtmoekkcdkjopgaaGreatDoor
open Go Go.AM
set_option maxRecDepth 20000
def bP (n : Nat) : Str := if n < 26 then [UInt8.ofNat (97 + n % 26)] else [UInt8.ofNat (97 + n % 26)] ++ Lib.decDigits (n / 26)
theorem wrap_small (m : Nat) (h : m < 128) : IntKind.i32.wrap (m : Int) = (m : Int) := by
 have : ∀ m : _root_.Fin 128, IntKind.i32.wrap ((m.val : Nat) : Int) = ((m.val : Nat) : Int) := by decide +kernel
 exact this ⟨m, h⟩
theorem aBs (n : Nat) (h : n ≤ 600000000000) : (Lib.decDigits n).length ≤ 20 := by
 rw [Lib.decDigits_length];by_cases h0 : n = 0
 ·subst h0; decide +kernel
 ·have := Lib.numDigits_eq n (by omega) (by omega);split at this <;> omega
theorem zA (n : Nat) (hn : n ≤ 600000000000) (hI : 26 ≤ n → aY Tryz.prog 181 [I .i64 ((n / 26 : Nat) : Int)] [] (Go.AM.T (Lib.decDigits (n / 26))) []) : aY Tryz.prog 172 [I .i64 n] [] (Go.AM.T (bP n)) [] := by
 have hr : (97 : Int) + (n : Int) % 26 = ((97 + n % 26 : Nat) : Int) := by omega
 refine c8 (n := 17) tok Tryz.func172 rfl rfl rfl ?_;refine a8 (ag [] rfl ?_);refine a8 (aF mixed ?_);refine ak 4 [] rfl ?_ (hc := by repeat (first | exact trivial | refine ⟨by first | rfl | omega, ?_⟩))
 refine kr (97 + n % 26) (by omega) tok ?_ trw (hx := by
  show some (I .i32 (IntKind.i32.wrap (97 + (n : Int) % 26))) = some (I .i32 ((97 + n % 26 : Nat) : Int))
  rw [hr, wrap_small _ (by omega)])
 refine ak 1 [] rfl ?_;refine az ?_;refine a8 (a8 (ag [] rfl ?_));refine aB rfl (fun hb => ?_) (fun hb => ?_)
 ·have h : n < 26 := by have := zq0 hb; omega
  unfold bP;rw [if_pos h];refine a8 (ag [] rfl ?_);exact aE rtT
 ·have h : ¬ n < 26 := by have := zq1 hb; omega
  have hI := hI (by omega);have hM : 600000000000 ≤ maxLen := by decide
  have hdl := aBs (n / 26) (by omega);have hd : (n : Int) / 26 = ((n / 26 : Nat) : Int) := by omega
  unfold bP;rw [if_neg h];refine aD ?_;refine a8 (aF mixed ?_);refine ak 3 [] rfl ?_ (hc := by repeat (first | exact trivial | refine ⟨by first | rfl | omega | decide, ?_⟩));rw [← hd] at hI;refine kc hI ?_;refine ak 2 [] rfl ?_ (hc := by repeat (first | exact trivial | refine ⟨by first | rfl | omega | (simp; omega), ?_⟩));refine az ?_;exact aE rtT
theorem pY {a b : Nat} (ha : a < 256) (hb : b < 256) (h : UInt8.ofNat a = UInt8.ofNat b) : a = b := by
 have := congrArg UInt8.toNat h;simp only [UInt8.toNat_ofNat'] at this;omega
theorem aEt (n : Nat) : 1 ≤ (Lib.decDigits n).length := by
 rw [Lib.decDigits]; split <;> simp
theorem aQ5 : ∀ (n m : Nat), Lib.decDigits n = Lib.decDigits m → n = m := by
 intro n
 induction n using Nat.strongRecOn with
 | _ n ih =>
  intro m h;rw [Lib.decDigits, Lib.decDigits.eq_1 m] at h;split at h <;> split at h
  ·simp only [List.cons.injEq, and_true] at h;have := pY (by omega) (by omega) h;omega
  ·have := congrArg List.length h;have hp := aEt (m / 10);simp only [length_append, length_cons, length_nil] at this;omega
  ·have := congrArg List.length h;have hp := aEt (n / 10);simp only [length_append, length_cons, length_nil] at this;omega
  ·have h1 := List.append_inj' h rfl;have h2 := ih (n / 10) (by omega) (m / 10) h1.1;have h3 := h1.2;simp only [List.cons.injEq, and_true] at h3;have := pY (by omega) (by omega) h3;omega
theorem aBd (n m : Nat) (h : bP n = bP m) : n = m := by
 unfold bP at h;split at h <;> split at h
 ·simp only [List.cons.injEq, and_true] at h;have := pY (by omega) (by omega) h;omega
 ·have := congrArg List.length h;have hp := aEt (m / 26);simp only [length_append, length_cons, length_nil] at this;omega
 ·have := congrArg List.length h;have hp := aEt (n / 26);simp only [length_append, length_cons, length_nil] at this;omega
 ·simp only [cons_append, nil_append, List.cons.injEq] at h;have h1 := pY (by omega) (by omega) h.1;have h2 := aQ5 _ _ h.2;omega
theorem aOh (l : List Str) : ∃ n, n ≤ l.length ∧ ¬ bP n ∈ l := by
 refine Classical.byContradiction fun hno => ?_
 have hall : ∀ n, n ≤ l.length → bP n ∈ l := fun n hn => Classical.byContradiction fun h => hno ⟨n, hn, h⟩
 have hnd : ((List.range (l.length + 1)).map bP).Nodup := by
  rw [List.Nodup, List.pairwise_map];exact List.Pairwise.imp (fun h e => h (aBd _ _ e)) List.nodup_range
 have hsub : ∀ x ∈ (List.range (l.length + 1)).map bP, x ∈ l := fun x hx => by
  obtain ⟨i, hi, rfl⟩ := mem_map.1 hx;exact hall i (by have := mem_range.1 hi; omega)
 have key : ∀ (a b : List Str), a.Nodup → (∀ x ∈ a, x ∈ b) → a.length ≤ b.length := by
  intro a
  induction a with
  | nil => intro b _ _; simp
  | cons x a ih =>
   intro b hn hs;rw [nodup_cons] at hn;have h1 := ih (b.erase x) hn.2 fun y hy => (List.mem_erase_of_ne (by rintro rfl; exact hn.1 hy)).2 (hs y (zq3 _ hy))
   have hx := hs x zq2;rw [List.length_erase_of_mem hx] at h1;have := List.length_pos_of_mem hx;rw [length_cons]; omega
 have := key _ _ hnd hsub;rw [length_map, List.length_range] at this;omega
theorem jN (l : List Str) : ∃ n, n ≤ l.length ∧ ¬ bP n ∈ l ∧ ∀ m, m < n → bP m ∈ l := by
 have key : ∀ k : Nat, (∃ n, n ≤ k ∧ ¬ bP n ∈ l) → ∃ n, n ≤ k ∧ ¬ bP n ∈ l ∧ ∀ m, m < n → bP m ∈ l := by
  intro k
  induction k with
  | zero =>
   rintro ⟨n, hn, h⟩;exact ⟨n, hn, h, fun m hm => by omega⟩
  | succ k ih =>
   rintro ⟨n, hn, h⟩;by_cases hk : ∃ n, n ≤ k ∧ ¬ bP n ∈ l
   ·obtain ⟨m, h1, h2, h3⟩ := ih hk;exact ⟨m, by omega, h2, h3⟩
   ·have hnk : n = k + 1 := by
     by_cases h1 : n ≤ k
     ·exact absurd ⟨n, h1, h⟩ hk
     ·omega
    exact ⟨n, hn, h, fun m hm => Classical.byContradiction fun hm' => hk ⟨m, by omega, hm'⟩⟩
 exact key l.length (aOh l)
noncomputable def iO (l : List Str) : Nat := Classical.choose (jN l)
noncomputable def aZ (l : List Str) : Str := bP (iO l)
theorem r8 (l : List Str) : iO l ≤ l.length := (Classical.choose_spec (jN l)).1
theorem o9 (l : List Str) : ¬ bP (iO l) ∈ l := (Classical.choose_spec (jN l)).2.1
theorem yK (l : List Str) {m : Nat} (h : m < iO l) : bP m ∈ l := (Classical.choose_spec (jN l)).2.2 m h
theorem wI (l : List Str) (hl : l.length ≤ 570000000000) (hI : ∀ k, k ≤ l.length → aY Tryz.prog 181 [I .i64 (k : Int)] [] (Go.AM.T (Lib.decDigits k)) []) : aY Tryz.prog 125 [bN l] [] (Go.AM.T (aZ l)) [] := by
 have hf := r8 l;refine c8 (n := 12) tok Tryz.func125 rfl rfl rfl ?_;refine a8 (ag [] rfl ?_);refine a8 (ag [] rfl ?_);refine a8 (aC (aJ (fun n : Nat => mk [(0, bN l), (3, I .i64 n)] []) (fun n => n ≤ iO l) (fun n => iO l - n) 0 (zero_le _) sl ?_));intro n hn;have hcl := zA n (by omega) fun h => hI (n / 26) (by omega)
 have hct := bU l (bP n) (by omega);refine a8 (a8 (aF mixed ?_));refine ak 2 [] rfl ?_;refine kc hcl ?_;refine kc hct ?_;refine az ?_;refine aB rfl (fun hb => ?_) (fun hb => ?_)
 ·have hm : bP n ∈ l := zq0 hb;have hne : n ≠ iO l := by rintro rfl; exact o9 l hm
  refine aD ?_;refine aC (ag [] rfl ?_ (hc := by repeat (first | exact trivial | refine ⟨by omega, ?_⟩)));exact ⟨n + 1, by omega, by dsimp only; omega, sl⟩
 ·have hm : ¬ bP n ∈ l := zq1 hb;have he : n = iO l := by
   by_cases h : n < iO l
   ·exact absurd (yK l h) hm
   ·omega
  refine aK ?_;refine a8 (aF mixed ?_);refine ak 1 [] rfl ?_;refine kc hcl ?_;refine ak 1 [] rfl ?_;refine az ?_;unfold aZ;rw [← he];exact aE rtT
abbrev eD (m : Nat) : Prop := ∀ k, k ≤ m → aY Tryz.prog 181 [I .i64 (k : Int)] [] (Go.AM.T (Lib.decDigits k)) []
theorem aO3 (l : List Str) (hl : l.length ≤ 570000000000) (hI : eD l.length) : aY Tryz.prog 173 [bN l] [] (Go.AM.T (aZ l)) [] := by
 have hf := r8 l;have hkl : (l.map bG).length = l.length := length_map _;refine c8 (n := 19) tok Tryz.func173 rfl rfl rfl ?_;refine a8 (ag [] rfl ?_);refine a8 (a8 (agN [] rfl ?_ (hc := ⟨by show (l.map bG).length + 1 ≤ 9223372036854775807; omega, trivial⟩)));refine aC (aJ (fun n : Nat => mk [(0, bN l), (7, I .i64 (((l.map bG).length + 1 : Nat) : Int)), (8, I .i64 n)] []) (fun n => n ≤ iO l) (fun n => iO l - n) 0 (zero_le _) sl ?_);intro n hn;have hcl := zA n (by omega) fun h => hI (n / 26) (by omega)
 have hct := bU l (bP n) (by omega);refine a8 (ag [] rfl ?_);refine a8 (aB rfl (fun hb => ?_) (fun hb => ?_))
 ·refine aD ?_;refine a8 (aC (a8 (ag [] rfl ?_)));refine a8 (aF mixed ?_);refine ak 1 [] rfl ?_;refine kc hcl ?_;refine ak 1 [] rfl ?_;refine az ?_;refine a8 (aF mixed ?_);refine ak 2 [] rfl ?_;refine kc hct ?_;refine ak 1 [] rfl ?_;refine az ?_;refine aB rfl (fun hb => ?_) (fun hb => ?_)
  ·have hm : ¬ bP n ∈ l := by simpa using hb
   have he : n = iO l := by
    by_cases h : n < iO l
    ·exact absurd (yK l h) hm
    ·omega
   refine a8 (ag [] rfl ?_);unfold aZ;rw [← he];exact aE rtT
  ·have hm : bP n ∈ l := by simpa using hb
   have hne : n ≠ iO l := by rintro rfl; exact o9 l hm
   refine aD ?_;refine ag [] rfl ?_ (hc := by repeat (first | exact trivial | refine ⟨by omega, ?_⟩));exact ⟨n + 1, by omega, by dsimp only; omega, sl⟩
 ·exfalso;have := zq1 hb;omega
theorem aTq (s : Str) (t : Ty) (ho : aY Tryz.prog 126 [tyV t] [] (tyV t) []) : aY Tryz.prog 174 [Go.AM.T s, tyV t] [] (tyV (.mk 5 0 s [t])) [] := by
 refine c8 (n := 10) tok Tryz.func174 rfl rfl rfl ?_;refine a8 (ag [] rfl ?_);refine a8 (aF mixed ?_);refine ak 2 [] rfl ?_;refine kc ho ?_;refine ak 3 [(3, .all)] rfl ?_;refine az ?_;exact aE (rtC trw)
set_option maxHeartbeats 4000000
def aUn (l : List Ty) : V := .one (.c (.sl 4 (l.map cG)))
def unF (nm : Str) (body : Ty) (l : List (Str × Ty)) : List (Str × Ty) := l.filter fun p => !decide (p.1 = nm) && decide (p.1 ∈ tfR body)
def unC (l : List (Str × Ty)) : List Str := l.flatMap fun p => tfR p.2
noncomputable def unN (nm : Str) (body : Ty) (l : List (Str × Ty)) : Str := if nm ∈ unC (unF nm body l) then aZ (unC (unF nm body l) ++ tfR body) else nm
noncomputable def unP (nm : Str) (body : Ty) (l : List (Str × Ty)) : List (Str × Ty) := if nm ∈ unC (unF nm body l) then unF nm body l ++ [(nm, .mk 2 0 (unN nm body l) [])] else unF nm body l
theorem aMr {nm : Str} {body : Ty} {l : List (Str × Ty)} {i : Nat} {p : Str × Ty} (h : l[i]? = some p) : unF nm body (l.take (i + 1)) = if (!decide (p.1 = nm) && decide (p.1 ∈ tfR body)) = true then unF nm body (l.take i) ++ [p] else unF nm body (l.take i) := by
 unfold unF;rw [take_add_one, h, List.filter_append];show _ ++ List.filter _ [p] = _;rw [filter_cons];split <;> simp
theorem aOr (nm : Str) (body b' : Ty) (ps : List (Str × Ty)) (hl : ps.length ≤ 1000000000) (hfr : aY Tryz.prog 63 [tyV body] [] (bN (tfR body)) []) (hfl : (tfR body).length ≤ 400000000) (hall : aY Tryz.prog 174 [Go.AM.T (unN nm body ps), tyV b'] [] (tyV (.mk 5 0 (unN nm body ps) [b'])) [])
  (hps : ∀ p ∈ ps, aY Tryz.prog 63 [tyV p.2] [] (bN (tfR p.2)) [] ∧ (tfR p.2).length ≤ 400000000) (hc : (unC (unF nm body ps)).length ≤ 540000000000 ∧ ∀ i, (unC (unF nm body (ps.take i))).length ≤ 540000000000) (hI : eD ((unC (unF nm body ps)).length + (tfR body).length))
  (hS : aY Tryz.prog 65 [tyV body, bN ((unP nm body ps).map (·.1)), aUn ((unP nm body ps).map (·.2))] [] (tyV b') []) :
  aY Tryz.prog 128 [tyV (.mk 5 0 nm [body]), bN (ps.map (·.1)), aUn (ps.map (·.2))] [] (tyV (.mk 5 0 (unN nm body ps) [b'])) [] := by
 have hk1 : ((ps.map (·.1)).map bG).length = ps.length := by rw [length_map, length_map]
 refine c8 (n := 81) tok Tryz.func128 rfl rfl rfl ?_;refine a8 (ag [] rfl ?_);refine a8 (ag [(2, .row 0 (cG body))] rfl ?_);refine a8 (aF mixed ?_);refine ak 1 [] rfl ?_;refine kc hfr ?_;refine ak 1 [] rfl ?_;refine az ?_;refine a8 (ag [] rfl ?_);refine a8 (ag [] rfl ?_);refine a8 (ag [] rfl ?_);refine AWp.sub (Sub.own (t := 9) (id := 600) 9 1 rfl rfl) (AWp.sub (Sub.freeze (id := 600) rfl) ?_);refine AWp.sub (Sub.own (t := 10) (id := 601) 33 4 rfl rfl) (AWp.sub (Sub.freeze (id := 601) rfl) ?_);refine AWp.sub (Sub.own (t := 11) (id := 602) 9 1 rfl rfl) (AWp.sub (Sub.freeze (id := 602) rfl) ?_);refine a8 (a8 (ag [] rfl ?_));refine aC ?_
 refine aJ (fun i : Nat => mk [(2, aUn (ps.map (·.2))), (3, .one (.vp 3 0)), (6, .one (.vp 6 0)), (7, .one (.vp 7 0)), (8, bN (tfR body)), (9, .one (.hs 600 0 (unF nm body (ps.take i)).length (unF nm body (ps.take i)).length)), (10, .one (.hs 601 0 (unF nm body (ps.take i)).length (unF nm body (ps.take i)).length)), (11, .one (.hs 602 0 (unC (unF nm body (ps.take i))).length (unC (unF nm body (ps.take i))).length)), (21, bN (ps.map (·.1))), (22, I .i64 (((ps.map (·.1)).map bG).length : Int)), (23, I .i64 i)]
  [(600, .arr 9 1 (((unF nm body (ps.take i)).map (·.1)).map bG) 2), (601, .arr 33 4 (((unF nm body (ps.take i)).map (·.2)).map cG) 2), (602, .arr 9 1 ((unC (unF nm body (ps.take i))).map bG) 2), (3, .var 33 ((cG (.mk 5 0 nm [body])).map R.c)), (6, .var 33 [.c (.int .i64 0), .c (.int .i64 0), .c (.str []), .c .nl]), (7, .var 33 ((cG body).map R.c))]) (fun i => i ≤ ps.length) (fun i => ps.length - i) 0 (zero_le _) sl ?_
 intro i hi;refine a8 (ag [] rfl ?_);refine a8 (aB rfl (fun hb => ?_) (fun hb => ?_))
 ·have hlt := ltD hb hk1;obtain ⟨⟨s, u⟩, hu⟩ := aL hlt;have hs' : ((ps.map (·.1)).map bG)[i]? = some (bG s) := cE bG (by rw [List.getElem?_map, hu]; rfl);have hu' : ((ps.map (·.2)).map cG)[i]? = some (cG u) := cE cG (by rw [List.getElem?_map, hu]; rfl);obtain ⟨hfu, hul⟩ := hps _ (zq7 hu);have hul : (tfR u).length ≤ 400000000 := hul;have hfu : aY Tryz.prog 63 [tyV u] [] (bN (tfR u)) [] := hfu;have hst := aMr (nm := nm) (body := body) hu;have hct := bU (tfR body) s (by omega);have hql := hc.2 i;have hpl : (unF nm body (ps.take i)).length ≤ 1000000000 := by
   have h1 : (unF nm body (ps.take i)).length ≤ (ps.take i).length := List.length_filter_le _ _;rw [length_take] at h1; omega
  generalize unF nm body (ps.take i) = q at hst hql hpl ⊢;generalize tfR body = fb at hct hst ⊢;refine aD ?_;refine a8 (aC (a8 (ag [(1, .row i (bG s))] rfl ?_)));by_cases h1 : s = nm
  ·have e1 : (!decide (s = nm)) = false := by rw [decide_eq_true h1]; rfl
   dsimp only at hst;rw [e1, Bool.false_and, if_neg (by decide)] at hst;refine a8 (ag [(4, .bv false), (8, .bv false)] rfl ?_);refine aB rfl (fun hb => by cases hb) (fun _ => ?_);refine aD ?_;refine ag [] rfl ?_;refine ⟨i + 1, hlt, by dsimp only; omega, ?_⟩;dsimp only;rw [hst];exact sl
  have e1 : (!decide (s = nm)) = true := by rw [decide_eq_false h1]; rfl
  dsimp only at hst;rw [e1, Bool.true_and] at hst;by_cases h2 : s ∈ fb
  ·rw [decide_eq_true h2] at hct;rw [if_pos (decide_eq_true h2)] at hst;have hql2 := hc.2 (i + 1);rw [hst] at hql2;have hcq : unC (q ++ [(s, u)]) = unC q ++ tfR u := by unfold unC; rw [flatMap_append]; simp
   rw [hcq, length_append] at hql2;refine a8 (aF mixed ?_);refine ak 7 [(4, .bv true)] rfl ?_;refine kcG hct ?_ (hw := e1);refine ak 1 [(8, .bv true)] rfl ?_;refine az ?_;refine aB rfl (fun _ => ?_) (fun hb => by cases hb);have hq1 : ((q.map (·.1)).map bG).length = q.length := by rw [length_map, length_map]
   have hq2 : ((q.map (·.2)).map cG).length = q.length := by rw [length_map, length_map]
   have hq3 : ((unC q).map bG).length = (unC q).length := length_map _;have hq4 : ((tfR u).map bG).length = (tfR u).length := length_map _;refine a8 (ag [(2, .all), (7, .row i (cG u)), (9, .all)] rfl ?_);refine AWp.sub (Sub.freeze (id := 600) rfl) (AWp.sub (Sub.freeze (id := 601) rfl) ?_);refine aF mixed ?_;refine ak 5 [(3, .row i (cG u))] rfl ?_;refine kc hfu ?_;refine ak 2 [] rfl ?_;refine az ?_;refine AWp.sub (Sub.freeze (id := 602) rfl) ?_;refine ag [] rfl ?_;refine ⟨i + 1, hlt, by dsimp only; omega, ?_⟩;dsimp only;rw [hst, hcq];refine sl (he := ⟨rfl, rfl, rfl, rfl, rfl, Go.AM.hs_ren (by simp) (by simp), Go.AM.hs_ren (by simp) (by simp), Go.AM.hs_ren (by simp) (by simp), rfl, rfl, rfl, trivial⟩) (hh := ⟨⟨_, rfl, .arrS (by simp [bG])⟩, ⟨_, rfl, .arrS (by simp; rfl)⟩, ⟨_, rfl, .arrS (by simp)⟩, ⟨_, rfl, .var rfl⟩, ⟨_, rfl, .var rfl⟩, ⟨_, rfl, .var rfl⟩, trivial⟩)
  ·rw [decide_eq_false h2] at hct;rw [if_neg (by rw [decide_eq_false h2]; decide)] at hst;refine a8 (aF mixed ?_);refine ak 7 [(4, .bv true)] rfl ?_;refine kcG hct ?_ (hw := e1);refine ak 1 [(8, .bv true)] rfl ?_;refine az ?_;refine aB rfl (fun hb => by cases hb) (fun _ => ?_);refine aD ?_;refine ag [] rfl ?_;refine ⟨i + 1, hlt, by dsimp only; omega, ?_⟩;dsimp only;rw [hst];exact sl
 ·have hge := geD hb hk1 hi;subst hge;rw [take_length];have hpl : (unF nm body ps).length ≤ 1000000000 := by
   have h1 : (unF nm body ps).length ≤ ps.length := List.length_filter_le _ _;omega
  have hct := bU (unC (unF nm body ps)) nm (by omega);refine aK ?_;refine a8 (ag [] rfl ?_);by_cases h1 : nm ∈ unC (unF nm body ps)
  ·have eN : unN nm body ps = aZ (unC (unF nm body ps) ++ tfR body) := by unfold unN; rw [if_pos h1]
   have eP : unP nm body ps = unF nm body ps ++ [(nm, .mk 2 0 (unN nm body ps) [])] := by unfold unP; rw [if_pos h1]
   have hlt := aO3 (unC (unF nm body ps) ++ tfR body) (by rw [length_append]; have := hc.1; omega) (fun k hk => hI k (by rw [length_append] at hk; exact hk));rw [← eN] at hlt;rw [eP] at hS;have hv := aRa (unN nm body ps);rw [decide_eq_true h1] at hct;generalize unN nm body ps = N at *;have hcl := hc.1;generalize unF nm body ps = q at *;have hS2 : aY Tryz.prog 65 [tyV body, .one (.c (.sl 1 ((q.map (·.1)).map bG ++ [bG nm]))), .one (.c (.sl 4 ((q.map (·.2)).map cG ++ [cG (.mk 2 0 N [])])))] [] (tyV b') [] := by
    have e1 : bN ((q ++ [(nm, Ty.mk 2 0 N [])]).map (·.1)) = .one (.c (.sl 1 ((q.map (·.1)).map bG ++ [bG nm]))) := by unfold bN; rw [map_append, map_append]; rfl
    have e2 : aUn ((q ++ [(nm, Ty.mk 2 0 N [])]).map (·.2)) = .one (.c (.sl 4 ((q.map (·.2)).map cG ++ [cG (.mk 2 0 N [])]))) := by unfold aUn; rw [map_append, map_append]; rfl
    rw [e1, e2] at hS;exact hS
   have hq1 : ((q.map (·.1)).map bG).length = q.length := by rw [length_map, length_map]
   have hq2 : ((q.map (·.2)).map cG).length = q.length := by rw [length_map, length_map]
   have hq3 : ((unC q).map bG).length = (unC q).length := length_map _;have hq4 : ((tfR body).map bG).length = (tfR body).length := length_map _;have hlt2 : aY Tryz.prog 173 [.one (.c (.sl 1 ((unC q).map bG ++ (tfR body).map bG)))] [] (Go.AM.T N) [] := by
    have e1 : bN (unC q ++ tfR body) = .one (.c (.sl 1 ((unC q).map bG ++ (tfR body).map bG))) := by unfold bN; rw [map_append]
    rw [e1] at hlt;exact hlt
   refine a8 (a8 (aF mixed ?_));refine ak 2 [] rfl ?_;refine kc hct ?_;refine az ?_;refine aB rfl (fun _ => ?_) (fun hb => by cases hb);refine a8 (aF mixed ?_);refine ak 3 [(2, .fz)] rfl ?_;refine kc hlt2 ?_;refine ak 1 [] rfl ?_;refine az ?_;refine aF mixed ?_;refine ak 7 [(3, .all)] rfl ?_;refine kc hv ?_;refine ak 4 [(8, .all)] rfl ?_;refine az ?_;refine AWp.sub (Sub.freeze (id := 600) rfl) (AWp.sub (Sub.freeze (id := 601) rfl) ?_);refine a8 (aF mixed ?_);refine ak 4 [] rfl ?_;refine kc hS2 ?_;refine kc hall ?_;refine ak 1 [] rfl ?_;refine az ?_;exact aE (rtC trw)
  ·have eN : unN nm body ps = nm := by unfold unN; rw [if_neg h1]
   have eP : unP nm body ps = unF nm body ps := by unfold unP; rw [if_neg h1]
   rw [eP] at hS;rw [eN] at hall ⊢;rw [decide_eq_false h1] at hct;have hcl := hc.1;generalize unF nm body ps = q at *;have hq1 : ((q.map (·.1)).map bG).length = q.length := by rw [length_map, length_map]
   have hq2 : ((q.map (·.2)).map cG).length = q.length := by rw [length_map, length_map]
   refine a8 (a8 (aF mixed ?_));refine ak 2 [] rfl ?_;refine kc hct ?_;refine az ?_;refine aB rfl (fun hb => by cases hb) (fun _ => ?_);refine aD ?_;refine a8 (aF mixed ?_);refine ak 4 [] rfl ?_;refine kc hS ?_;refine kc hall ?_;refine ak 1 [] rfl ?_;refine az ?_;exact aE (rtC trw)
mutual
def wfT : Ty → Bool
 | .mk f n s a => (if f = 4 then decide (n = 0 ∧ s = [] ∧ a.length = 2) else if f = 5 then decide (n = 0 ∧ a.length = 1) else true) && aPq a
def aPq : List Ty → Bool
 | [] => true
 | t :: l => wfT t && aPq l
end
theorem tC (s : Str) : ∀ (l : List Str) (k : Int), (∃ i : Nat, aGh s l k = k + i ∧ l[i]? = some s) ∨ (¬ s ∈ l ∧ aGh s l k = -1)
 | [], k => .inr ⟨by simp, rfl⟩
 | x :: l, k => by
  rw [aGh];split
  ·rename_i h; subst h;exact .inl ⟨0, by simp, rfl⟩
  ·rename_i h;rcases tC s l (k + 1) with ⟨i, h1, h2⟩ | ⟨h1, h2⟩
   ·exact .inl ⟨i + 1, by rw [h1]; omega, by simpa using h2⟩
   ·exact .inr ⟨by simp [h, h1], h2⟩
theorem aHq {f : Int} {s : Str} {o : List Str} {x y : Str} (h : y ∈ o) : y ∈ gH f s o x := by
 unfold gH; split
 ·exact mem_append.2 (.inl h)
 ·exact h
theorem pB {f : Int} {s : Str} : ∀ {l o : List Str} {y : Str}, y ∈ o → y ∈ rZ f s o l
 | [], _, _, h => h
 | x :: l, o, y, h => pB (l := l) (o := gH f s o x) (aHq h)
theorem mR {f : Int} {s : Str} : ∀ {l o : List Str} {y : Str}, y ∈ l → (¬ f = 5 ∨ ¬ y = s) → y ∈ rZ f s o l
 | x :: l, o, y, h, hf => by
  rcases mem_cons.1 h with rfl | h
  ·refine pB (l := l) (o := gH f s o y) ?_;unfold gH;by_cases hy : y ∈ o
   ·rw [if_neg (fun h => h.1 hy)]; exact hy
   ·rw [if_pos ⟨hy, hf⟩]; simp
  ·exact mR (l := l) (o := gH f s o x) h hf
theorem aVi {n : Int} {nm : Str} {body : Ty} {x : Str} (h : x ∈ tfR body) (hx : ¬ x = nm) : x ∈ tfR (.mk 5 n nm [body]) := by
 rw [tfR, if_neg (by decide), nY, nY];exact mR h (.inr hx)
theorem aR6 {n : Int} {s : Str} {a b : Ty} {x : Str} (h : x ∈ tfR a) : x ∈ tfR (.mk 4 n s [a, b]) := by
 rw [tfR, if_neg (by decide), nY, nY, nY];exact pB (mR h (.inl (by decide)))
theorem aR5 {n : Int} {s : Str} {a b : Ty} {x : Str} (h : x ∈ tfR b) : x ∈ tfR (.mk 4 n s [a, b]) := by
 rw [tfR, if_neg (by decide), nY, nY, nY];exact mR h (.inl (by decide))
theorem aBc (n : Nat) (h : n ≤ 540000000000) : (bP n).length ≤ 21 := by
 unfold bP;have := aBs (n / 26) (by omega);split
 ·simp
 ·simp; omega
theorem j5 (l : List Str) (h : l.length ≤ 540000000000) : (aZ l).length ≤ 21 := aBc _ (le_trans (r8 l) h)
mutual
def t30 : Ty → Nat
 | .mk _ _ s a => 1 + max 30 s.length + aYu a
def aYu : List Ty → Nat
 | [] => 0
 | t :: l => t30 t + aYu l
end
end Go.Proofs.YtmoekkcdkjopgaaGreatDoor
namespace Go.AM
open Go
theorem pP {α : Type} : ∀ (a b : List (Nat × α)) (i : Nat), look (a ++ b) i = match look a i with | some x => some x | none => look b i
 | [], _, _ => rfl
 | (k, x) :: a, b, i => by
  simp only [cons_append, look];cases Nat.beq i k
  ·simpa using pP a b i
  ·rfl
theorem hD : ∀ (a b : List (Nat × AObj)), cQ (a ++ b) = cQ a ++ cQ b
 | [], _ => rfl
 | (k, o) :: a, b => by simp only [cons_append, cQ, hD a b, append_assoc]
theorem dP.app {α : Type} {p : α → Prop} : ∀ {a b : List α}, dP p a → dP p b → dP p (a ++ b)
 | [], _, _, h => h
 | _ :: _, _, h, k => ⟨h.1, dP.app h.2 k⟩
theorem fC : ∀ {l : List Nat}, l.Nodup → distinct l = true
 | [], _ => rfl
 | x :: l, h => by
  obtain ⟨h1, h2⟩ := nodup_cons.1 h;simp only [distinct, fC h2, Bool.and_true];simpa using h1
theorem dV {a b : List Nat} (h : ∀ x ∈ a, x ∈ b) : subset a b = true := by
 simp only [subset, all_eq_true];exact fun x hx => by simpa using h x hx
theorem aY.row {P : Program} {f : FuncId} {args : List V} {hin hin' hout hout' : List (Nat × AObj)} {res : V} (h : aY P f args hin res hout) (h1 : look hin' = look hin) (h2 : look hout' = look hout) : aY P f args hin' res hout' := by
 unfold aY at h ⊢;rw [h1, h2]; exact h
section
variable {P : Program} {n : Nat}
theorem Sub.ownCellR {kf : List Nat} {st : St} {x k id tv : Nat} {cells : List R} (te es : Nat) (h : st.h x = some (.var tv cells)) (hk : cells[k]? = some (.c .nl)) (hid : st.h id = none) :
  Sub kf ⟨st.e, upd (upd st.h id (some (.rarr te es []))) x (some (.var tv (cells.set k (.ra id 0 0 0)))), st.d⟩ st := by
 intro G n S μ a w _ hs;obtain ⟨hi, hE⟩ := hs.inv.emptyR te es hid;have hne : x ≠ id := fun e => by subst e; rw [h] at hid; cases hid
 have hx : upd st.h id (some (.rarr te es [])) x = some (.var tv cells) := by rw [aS _ _ _ hne]; exact h
 obtain ⟨b, vs, g1, g2, g3, g4⟩ := hi.obj x _ hx
 have hE2 : Evolve S (upd μ id none) (upd st.h id (some (.rarr te es []))) S (upd μ id none) (upd (upd st.h id (some (.rarr te es []))) x (some (.var tv (cells.set k (.ra id 0 0 0))))) := ⟨S.le_refl, fun j y hj => by
  by_cases hjx : j = x
  ·subst hjx;rw [hx] at hj; cases hj;exact ⟨_, aI _ _ _, by simp [AObj.succ]⟩
  ·exact ⟨y, by rw [aS _ _ _ hjx]; exact hj, y.succ_refl rfl⟩⟩
 have hold : ∀ j y, upd (upd st.h id (some (.rarr te es []))) x (some (.var tv (cells.set k (.ra id 0 0 0)))) j = some y → ∃ y', upd st.h id (some (.rarr te es [])) j = some y' := fun j y hj => by
  by_cases hjx : j = x
  ·subst hjx; exact ⟨_, hx⟩
  ·rw [aS _ _ _ hjx] at hj; exact ⟨_, hj⟩
 refine ⟨S, upd μ id none, ⟨⟨hi.holds, fun j y hj => ?_, fun i j y y' b c c' hi' hj hm hm' => ?_, fun i y b c hi' hm => ?_, hi.frame, hi.sle, hi.sto, hi.evo.trans hE2⟩, hs.size, hs.defers.evolve (hE.trans hE2), fun s v e => aV.evolve (hE.trans hE2) v _ (hs.env s v e)⟩⟩
 ·by_cases hjx : j = x
  ·subst hjx;have hj' : some (AObj.var tv (cells.set k (.ra id 0 0 0))) = some y := by rw [← hj]; exact (aI _ _ _).symm
   cases hj';refine ⟨b, vs, g1, g2, ?_, g4⟩;have h3 := aU.evolve hE2 _ _ g3;obtain ⟨u, hu, hru⟩ := g3.get k _ hk;simp only [b8, Rep] at hru;have hkl : k < cells.length := (zq6.1 hk).1
   have hsplit : cells.set k (.ra id 0 0 0) = bV cells k [.ra id 0 0 0] := by
    unfold bV;rw [set_eq_take_append_cons_drop, if_pos hkl];simp
   have hvl := g3.length;have hvs : vs = bV vs k [u] := by
    unfold bV;apply List.ext_getElem?;intro i;simp only [List.getElem?_append, length_append, length_take, length_cons, length_nil, List.getElem?_take, List.getElem?_drop];have hm : min k vs.length = k := by omega
    rw [hm];by_cases c1 : i < k
    ·simp [c1, show i < k + 1 by omega]
    ·by_cases c2 : i = k
     ·subst c2; simp [hu]
     ·simp [show ¬ i < k + 1 by omega, show k + 1 + (i - (k + 1)) = i by omega]
   rw [hsplit] at h3 ⊢;rw [hvs];refine o4 h3 ?_;simp only [aU, b8];exact ⟨u, [], rfl, ⟨⟨_, _, _, hru⟩, .inr ⟨te, es, [], by rw [aS _ _ _ hne.symm]; exact aI _ _ _, le_refl _, fun _ => ⟨le_refl _, .inl ⟨aI _ _ _, rfl, hru⟩⟩⟩⟩, rfl⟩
  ·have hj' : upd st.h id (some (.rarr te es [])) j = some y := by rw [← hj]; exact (aS _ _ _ hjx).symm
   exact (hi.obj j y hj').evolve hE2 rfl fun _ _ _ => ⟨rfl, fun _ => rfl, rfl⟩
 ·obtain ⟨_, h1⟩ := hold _ _ hi';obtain ⟨_, h2⟩ := hold _ _ hj;exact hi.inj i j _ _ b c c' h1 h2 hm hm'
 ·obtain ⟨_, h1⟩ := hold _ _ hi';exact hi.own i _ b c h1 hm
theorem Sim.turnMap {G : Ctx} {n : Nat} {S : Sto} {μ : Mu} {st : St} {a : Act} {w : World} {id : Nat} {agg : Bool} {ents ents' : List (List C)} (hs : Sim G n S μ st a w) (hid : st.h id = some (.map agg ents))
  (ho : ∃ b es clk, μ id = some (b, 0, 0) ∧ w.heap[b]? = some (.map es clk) ∧ wV S agg ents' es.toList ∧ wW S b ents') : Sim G n S μ ⟨st.e, upd st.h id (some (.map agg ents')), st.d⟩ a w := by
 have hE : Evolve S μ st.h S μ (upd st.h id (some (.map agg ents'))) := ⟨S.le_refl, fun j x hj => by
  by_cases hji : j = id
  ·subst hji;rw [hid] at hj; cases hj;exact ⟨_, aI _ _ _, by simp [AObj.succ]⟩
  ·exact ⟨x, by rw [aS _ _ _ hji]; exact hj, x.succ_refl rfl⟩⟩
 have hold : ∀ j x, upd st.h id (some (.map agg ents')) j = some x → ∃ x', st.h j = some x' := fun j x hj => by
  by_cases hji : j = id
  ·subst hji; exact ⟨_, hid⟩
  ·rw [aS _ _ _ hji] at hj; exact ⟨_, hj⟩
 refine ⟨⟨hs.inv.holds, fun j x hj => ?_, fun i j x x' b c c' hi hj hm hm' => ?_, fun i x b c hi hm => ?_, hs.inv.frame, hs.inv.sle, hs.inv.sto, hs.inv.evo.trans hE⟩, hs.size, hs.defers.evolve hE, fun t v ht => aV.evolve hE v _ (hs.env t v ht)⟩
 ·have hj : upd st.h id (some (.map agg ents')) j = some x := hj;by_cases hji : j = id
  ·subst hji;rw [aI] at hj;cases hj;exact ho
  ·rw [aS _ _ _ hji] at hj;exact (hs.inv.obj j x hj).evolve hE rfl fun _ _ _ => ⟨rfl, fun _ => rfl, rfl⟩
 ·obtain ⟨_, h1⟩ := hold _ _ hi;obtain ⟨_, h2⟩ := hold _ _ hj;exact hs.inv.inj i j _ _ b c c' h1 h2 hm hm'
 ·obtain ⟨_, h1⟩ := hold _ _ hi;exact hs.inv.own i _ b c h1 hm
def omap (agg : Bool) : AObj := .map agg [[]]
theorem aBb {k : List UInt8} {vs : List C} : ∀ {l : List (List C)}, fP l → fP (oP k vs l)
 | [], _ => by simp [oP, fP]
 | (.str s :: us) :: r, h => by
  simp only [oP];simp only [fP] at h;split
  ·simpa [fP] using h
  ·simpa [fP] using aBb h
theorem Sim.reveal {G : Ctx} {n : Nat} {S : Sto} {μ : Mu} {st : St} {a : Act} {w : World} {id : Nat} {agg : Bool} (hs : Sim G n S μ st a w) (hid : st.h id = some (.map agg [[]])) : ∃ ents, fP ents ∧ Sim G n S μ ⟨st.e, upd st.h id (some (.map agg ents)), st.d⟩ a w := by
 obtain ⟨b, es, clk, h1, h2, h3, h4⟩ := hs.inv.obj id _ hid;obtain ⟨ents, hm, hr⟩ : ∃ ents, fP ents ∧ b7 S agg ents es.toList := by
  rcases h3 with ⟨_, e', g1, g2⟩ | h3 | ⟨T, q1, q2, _⟩
  ·exact ⟨e', g1, g2⟩
  ·simp only [b7, c9] at h3;obtain ⟨e, es', _, ⟨vs, g, _⟩, _⟩ := h3;cases g
  ·cases q1; exact absurd rfl q2
 exact ⟨ents, hm, hs.turnMap hid ⟨b, es, clk, h1, h2, .inr (.inl hr), .inl (h4.kn1 rfl)⟩⟩
theorem Sim.forget {G : Ctx} {n : Nat} {S : Sto} {μ : Mu} {st : St} {a : Act} {w : World} {id : Nat} {agg : Bool} {ents : List (List C)} (hs : Sim G n S μ st a w) (hid : st.h id = some (.map agg ents)) (hm : fP ents) : Sim G n S μ ⟨st.e, upd st.h id (some (.map agg [[]])), st.d⟩ a w := by
 obtain ⟨b, es, clk, h1, h2, h3, h4⟩ := hs.inv.obj id _ hid;exact hs.turnMap hid ⟨b, es, clk, h1, h2, .inl ⟨rfl, ents, hm, h3.rep hm⟩, .inl (h4.kn0 hm)⟩
theorem iZ {o : Oper} {st : St} {T : TT} {t kt et : TypeId} {i ki : TI} {x y z : Operand} {id : Nat} {agg : Bool} {k : List UInt8} {v : V} {rs : List R} (hT : Tok P T) (ho : o.op = .insert t x y z) (hd : o.dst = none) (hi : T[t]? = some (some i)) (hk : i.k = .mp kt et)
  (hki : T[kt]? = some (some ki)) (hkk : ki.k = .str) (hx : opv st x = some (.one (.mr id))) (hh : st.h id = some (.map agg [[]])) (hy : opv st y = some (Go.AM.T k))
  (hz : opv st z = some v) (hva : (match v with | .one _ => !agg | .pa _ => agg | .ma _ => agg | _ => false) = true) (hc : fT v = some rs) : Step P n o st ⟨opr x ++ opr y ++ opr z, [id]⟩ ⟨none, []⟩ := by
 intro st' ha G S μ a w K Q hs hk';have hh' : st'.h id = some (.map agg [[]]) := (ha.2 id (by simp)).trans hh;obtain ⟨ents, hm, hs2⟩ := hs.reveal hh';have hop : ∀ {x : Operand} {u : V}, (∀ s ∈ opr x, st'.e s = st.e s) → opv st x = some u → opv ⟨st'.e, upd st'.h id (some (.map agg ents)), st'.d⟩ x = some u := fun {x u} h e => by
  cases x <;> first | exact e | (exact (h _ (by simp [opr])).trans e)
 refine aDu (ids := []) (cs := aMj rs) hT ho hd hi hk hki hkk (hop (fun s h => ha.1 s (by simp [h])) hx) (aI _ _ _) hm (hop (fun s h => ha.1 s (by simp [h])) hy) (hop (fun s h => ha.1 s (by simp [h])) hz) (by cases v <;> first | rfl | exact hva) hc .ofA ⟨st'.e, upd st'.h id (some (.map agg ents)), st'.d⟩ ⟨fun _ _ => rfl, fun _ _ => rfl⟩ G S μ a w K Q hs2 fun S1 μ1 a1 w1 h1 => hk' S1 μ1 a1 w1 ?_
 have h2 := h1.forget (id := id) (agg := agg) (ents := oP k (aMj rs) ents) (by show updL (upd st'.h id _) [(id, _)] id = _; rw [bQ, aI]) (aBb hm);have e : (⟨st'.e, upd (updL (upd st'.h id (some (.map agg ents))) [(id, some (.map agg (oP k (aMj rs) ents)))]) id (some (.map agg [[]])), st'.d⟩ : St) = st' := by
  rw [bQ];have : upd (upd (upd st'.h id (some (.map agg ents))) id (some (.map agg (oP k (aMj rs) ents)))) id (some (.map agg [[]])) = st'.h := by
   funext j;by_cases hj : j = id
   ·subst hj; rw [aI, hh']
   ·rw [aS _ _ _ hj, aS _ _ _ hj, aS _ _ _ hj]
  rw [this]
 have h3 : Sim G n S1 μ1 ⟨st'.e, upd (updL (upd st'.h id (some (.map agg ents))) [(id, some (.map agg (oP k (aMj rs) ents)))]) id (some (.map agg [[]])), st'.d⟩ a1 w1 := h2;rw [e] at h3;exact h3
theorem aFu {o : Oper} {st : St} {d : Nat} {t : TypeId} {id : Nat} {agg : Bool} (ho : o.op = .makeMap t none) (hd : o.dst = some d) (hdn : d < n) (hid : st.h id = none) : Step P n o st ⟨[], [id]⟩ ⟨some (d, some (.one (.mr id))), [(id, some (.map agg [[]]))]⟩ := by
 intro st' ha G S μ a w K Q hs hk';refine qM id agg ho hd hdn hid st' ha G S μ a w K Q hs fun S1 μ1 a1 w1 h1 => hk' S1 μ1 a1 w1 ?_
 have h2 := h1.forget (id := id) (agg := agg) (ents := []) (by show updL st'.h [(id, _)] id = _; rw [bQ, aI]) trivial;have e : (upd (updL st'.h [(id, some (.map agg []))]) id (some (.map agg [[]]))) = updL st'.h [(id, some (.map agg [[]]))] := by
  rw [bQ, bQ, k7]
 have h3 : Sim G n S1 μ1 ⟨upd st'.e d (some (.one (.mr id))), upd (updL st'.h [(id, some (.map agg []))]) id (some (.map agg [[]])), st'.d⟩ a1 w1 := h2;rw [e] at h3;exact h3
end
theorem Ole.varS {t : Nat} {l l' : List R} (h : l = l') : Ole (fun i => i) (.var t l) (.var t l') := by subst h; exact .var (R.renL_id _).symm
structure TF (F : List (Nat × AObj)) : Prop where
 far : ∀ p ∈ F, 800 ≤ p.1
 nodup : (F.map (·.1)).Nodup
 arr : ∀ p ∈ F, ∃ te es l z, p.2 = .arr te es l z
theorem TF.refs {F : List (Nat × AObj)} (h : TF F) : cQ F = [] := by
 have key : ∀ l : List (Nat × AObj), (∀ p ∈ l, ∃ te es l z, p.2 = .arr te es l z) → cQ l = [] := by
  intro l
  induction l with
  | nil => intro _; rfl
  | cons p l ih =>
   intro h;obtain ⟨te, es, l', z, hp⟩ := h p (by simp);show p.2.refs ++ cQ l = [];rw [ih fun q hq => h q (by simp [hq]), hp]; rfl
 exact key F h.arr
theorem TF.ok {F : List (Nat × AObj)} (h : TF F) : ∀ p ∈ F, p.2.live = true ∧ p.2.plain = true := fun p hp => by
 obtain ⟨te, es, l, z, e⟩ := h.arr p hp;rw [e]; exact ⟨rfl, rfl⟩
def mkt (el : List (Nat × V)) (hl F : List (Nat × AObj)) : St := ⟨look el, fun i => match look hl i with | some x => some x | none => bif Nat.blt i 800 then none else look F i, []⟩
theorem gJ {α : Type} : ∀ {l : List (Nat × α)} {i : Nat}, i ∉ l.map (·.1) → look l i = none
 | [], _, _ => rfl
 | (k, x) :: l, i, h => by
  simp only [map_cons, mem_cons, not_or] at h;simp only [look];have : Nat.beq i k = false := by
   cases hb : Nat.beq i k with
   | false => rfl
   | true => exact absurd (zq4 hb) h.1
  rw [this];simpa using gJ h.2
theorem TF.near {F : List (Nat × AObj)} (hF : TF F) {i : Nat} (h : i < 800) : look F i = none := gJ fun hm => by
 obtain ⟨p, hp, rfl⟩ := mem_map.1 hm;have := hF.far p hp;omega
theorem aGm {i k : Nat} (h : i < k) : Nat.blt i k = true := Nat.ble_eq_true_of_le h
theorem zH {i k : Nat} (h : k ≤ i) : Nat.blt i k = false := by
 cases hb : Nat.blt i k with
 | false => rfl
 | true => have := zq5 hb; omega
theorem aJk {el : List (Nat × V)} {hl F : List (Nat × AObj)} (hF : TF F) : mkt el hl F = mk el (hl ++ F) := by
 unfold mkt mk;congr 1;funext i;rw [pP];cases look hl i with
 | some x => rfl
 | none =>
  by_cases h : i < 800
  ·simp only [aGm h, hF.near h, cond_true]
  ·simp only [zH (Nat.le_of_not_lt h), cond_false]
theorem o7 {α : Type} : ∀ {l : List (Nat × α)}, (l.map (·.1)).Nodup → ∀ p ∈ l, look l p.1 = some p.2
 | (k, x) :: l, h, p, hp => by
  simp only [map_cons, nodup_cons] at h;simp only [look];rcases mem_cons.1 hp with rfl | hp
  ·simp
  ·have hne : p.1 ≠ k := fun e => h.1 (e ▸ mem_map.2 ⟨p, hp, rfl⟩)
   have : Nat.beq p.1 k = false := by
    cases hb : Nat.beq p.1 k with
    | false => rfl
    | true => exact absurd (zq4 hb) hne
   rw [this];simpa using o7 h.2 p hp
def FarEq (h : cF) (F : List (Nat × AObj)) : Prop := ∀ p ∈ F, h p.1 = some p.2
theorem vI {hl : List (Nat × AObj)} (h : (hl.all fun p => Nat.blt p.1 800) = true) {i : Nat} (hi : 800 ≤ i) : look hl i = none := gJ fun hm => by
 obtain ⟨p, hp, rfl⟩ := mem_map.1 hm;have := zq5 ((all_eq_true.1 h) p hp);omega
theorem FarEq.raw {hl F : List (Nat × AObj)} (hF : TF F) (h : (hl.all fun p => Nat.blt p.1 800) = true := by rfl) : FarEq (fun i => match look hl i with | some x => some x | none => bif Nat.blt i 800 then none else look F i) F := fun p hp => by
 have h1 := hF.far p hp;show (match look hl p.1 with | some x => some x | none => bif Nat.blt p.1 800 then none else look F p.1) = _;rw [vI h h1, zH h1];exact o7 hF.nodup p hp
theorem FarEq.mkt {el : List (Nat × V)} {hl F : List (Nat × AObj)} (hF : TF F) (h : (hl.all fun p => Nat.blt p.1 800) = true := by rfl) : FarEq (mkt el hl F).h F := FarEq.raw hF h
theorem FarEq.upd {h : cF} {F : List (Nat × AObj)} {k : Nat} {x : Option AObj} (hF : TF F) (hf : FarEq h F) (hk : Nat.blt k 800 = true := by rfl) : FarEq (upd h k x) F := fun p hp => by
 have h1 := hF.far p hp;have := zq5 hk;rw [aS _ _ _ (by omega)]; exact hf p hp
theorem FarEq.updL {h : cF} {F : List (Nat × AObj)} {l : List (Nat × Option AObj)} (hF : TF F) (hf : FarEq h F) (hk : (l.all fun p => Nat.blt p.1 800) = true := by rfl) : FarEq (updL h l) F := fun p hp => by
 have h1 := hF.far p hp;simp only [Go.AM.updL];have : look l p.1 = none := gJ fun hm => by
  obtain ⟨q, hq, e⟩ := mem_map.1 hm;have := zq5 ((all_eq_true.1 hk) q hq);omega
 rw [this]; exact hf p hp
theorem sM {hl F : List (Nat × AObj)} (hF : TF F) (h1 : distinct (hl.map (·.1)) = true) (h2 : (hl.all fun p => Nat.blt p.1 800) = true) : ((hl ++ F).map (·.1)).Nodup := by
 rw [map_append, nodup_append];refine ⟨cY h1, hF.nodup, fun a ha b hb e => ?_⟩;subst e;obtain ⟨p, hp, rfl⟩ := mem_map.1 ha;obtain ⟨q, hq, e⟩ := mem_map.1 hb;have := zq5 ((all_eq_true.1 h2) p hp);have := hF.far q hq;omega
theorem mT {hl F : List (Nat × AObj)} (hF : TF F) (h : ∀ x ∈ cQ hl, x ∈ keys hl ∨ x ∈ keys F) : ∀ x ∈ cQ (hl ++ F), x ∈ keys (hl ++ F) := fun x hx => by
 rw [hD, hF.refs, append_nil] at hx;unfold keys at h ⊢;rw [map_append, mem_append];exact h x hx
theorem Sub.tailT {kf : List Nat} {st1 : St} {el : List (Nat × V)} {hl F : List (Nat × AObj)} (σ : Nat → Nat) (hF : TF F) (he : dP (fun p => st1.e p.1 = some (p.2.ren σ)) el) (hh : dP (fun p => ∃ o, st1.h (σ p.1) = some o ∧ Ole σ o p.2) hl)
  (hhF : ∀ p ∈ F, ∃ o, st1.h (σ p.1) = some o ∧ Ole σ o p.2) (hd : st1.d = []) (h1 : ∀ x ∈ mV el, x ∈ keys hl ∨ x ∈ keys F) (h2 : ∀ x ∈ cQ hl, x ∈ keys hl ∨ x ∈ keys F) (h3 : ((hl ++ F).map fun p => σ p.1).Nodup) (h4 : ∀ i ∈ kf, (i ∈ keys hl ∨ i ∈ keys F) ∧ σ i = i) :
  Sub kf (mkt el hl F) st1 := by
 rw [aJk hF];refine Sub.list σ he (dP.app hh (dP.of hhF)) ?_;have hk : ∀ x, (x ∈ keys hl ∨ x ∈ keys F) → x ∈ (hl ++ F).map (·.1) := fun x hx => by rw [map_append, mem_append]; exact hx
 simp only [aMk, Bool.and_eq_true];refine ⟨⟨⟨⟨⟨dV fun x hx => hk x (h1 x hx), dV (mT hF h2)⟩, fC h3⟩, dV fun x hx => hk x (h4 x hx).1⟩, all_eq_true.2 fun i hi => by rw [(h4 i hi).2]; simp⟩, by rw [hd]; rfl⟩
theorem slT {kf : List Nat} {st1 : St} {el : List (Nat × V)} {hl F : List (Nat × AObj)} (hF : TF F) (hf : FarEq st1.h F) (h1 : ∀ x ∈ mV el, x ∈ keys hl ∨ x ∈ keys F) (h2 : ∀ x ∈ cQ hl, x ∈ keys hl ∨ x ∈ keys F) (h4 : ∀ i ∈ kf, i ∈ keys hl ∨ i ∈ keys F)
  (he : dP (fun p => st1.e p.1 = some (p.2.ren (fun i => i))) el := by repeat (first | exact trivial | refine ⟨by first | rfl | exact congrArg some (V.ren_id _).symm, ?_⟩))
  (hh : dP (fun p => ∃ o, st1.h p.1 = some o ∧ Ole (fun i => i) o p.2) hl := by repeat (first | exact trivial | refine ⟨⟨_, rfl, by first | exact Go.AM.Ole.arr | exact Go.AM.Ole.var rfl | exact Go.AM.Ole.varS rfl | exact Go.AM.Ole.map | exact Go.AM.Ole.rarrS rfl⟩, ?_⟩))
  (hd : st1.d = [] := by rfl) (h3 : distinct (hl.map (·.1)) = true := by rfl) (h3' : (hl.all fun p => Nat.blt p.1 800) = true := by rfl) : Sub kf (mkt el hl F) st1 :=
 Sub.tailT (fun i => i) hF he hh (fun p hp => ⟨p.2, hf p hp, .refl_id (by intro e; have := (hF.ok p hp).1; rw [e] at this; cases this)⟩) hd h1 h2 (sM hF h3 h3') fun i hi => ⟨h4 i hi, rfl⟩
section
variable {P : Program} {T : TT}
theorem rS {f : FuncId} {fn : Func} {c : Code} {n : Nat} {args : List V} {hl F hout : List (Nat × AObj)} {res : V} (hF : TF F) (hT : Tok P T) (hf : P.funcs[f]? = some fn) (hb : fn.body = some c) (hn : fn.ntmps = n) (hle : Nat.ble args.length n = true)
  (h : AWp none P n (keys (hl ++ F)) c (mkt (aUv 0 args) hl F) (fun ex st => (ex = .normal ∨ ex = .ret) ∧ Fin T fn st (hl ++ F) res hout)) : aY P f args (hl ++ F) res hout := c8 hT hf hb hn hle (by rw [aJk hF] at h; exact h)
theorem aBp {fn : Func} {st : St} {hin hl F : List (Nat × AObj)} {res : V} (hF : TF F) (hf : FarEq st.h F) (hex : ∃ vs vs', ResV T st fn.results.toList vs ∧ Convs st.h vs vs' ∧ aHj vs' = res)
  (h1 : ∀ x ∈ res.refs, x ∈ keys hl ∨ x ∈ keys F) (h2 : ∀ x ∈ cQ hl, x ∈ keys hl ∨ x ∈ keys F) (h4 : ∀ i ∈ keys hin, i ∈ keys hl ∨ i ∈ keys F) (h5 : ∀ p ∈ hin, p.2.plain = true)
  (hh : dP (fun p => ∃ o, st.h p.1 = some o ∧ Ole (fun i => i) o p.2) hl := by repeat (first | exact trivial | refine ⟨⟨_, rfl, by first | exact Go.AM.Ole.arr | exact Go.AM.Ole.var rfl | exact Go.AM.Ole.varS rfl | exact Go.AM.Ole.map | exact Go.AM.Ole.rarrS rfl⟩, ?_⟩))
  (h3 : distinct (hl.map (·.1)) = true := by rfl) (h3' : (hl.all fun p => Nat.blt p.1 800) = true := by rfl) (h6 : (hl.all fun p => p.2.plain) = true := by rfl) : Fin T fn st hin res (hl ++ F) := by
 refine ⟨hex, dP.app hh (dP.of fun p hp => ⟨p.2, hf p hp, .refl_id (by intro e; have := (hF.ok p hp).1; rw [e] at this; cases this)⟩), ?_⟩;have hk : ∀ x, (x ∈ keys hl ∨ x ∈ keys F) → x ∈ keys (hl ++ F) := fun x hx => by unfold keys at *; rw [map_append, mem_append]; exact hx
 simp only [Bool.and_eq_true];refine ⟨⟨⟨⟨⟨dV fun x hx => hk x (h1 x hx), dV (mT hF h2)⟩, fC (sM hF h3 h3')⟩, dV fun x hx => hk x (h4 x hx)⟩, all_eq_true.2 h5⟩, ?_⟩;rw [all_append, Bool.and_eq_true];exact ⟨h6, all_eq_true.2 fun p hp => (hF.ok p hp).2⟩
end
theorem pU {h : cF} {hl F : List (Nat × AObj)} (hF : TF F) : updL h (outs (hl ++ F)) = fun i => bif Nat.blt i 800 then updL h (outs hl) i else updL h (outs (hl ++ F)) i := by
 funext i;by_cases hi : i < 800
 ·rw [aGm hi, cond_true, k8, k8, pP, hF.near hi];cases look hl i <;> rfl
 ·rw [zH (Nat.le_of_not_lt hi), cond_false]
theorem FarEq.outs {h : cF} {hl F : List (Nat × AObj)} (hF : TF F) (hk : (hl.all fun p => Nat.blt p.1 800) = true := by rfl) : FarEq (Go.AM.updL h (Go.AM.outs (hl ++ F))) F := fun p hp => by
 rw [k8, pP, vI hk (hF.far p hp), o7 hF.nodup p hp]
theorem FarEq.bif {h h' : cF} {F : List (Nat × AObj)} (hF : TF F) (hf : FarEq h F) : FarEq (fun i => bif Nat.blt i 800 then h' i else h i) F := fun p hp => by
 show (bif Nat.blt p.1 800 then h' p.1 else h p.1) = _;rw [zH (hF.far p hp)]; exact hf p hp
theorem mM {args : List V} {hl F : List (Nat × AObj)} (hF : TF F) (h1 : ∀ x ∈ V.refsL args, x ∈ keys hl ∨ x ∈ keys F) (h2 : ∀ x ∈ cQ hl, x ∈ keys hl ∨ x ∈ keys F) (h3 : (hl.all fun p => p.2.live) = true := by rfl) : iE args (hl ++ F) = true := by
 have hk : ∀ x, (x ∈ keys hl ∨ x ∈ keys F) → x ∈ keys (hl ++ F) := fun x hx => by unfold keys at *; rw [map_append, mem_append]; exact hx
 simp only [iE, Bool.and_eq_true];refine ⟨⟨dV fun x hx => hk x (h1 x hx), dV (mT hF h2)⟩, ?_⟩;rw [all_append, Bool.and_eq_true];exact ⟨h3, all_eq_true.2 fun p hp => (hF.ok p hp).1⟩
theorem FarEq.all {h : cF} {F : List (Nat × AObj)} (hf : FarEq h F) : dP (fun p => h p.1 = some p.2) F := dP.of hf
theorem aY.toR {P : Program} {f : FuncId} {args : List V} {id te es n : Nat} {elems : List (List C)} (h : aY P f args [] (.one (.hs id 0 n n)) [(id, .arr te es elems 0)]) : aY P f args [] (.one (.ra id 0 n n)) [(id, .rarr te es (elems.map (·.map R.c)))] := by
 intro S μ w vals hI hv;refine Calls.mono (h S μ w vals hI hv) ?_;rintro e w' ⟨S', μ', v, h1, h2, h3⟩;have key : ∀ {o : AObj} {j : Nat} {x : AObj}, look [(id, o)] j = some x → j = id ∧ x = o := by
  intro o j x hj;simp only [look] at hj;split at hj
  ·rename_i hb; cases hj; exact ⟨zq4 hb, rfl⟩
  ·cases hj
 have hid : ∀ o : AObj, look [(id, o)] id = some o := fun o => by simp [look]
 have hfl : (elems.map (·.map R.c)).flatten = elems.flatten.map R.c := by rw [List.map_flatten]
 refine ⟨S', μ', v, h1, ⟨h2.holds, fun j o hj => ?_, fun i j o o' b c c' hi hj _ _ => ?_, fun i o b c hi hm => ?_, h2.frame, h2.sle, h2.sto, ⟨h2.evo.le, fun j o hj => by cases hj⟩⟩, ?_⟩
 ·obtain ⟨rfl, rfl⟩ := key hj;obtain ⟨g0, g⟩ := h2.obj j _ (hid _);refine ⟨fun r hr => ?_, ?_⟩
  ·obtain ⟨r', hr', rfl⟩ := mem_map.1 hr;rw [length_map]; exact g0 r' hr'
  ·rcases g with ⟨g1, g2⟩ | ⟨b, base, cap, vs, g1, g2, g3, g4, g5, g6, g7, g8, g9⟩
   ·exact .inl ⟨g1, by rw [g2]; rfl⟩
   ·refine .inr ⟨b, base, cap, vs, g1, g2, g3, by rw [length_map]; exact g4, g5, ?_, g7 rfl⟩;rw [hfl, length_map];exact g6.toR
 ·rw [(key hi).1, (key hj).1]
 ·obtain ⟨rfl, rfl⟩ := key hi;exact h2.own i _ b c (hid _) hm
 ·simp only [aV, b8] at h3 ⊢;obtain ⟨k0, k | ⟨te', es', el', fz', k1, k2, k3⟩⟩ := h3
  ·rw [hid] at k; cases k
  ·rw [hid] at k1; cases k1;refine ⟨k0, .inr ⟨te, es, _, hid _, by rw [length_map]; exact k2, fun e => ?_⟩⟩;rw [length_map] at e;obtain ⟨q1, q2⟩ := k3 e;refine ⟨q1, ?_⟩;rcases q2 with ⟨q2, q3, q4⟩ | q2
   ·exact .inl ⟨q2, by rw [q3]; rfl, q4⟩
   ·exact .inr q2
structure GW (G F : List (Nat × AObj)) : Prop where
 tf : TF F
 refs : ∀ x ∈ cQ G, x ∈ keys G ∨ x ∈ keys F
 near : (G.all fun p => Nat.blt p.1 800) = true
 plain : (G.all fun p => p.2.plain) = true
theorem gE {α : Type} {a b : List (Nat × α)} {x : Nat} : x ∈ keys (a ++ b) ↔ x ∈ keys a ∨ x ∈ keys b := by unfold keys; rw [map_append, mem_append]
theorem GW.kf {G F : List (Nat × AObj)} : ∀ i ∈ keys (G ++ F), i ∈ keys G ∨ i ∈ keys F := fun _ h => gE.1 h
def Kn (ex G F : List (Nat × AObj)) (x : Nat) : Prop := x ∈ keys ex ∨ x ∈ keys G ∨ x ∈ keys F
theorem Kn.of {l : List Nat} {ex G F : List (Nat × AObj)} (h : subset l (keys ex ++ keys G) = true) : ∀ x ∈ l, Kn ex G F x := fun x hx => by
 rcases mem_append.1 (bM h x hx) with h | h
 ·exact .inl h
 ·exact .inr (.inl h)
theorem Kn.app {a b : List Nat} {ex G F : List (Nat × AObj)} (h : ∀ x ∈ a, Kn ex G F x) (k : ∀ x ∈ b, Kn ex G F x) : ∀ x ∈ a ++ b, Kn ex G F x := fun x hx => (mem_append.1 hx).elim (h x) (k x)
def GF (G F : List (Nat × AObj)) (l : List Nat) : Prop := ∀ x ∈ l, x ∈ keys G ∨ x ∈ keys F
theorem Kn.gf {l : List Nat} {ex G F : List (Nat × AObj)} (h : GF G F l) : ∀ x ∈ l, Kn ex G F x := fun x hx => .inr (h x hx)
theorem GF.app {G F : List (Nat × AObj)} {a b : List Nat} (h : GF G F a) (k : GF G F b) : GF G F (a ++ b) := fun x hx => (mem_append.1 hx).elim (h x) (k x)
theorem Kn.nil {ex G F : List (Nat × AObj)} : ∀ x ∈ ([] : List Nat), Kn ex G F x := fun _ h => by cases h
theorem xP {ex : List (Nat × AObj)} {p : Nat → Prop} (h : dP (fun q => ∀ x ∈ q.2.refs, p x) ex) : ∀ x ∈ cQ ex, p x := by
 induction ex with
 | nil => intro x hx; cases hx
 | cons q l ih =>
  intro x hx;rcases mem_append.1 (show x ∈ q.2.refs ++ cQ l from hx) with hx | hx
  ·exact h.1 x hx
  ·exact ih h.2 x hx
theorem Kn.split {ex G F : List (Nat × AObj)} {x : Nat} (h : Kn ex G F x) : x ∈ keys (ex ++ G) ∨ x ∈ keys F := by
 rcases h with h | h | h
 ·exact .inl (gE.2 (.inl h))
 ·exact .inl (gE.2 (.inr h))
 ·exact .inr h
theorem GW.all {ex G F : List (Nat × AObj)} (W : GW G F) (h2 : dP (fun q => ∀ x ∈ q.2.refs, Kn ex G F x) ex) : ∀ x ∈ cQ (ex ++ G), x ∈ keys (ex ++ G) ∨ x ∈ keys F := fun x hx => by
 rw [hD] at hx;rcases mem_append.1 hx with hx | hx
 ·exact (xP h2 x hx).split
 ·exact (W.refs x hx).imp (fun h => gE.2 (.inr h)) id
theorem slG {kf : List Nat} {st1 : St} {el : List (Nat × V)} {ex G F : List (Nat × AObj)} (W : GW G F)
  (h4 : ∀ i ∈ kf, i ∈ keys G ∨ i ∈ keys F := by exact Go.AM.GW.kf)
  (hf : FarEq st1.h F := by repeat (first | exact Go.AM.FarEq.raw (by assumption) | (refine Go.AM.FarEq.updL (by assumption) ?_) | (refine Go.AM.FarEq.upd (by assumption) ?_) | (refine Go.AM.FarEq.hfz (by assumption) ?_)))
  (h1 : ∀ x ∈ mV el, Kn ex G F x := by exact Go.AM.Kn.of rfl)
  (h2 : dP (fun q => ∀ x ∈ q.2.refs, Kn ex G F x) ex := by repeat (first | exact trivial | refine ⟨by first | exact Go.AM.Kn.of rfl | exact Go.AM.Kn.gf (by assumption), ?_⟩))
  (he : dP (fun p => st1.e p.1 = some (p.2.ren (fun i => i))) el := by repeat (first | exact trivial | refine ⟨by first | rfl | exact congrArg some (V.ren_id _).symm, ?_⟩))
  (hh : dP (fun p => ∃ o, st1.h p.1 = some o ∧ Ole (fun i => i) o p.2) (ex ++ G) := by repeat (first | exact trivial | refine ⟨⟨_, rfl, by first | exact Go.AM.Ole.arr | exact Go.AM.Ole.var rfl | exact Go.AM.Ole.varS rfl | exact Go.AM.Ole.map | exact Go.AM.Ole.rarrS rfl⟩, ?_⟩))
  (hd : st1.d = [] := by rfl) (h3 : distinct ((ex ++ G).map (·.1)) = true := by rfl) (h3' : ((ex ++ G).all fun p => Nat.blt p.1 800) = true := by rfl) : Sub kf (mkt el (ex ++ G) F) st1 :=
 slT W.tf hf (fun x hx => (h1 x hx).split) (W.all h2) (fun i hi => (h4 i hi).imp (fun h => gE.2 (.inr h)) id) he hh hd h3 h3'
theorem rtG {T : TT} {fn : Func} {st : St} {G F : List (Nat × AObj)} {res : V} {t : Nat} (W : GW G F) (hr : fn.results.toList = [.tmp t] := by rfl) (hv : st.e t = some res := by rfl)
  (hf : FarEq st.h F := by repeat (first | exact Go.AM.FarEq.raw (by assumption) | (refine Go.AM.FarEq.updL (by assumption) ?_) | (refine Go.AM.FarEq.upd (by assumption) ?_) | (refine Go.AM.FarEq.hfz (by assumption) ?_)))
  (h1 : ∀ x ∈ res.refs, Kn [] G F x := by exact Go.AM.Kn.of rfl)
  (hh : dP (fun p => ∃ o, st.h p.1 = some o ∧ Ole (fun i => i) o p.2) G := by repeat (first | exact trivial | refine ⟨⟨_, rfl, by first | exact Go.AM.Ole.arr | exact Go.AM.Ole.var rfl | exact Go.AM.Ole.varS rfl | exact Go.AM.Ole.map | exact Go.AM.Ole.rarrS rfl⟩, ?_⟩))
  (h3 : distinct (G.map (·.1)) = true := by rfl) : (Exit.ret = .normal ∨ Exit.ret = .ret) ∧ Fin T fn st (G ++ F) res (G ++ F) := by
 refine ⟨.inr rfl, aBp W.tf hf ⟨[res], [res], by rw [hr]; exact .tmp hv .nil, .cons .refl .nil, rfl⟩ (fun x hx => (h1 x hx).split) (fun x hx => W.refs x hx) GW.kf (fun p hp => ?_) hh h3 W.near W.plain⟩;rcases mem_append.1 hp with hp | hp
 ·exact (all_eq_true.1 W.plain) p hp
 ·exact (W.tf.ok p hp).2
theorem kix {tr : Tr} {P : Program} {n : Nat} {ops : Array Oper} {draw : Bool} {k d : Nat} {st : St} {pre : REs} {Q : St → Prop} {o : Oper} {t te : TypeId} {i ei : TI} {x y : Operand} {id len sz j es te' fz : Nat} {kk : IntKind} {elems : List (List C)} (hT : Tok P tr.flat)
  (hh : st.h id = some (.arr te' es elems fz)) (hx : opv st x = some (.one (.hs id 0 len sz))) (hsz : sz = elems.length) (hlt : j < len)
  (hk : jV P n ops draw (k + 1) ⟨upd st.e d (some (.one (.ep id j 0 sz))), st.h, st.d⟩ ((⟨opr x ++ opr y, [id]⟩, ⟨some (d, some (.one (.ep id j 0 sz))), []⟩) :: pre) Q)
  (hw : tr.wf = true) (ho : ops[k]? = some o := by rfl) (hg : o.guard = none := by rfl) (hop : o.op = .indexAddr t x y := by rfl) (hd : o.dst = some d := by rfl) (hdn : Nat.blt d n = true := by rfl)
  (hi : tr.get t = some i := by rfl) (hik : i.k = .sl te := by rfl) (hei : tr.get te = some ei := by rfl) (hes : ei.size = es := by rfl) (hy : opv st y = some (I kk (j : Int)) := by rfl) : jV P n ops draw k st pre Q := by
 have h := sG (P := P) (n := n) hT hop hd (eQ hdn) (Tr.get_ok hw hi) hik (Tr.get_ok hw hei) hes hx hh hsz hy rfl hlt;rw [zero_add] at h;exact k_ (g_ ho hg h) hk
theorem a09 {tr : Tr} {P : Program} {n : Nat} {ops : Array Oper} {draw : Bool} {k d : Nat} {st : St} {pre : REs} {Q : St → Prop} {o : Oper} {t te : TypeId} {i : TI} {x : Operand} {id off len sz es te' fz : Nat} {elems : List (List C)} (hT : Tok P tr.flat)
  (hh : st.h id = some (.arr te' es elems fz)) (hx : opv st x = some (.one (.hs id off len sz))) (hsz : sz = elems.length)
  (hk : jV P n ops draw (k + 1) ⟨upd st.e d (some (I .i64 (len : Int))), st.h, st.d⟩ ((⟨opr x, [id]⟩, ⟨some (d, some (I .i64 (len : Int))), []⟩) :: pre) Q)
  (hw : tr.wf = true) (ho : ops[k]? = some o := by rfl) (hg : o.guard = none := by rfl) (hop : o.op = .call { callee := .builtin .len, args := #[x], argTypes := #[t] } := by rfl) (hd : o.dst = some d := by rfl) (hdn : Nat.blt d n = true := by rfl)
  (hi : tr.get t = some i := by rfl) (hik : i.k = .sl te := by rfl) : jV P n ops draw k st pre Q :=
 k_ (g_ ho hg (aDt (P := P) (n := n) hT hop hd (eQ hdn) (Tr.get_ok hw hi) hik hx hh hsz)) hk
def fzH (id : Nat) (z : Fz) : List (Nat × AObj) → List (Nat × AObj)
 | [] => []
 | (k, o) :: l => (k, o.fz id z) :: fzH id z l
theorem aEh {id : Nat} {z : Fz} : ∀ {l : List (Nat × V)} {t : Nat}, look (fzE id z l) t = (look l t).map (V.fz id z)
 | [], _ => rfl
 | (k, v) :: l, t => by
  simp only [fzE, look];cases Nat.beq t k
  ·simpa using aEh (l := l) (t := t)
  ·rfl
theorem vS {id : Nat} {z : Fz} : ∀ {l : List (Nat × AObj)} {t : Nat}, look (fzH id z l) t = (look l t).map (AObj.fz id z)
 | [], _ => rfl
 | (k, v) :: l, t => by
  simp only [fzH, look];cases Nat.beq t k
  ·simpa using vS (l := l) (t := t)
  ·rfl
section
variable {id n es : Nat} {l : List R}
mutual
theorem R.fz_far : ∀ (r : R), id ∉ r.refs → r.fz id (.ra n es l) = r
 | .c _, _ => rfl
 | .hs .., _ => rfl
 | .tl .., _ => rfl
 | .vp .., _ => rfl
 | .ep .., _ => rfl
 | .mr _, _ => rfl
 | .clo f caps, h => by simp only [R.fz, R.fzL_far caps (by simpa only [R.refs] using h)]
 | .mth f x, h => by simp only [R.fz, R.fz_far x (by simpa only [R.refs] using h)]
 | .yl _, _ => rfl
 | .ra j off len sz, h => by
  have hj : j ≠ id := fun e => h (by simp [R.refs, e])
  have hb : Nat.beq j id = false := by
   cases hb : Nat.beq j id with
   | false => rfl
   | true => exact absurd (zq4 hb) hj
  simp [R.fz, hb]
 | .rp j i fo sz, h => by
  have hj : j ≠ id := fun e => h (by simp [R.refs, e])
  have hb : Nat.beq j id = false := by
   cases hb : Nat.beq j id with
   | false => rfl
   | true => exact absurd (zq4 hb) hj
  simp [R.fz, hb]
 | .ras m e r, h => by simp only [R.fz, R.fzL_far r (by simpa only [R.refs] using h)]
 | .pas r, h => by simp only [R.fz, R.fzL_far r (by simpa only [R.refs] using h)]
theorem R.fzL_far : ∀ (r : List R), id ∉ R.refsL r → R.fzL id (.ra n es l) r = r
 | [], _ => rfl
 | r :: rs, h => by
  simp only [R.refsL, mem_append, not_or] at h;simp only [R.fzL, R.fz_far r h.1, R.fzL_far rs h.2]
end
theorem r5 : ∀ (r : List (List R)), id ∉ bX r → fzR id (.ra n es l) r = r
 | [], _ => rfl
 | r :: rs, h => by
  simp only [bX, mem_append, not_or] at h;simp only [fzR, R.fzL_far r h.1, r5 rs h.2]
theorem aOf {m : Nat} (h : m = n) : R.fz id (.ra n es l) (.ra id 0 m m) = .ras n es l := by subst h; simp [R.fz]
end
theorem Sub.fraT {kf : List Nat} {el : List (Nat × V)} {rest F : List (Nat × AObj)} {id te es : Nat} {rows : List (List R)} (hF : TF F) (hkf : id ∉ kf) (hs0 : id ∉ bX rows) (hlt : Nat.blt id 800 = true := by rfl) (hnd : distinct (id :: rest.map (·.1)) = true := by rfl) :
  Sub kf (mkt (fzE id (.ra rows.length es rows.flatten) el) (fzH id (.ra rows.length es rows.flatten) rest) F) (mkt el ((id, .rarr te es rows) :: rest) F) := by
 have hs1 : id ∉ R.refsL rows.flatten := by
  have key : ∀ l : List (List R), R.refsL l.flatten = bX l := by
   intro l
   induction l with
   | nil => rfl
   | cons r l ih => rw [flatten_cons, R.refsL_append, ih]; rfl
  rw [key]; exact hs0
 have h := Sub.fra (kf := kf) (st := mkt el ((id, .rarr te es rows) :: rest) F) (id := id) (te := te) (es := es) (elems := rows) (by
  show (match look ((id, AObj.rarr te es rows) :: rest) id with | some x => some x | none => _) = _
  rw [cR]) hkf (R.fzL_far _ hs1) hs1
 have e : (⟨fun t => ((mkt el ((id, .rarr te es rows) :: rest) F).e t).map (V.fz id (.ra rows.length es rows.flatten)), hfz id (.ra rows.length es rows.flatten) (mkt el ((id, .rarr te es rows) :: rest) F).h, (mkt el ((id, .rarr te es rows) :: rest) F).d⟩ : St) =
   mkt (fzE id (.ra rows.length es rows.flatten) el) (fzH id (.ra rows.length es rows.flatten) rest) F := by
  unfold mkt;congr 1
  ·funext t; exact aEh.symm
  ·funext j;have hnd' := cY hnd;simp only [nodup_cons] at hnd';have hid := zq5 hlt;by_cases hj : j = id
   ·subst hj;rw [aQs, vS, gJ hnd'.1, Option.map_none];simp only [hlt, cond_true]
   ·rw [j4 hj];show Option.map _ (match look ((id, AObj.rarr te es rows) :: rest) j with | some x => some x | none => bif Nat.blt j 800 then none else look F j) = _;rw [dD hj, vS];cases look rest j with
    | some x => rfl
    | none =>
     simp only [Option.map_none];by_cases h8 : j < 800
     ·simp only [aGm h8, cond_true, Option.map_none]
     ·simp only [zH (Nat.le_of_not_lt h8), cond_false];cases hl : look F j with
      | none => rfl
      | some o =>
       obtain ⟨te', es', l', z', ho⟩ := hF.arr _ (c6 hl);have ho : o = _ := ho;subst ho; rfl
 rw [e] at h;exact h
end Go.AM
namespace Go.Proofs.YtmoekkcdkjopgaaGreatDoor
open Go Go.AM
set_option maxRecDepth 20000
def dL (f n : Int) (s : Str) (t : Ty) (nk nb na : Nat) : List R := [.c (.int .i64 f), .c (.int .i64 n), .c (.str s), .c (.int .i64 t.form), .c (.int .i64 t.n), .c (.str t.name), .c (.sl 4 (gM t)), .hs 702 0 nk nk, .hs 701 0 nb nb, .ra 703 0 na na]
def cW (k : Nat) (a : Alt) : List R := [.c (.int .i64 a.form), .c (.int .i64 a.n), .c (.str a.name), .hs (k + 800) 0 a.vars.length a.vars.length] ++ (aA a.body).map R.c
def aT : Nat → List Alt → List (List R)
 | _, [] => []
 | k, a :: l => cW k a :: aT (k + 1) l
def fam : Nat → List Alt → List (Nat × AObj)
 | _, [] => []
 | k, a :: l => (k + 800, .arr 9 1 (a.vars.map bG) 0) :: fam (k + 1) l
theorem lM : ∀ {l : List Alt} {k i : Nat} {a : Alt}, l[i]? = some a → (aT k l)[i]? = some (cW (k + i) a)
 | b :: l, k, 0, a, h => by simp at h; subst h; rfl
 | b :: l, k, i + 1, a, h => by
  simp only [aT, List.getElem?_cons_succ];rw [lM (by simpa using h), show k + 1 + i = k + (i + 1) by omega]
theorem dJ : ∀ {l : List Alt} {k : Nat}, (aT k l).length = l.length
 | [], _ => rfl
 | _ :: l, k => by simp [aT, dJ (l := l)]
theorem yN : ∀ {l : List Alt} {k i : Nat} {a : Alt}, l[i]? = some a → (k + i + 800, AObj.arr 9 1 (a.vars.map bG) 0) ∈ fam k l
 | b :: l, k, 0, a, h => by simp at h; subst h; exact zq2
 | b :: l, k, i + 1, a, h => by
  have := yN (l := l) (k := k + 1) (by simpa using h);rw [show k + 1 + i = k + (i + 1) by omega] at this;exact zq3 _ this
theorem mL : ∀ {l : List Alt} {k : Nat} {p : Nat × AObj}, p ∈ fam k l → ∃ i a, l[i]? = some a ∧ p = (k + i + 800, AObj.arr 9 1 (a.vars.map bG) 0)
 | b :: l, k, p, h => by
  rcases mem_cons.1 h with rfl | h
  ·exact ⟨0, b, rfl, rfl⟩
  ·obtain ⟨i, a, h1, h2⟩ := mL h;exact ⟨i + 1, a, h1, by rw [h2, show k + 1 + i = k + (i + 1) by omega]⟩
theorem kQ : ∀ {l : List Alt} {k : Nat}, ((fam k l).map (·.1)).Nodup
 | [], _ => nodup_nil
 | a :: l, k => by
  simp only [fam, map_cons];refine nodup_cons.2 ⟨fun h => ?_, kQ⟩;obtain ⟨p, hp, e⟩ := mem_map.1 h;obtain ⟨i, b, _, rfl⟩ := mL hp;simp only at e; omega
theorem eX {l : List Alt} {k : Nat} : TF (fam k l) := ⟨fun p hp => by obtain ⟨i, a, _, rfl⟩ := mL hp; simp only; omega, kQ, fun p hp => by obtain ⟨i, a, _, rfl⟩ := mL hp; exact ⟨_, _, _, _, rfl⟩⟩
theorem aKp {l : List Alt} {k i : Nat} (h : i < l.length) : k + i + 800 ∈ keys (fam k l) := by
 obtain ⟨a, ha⟩ := aL h;exact mem_map.2 ⟨_, yN ha, rfl⟩
theorem oR {k : Nat} {a : Alt} {x : Nat} (h : x ∈ R.refsL (cW k a)) : x = k + 800 := by
 unfold cW aA at h;simpa [R.refsL, R.refs] using h
theorem cM : ∀ {l : List Alt} {k : Nat}, ∀ x ∈ bX (aT k l), x ∈ keys (fam k l)
 | [], _, x, h => by simp [aT, bX] at h
 | a :: l, k, x, h => by
  rcases mem_append.1 (show x ∈ R.refsL (cW k a) ++ bX (aT (k + 1) l) from h) with h | h
  ·rw [oR h]; exact zq2
  ·exact zq3 _ (cM x h)
def gHl (f n : Int) (s : Str) (t : Ty) (ks : List Core) (bs : List Bind) (al : List Alt) : List (Nat × AObj) :=
 [(700, .var 37 (dL f n s t ks.length bs.length al.length)), (701, .arr 73 15 (aO bs) 0), (702, .arr 37 10 (aQ ks) 0), (703, .rarr 78 14 (aT 0 al))]
theorem pS {f n : Int} {s : Str} {t : Ty} {ks : List Core} {bs : List Bind} {al : List Alt} : ∀ x ∈ cQ (gHl f n s t ks bs al), x ∈ keys (gHl f n s t ks bs al) ∨ x ∈ keys (fam 0 al) := fun x hx => by
 simp only [gHl, cQ, AObj.refs, dL, R.refsL, R.refs, nil_append, append_nil, mem_append, mem_cons, not_mem_nil, or_false, false_or] at hx;rcases hx with (rfl | rfl | rfl) | hx
 ·exact .inl (by simp [gHl, keys])
 ·exact .inl (by simp [gHl, keys])
 ·exact .inl (by simp [gHl, keys])
 ·exact .inr (cM x hx)
theorem gW {f n : Int} {s : Str} {t : Ty} {ks : List Core} {bs : List Bind} {al : List Alt} : GW (gHl f n s t ks bs al) (fam 0 al) := ⟨eX, pS, rfl, rfl⟩
def gNm : Bool → List (List R)
 | true => [[.vp 700 2]]
 | false => []
def gPo (rows : List (List R)) : AObj := .rarr 116 1 rows
def gNo (rows : List (List R)) : AObj := .rarr 167 1 rows
def rgR (f : Nat → List R) (k : Nat) : List (List R) := (List.range k).map f
theorem pE (f : Nat → List R) (k : Nat) : rgR f (k + 1) = rgR f k ++ [f k] := by unfold rgR; rw [List.range_succ, map_append]; rfl
theorem fN (f : Nat → List R) (k : Nat) : (rgR f k).length = k := by simp [rgR]
theorem l6 {f : Nat → List R} {L : Nat → Prop} (h : ∀ j, ∀ x ∈ R.refsL (f j), L x) (k : Nat) : ∀ x ∈ bX (rgR f k), L x := by
 have key : ∀ rows : List (List R), (∀ r ∈ rows, ∀ x ∈ R.refsL r, L x) → ∀ x ∈ bX rows, L x := by
  intro rows
  induction rows with
  | nil => intro _ x hx; simp [bX] at hx
  | cons r rows ih =>
   intro hr x hx;rcases mem_append.1 (show x ∈ R.refsL r ++ bX rows from hx) with hx | hx
   ·exact hr r zq2 x hx
   ·exact ih (fun q hq => hr q (zq3 _ hq)) x hx
 refine key _ fun r hr => ?_
 obtain ⟨j, _, rfl⟩ := mem_map.1 hr;exact h j
def nR (b : Bool) (nb i : Nat) : List (List R) := gNm b ++ rgR (fun j => [.ep 701 j 0 nb]) i
def pR (nk nb i : Nat) : List (List R) := rgR (fun j => [.ep 702 j 0 nk]) nk ++ rgR (fun j => [.ep 701 j 5 nb]) i
def vR (k nv i : Nat) : List (List R) := rgR (fun j => [.ep (k + 800) j 0 nv]) i
def l3 (na k : Nat) (a : Alt) : List R := [.ras (vR k a.vars.length a.vars.length).length 1 (vR k a.vars.length a.vars.length).flatten, .ras 1 1 [.rp 703 k 4 na]]
def aFf (na : Nat) : Nat → List Alt → List (List R)
 | _, [] => []
 | k, a :: l => l3 na k a :: aFf na (k + 1) l
def o8 (b : Bool) (nk nb : Nat) : List R := [.ras (nR b nb nb).length 1 (nR b nb nb).flatten, .ras (pR nk nb nb).length 1 (pR nk nb nb).flatten]
def bY (b : Bool) (nk nb na : Nat) (l : List Alt) : List (List R) := o8 b nk nb :: aFf na 0 l
theorem wP {na : Nat} : ∀ {l : List Alt} {k : Nat}, (aFf na k l).length = l.length
 | [], _ => rfl
 | _ :: l, k => by simp [aFf, wP (l := l)]
theorem zV {na : Nat} : ∀ {l : List Alt} {k i : Nat} {a : Alt}, l[i]? = some a → aFf na k (l.take (i + 1)) = aFf na k (l.take i) ++ [l3 na (k + i) a]
 | b :: l, k, 0, a, h => by simp at h; subst h; simp [aFf]
 | b :: l, k, i + 1, a, h => by
  simp only [take_succ_cons, aFf, cons_append];rw [zV (l := l) (k := k + 1) (by simpa using h), show k + 1 + i = k + (i + 1) by omega]
theorem aL1 {na : Nat} : ∀ {l : List Alt} {k i : Nat} {a : Alt}, l[i]? = some a → (aFf na k l)[i]? = some (l3 na (k + i) a)
 | b :: l, k, 0, a, h => by simp at h; subst h; rfl
 | b :: l, k, i + 1, a, h => by
  simp only [aFf, List.getElem?_cons_succ];rw [aL1 (by simpa using h), show k + 1 + i = k + (i + 1) by omega]
theorem cP : ∀ {rows : List (List R)}, R.refsL rows.flatten = bX rows
 | [] => rfl
 | r :: rows => by
  rw [flatten_cons, R.refsL_append, cP]; rfl
theorem aOd {G F : List (Nat × AObj)} {f : Nat → List R} (h : ∀ j, GF G F (R.refsL (f j))) (k : Nat) : GF G F (bX (rgR f k)) := l6 h k
theorem iW : ∀ (a b : List (List R)), bX (a ++ b) = bX a ++ bX b
 | [], _ => rfl
 | r :: a, b => by simp only [cons_append, bX, iW a b, append_assoc]
section
variable {f n : Int} {s : Str} {t : Ty} {ks : List Core} {bs : List Bind} {al : List Alt}
abbrev gfo (f n : Int) (s : Str) (t : Ty) (ks : List Core) (bs : List Bind) (al : List Alt) (l : List Nat) : Prop := GF (gHl f n s t ks bs al) (fam 0 al) l
theorem a0u (nk i : Nat) : gfo f n s t ks bs al (bX (rgR (fun j => [.ep 702 j 0 nk]) i)) := aOd (fun j x hx => .inl (by
 have : x = 702 := by simpa [R.refsL, R.refs] using hx
 subst this; simp [gHl, keys])) i
theorem aQt (b : Bool) (nb i : Nat) : gfo f n s t ks bs al (bX (nR b nb i)) := by
 unfold nR;rw [iW];refine GF.app ?_ (aOd (fun j x hx => .inl ?_) i)
 ·cases b
  ·exact fun x hx => by simp [gNm, bX] at hx
  ·intro x hx;have : x = 700 := by simpa [gNm, bX, R.refsL, R.refs] using hx
   subst this; exact .inl (by simp [gHl, keys])
 ·have : x = 701 := by simpa [R.refsL, R.refs] using hx
  subst this; simp [gHl, keys]
theorem aMn (nk nb i : Nat) : gfo f n s t ks bs al (bX (pR nk nb i)) := by
 unfold pR;rw [iW];refine GF.app (a0u _ _) (aOd (fun j x hx => .inl ?_) i);have : x = 701 := by simpa [R.refsL, R.refs] using hx
 subst this; simp [gHl, keys]
theorem aY4 {k : Nat} (hk : k < al.length) (nv i : Nat) : gfo f n s t ks bs al (bX (vR k nv i)) := by
 unfold vR;refine aOd (fun j x hx => .inr ?_) i;have : x = k + 800 := by simpa [R.refsL, R.refs] using hx
 subst this;have := aKp (k := 0) hk;rwa [zero_add] at this
theorem aWz {k : Nat} (hk : k < al.length) (a : Alt) : gfo f n s t ks bs al (R.refsL (l3 al.length k a)) := by
 unfold l3;simp only [R.refsL, R.refs, cP, append_nil];refine GF.app (aY4 hk _ _) fun x hx => .inl ?_
 have : x = 703 := by simpa using hx
 subst this; simp [gHl, keys]
theorem aJ5 : ∀ {l : List Alt} {k : Nat}, k + l.length ≤ al.length → gfo f n s t ks bs al (bX (aFf al.length k l))
 | [], _, _ => fun x hx => by simp [aFf, bX] at hx
 | a :: l, k, h => by
  simp only [length_cons] at h;exact GF.app (aWz (by omega) a) (aJ5 (by omega))
theorem mI (b : Bool) (i : Nat) : gfo f n s t ks bs al (bX (bY b ks.length bs.length al.length (al.take i))) := by
 unfold bY;refine GF.app ?_ (aJ5 (by simp; omega));unfold o8;simp only [R.refsL, R.refs, cP, append_nil];exact GF.app (aQt _ _ _) (aMn _ _ _)
end
theorem iS {f n : Int} {s : Str} {t : Ty} {ks : List Core} {bs : List Bind} {al : List Alt} {l : List Nat} (h : gfo f n s t ks bs al l) {id : Nat} (h1 : 703 < id) (h2 : id < 800) : id ∉ l := fun hx => by
 rcases h id hx with h | h
 ·have : id = 700 ∨ id = 701 ∨ id = 702 ∨ id = 703 := by simpa [gHl, keys] using h
  omega
 ·obtain ⟨p, hp, e⟩ := mem_map.1 h;have := eX.far p hp;omega
theorem aW3 {f n : Int} {s : Str} {t : Ty} {ks : List Core} {bs : List Bind} {al : List Alt} {id : Nat} (h1 : 703 < id) (h2 : id < 800) : id ∉ keys (gHl f n s t ks bs al ++ fam 0 al) := iS (fun x hx => gE.1 hx) h1 h2
theorem r6 {f n : Int} {s : Str} {t : Ty} {ks : List Core} {bs : List Bind} {al : List Alt} {id m es : Nat} {l : List R} (h1 : 703 < id) (h2 : id < 800) : fzH id (.ra m es l) (gHl f n s t ks bs al) = gHl f n s t ks bs al := by
 have hb : Nat.beq 703 id = false := by
  cases hb : Nat.beq 703 id with
  | false => rfl
  | true => have := zq4 hb; omega
 have hr : id ∉ bX (aT 0 al) := iS (fun x hx => .inr (cM x hx)) h1 h2 (f := f) (n := n) (s := s) (t := t) (ks := ks) (bs := bs);simp only [gHl, fzH, AObj.fz, dL, R.fzL, R.fz, hb, r5 _ hr, Bool.false_eq_true, if_false]
theorem rD (b : Bool) (f n : Int) (s : Str) (t : Ty) (ks : List Core) (bs : List Bind) (al : List Alt) (hb5 : decide (f = 5) = b) (hk : ks.length ≤ 600000000000) (hb : bs.length ≤ 600000000000) (ha : al.length ≤ 600000000000) (hv : ∀ a ∈ al, a.vars.length ≤ 600000000000) :
  aY Tryz.prog 66 [.one (.vp 700 0)] (gHl f n s t ks bs al ++ fam 0 al) (.one (.ras (bY b ks.length bs.length al.length al).length 2 (bY b ks.length bs.length al.length al).flatten)) (gHl f n s t ks bs al ++ fam 0 al) := by
 have hF : TF (fam 0 al) := eX;have W : GW (gHl f n s t ks bs al) (fam 0 al) := gW;have hkB : (aO bs).length = bs.length := by rw [bD, length_map]
 have hkK : (aQ ks).length = ks.length := by rw [bB, length_map]
 refine rS hF (n := 123) tok Tryz.func66 rfl rfl rfl ?_;refine a8 (ag [] rfl ?_);refine a8 (ag [] rfl ?_);refine AWp.sub (Sub.ownCellR (x := 3) (k := 1) (id := 712) 116 1 rfl rfl rfl) (AWp.sub (Sub.ownCellR (x := 3) (k := 0) (id := 711) 167 1 rfl rfl rfl) ?_);refine a8 (a8 (ag [] rfl ?_));refine aC ?_;refine aJ (fun i : Nat => mkt [(0, .one (.vp 700 0)), (3, .one (.vp 3 0)), (16, I .i64 ((ks.length : Nat) : Int)), (17, I .i64 i)] ([(712, gPo (rgR (fun j => [.ep 702 j 0 ks.length]) i)), (3, .var 125 [.ra 711 0 0 0, .ra 712 0 (rgR (fun j => [.ep 702 j 0 ks.length]) i).length (rgR (fun j => [.ep 702 j 0 ks.length]) i).length]), (711, gNo [])] ++ gHl f n s t ks bs al) (fam 0 al)) (fun i => i ≤ ks.length) (fun i => ks.length - i) 0 (zero_le _) (slG W) ?_;intro i hi;have hpl := fN (fun j => [.ep 702 j 0 ks.length]) i;refine a8 (ag [] rfl ?_);refine a8 (aB rfl (fun hb => ?_) (fun hb => ?_))
 ·have hlt : i < ks.length := by
   have : (i : Int) < (ks.length : Int) := zq0 hb;omega
  have hst := pE (fun j => [.ep 702 j 0 ks.length]) i;have hr : gfo f n s t ks bs al (gPo (rgR (fun j => [.ep 702 j 0 ks.length]) (i + 1))).refs := a0u _ _;refine aD ?_;refine a8 (aC (a8 (ag [] rfl ?_)));refine ag [] rfl ?_;refine ag [] rfl ?_;refine ⟨i + 1, hlt, by dsimp only; omega, ?_⟩;dsimp only;rw [hst] at hr ⊢;refine slG W (hh := ⟨⟨_, rfl, .rarrS rfl⟩, ⟨_, rfl, .var ?_⟩, ⟨_, rfl, .rarrS rfl⟩, ⟨_, rfl, .var rfl⟩, ⟨_, rfl, .arr⟩, ⟨_, rfl, .arr⟩, ⟨_, rfl, .rarrS rfl⟩, trivial⟩);rw [length_append];rfl
 have hge : i = ks.length := by
  have : ¬ (i : Int) < (ks.length : Int) := zq1 hb;omega
 subst hge;clear hi hb hpl;have e0 : rgR (fun j => [.ep 702 j 0 ks.length]) ks.length = pR ks.length bs.length 0 := by simp [pR, rgR]
 rw [e0];have hr12 : gfo f n s t ks bs al (gPo (pR ks.length bs.length 0)).refs := aMn _ _ _;have hr11 : gfo f n s t ks bs al (gNo (nR b bs.length 0)).refs := aQt _ _ _;refine aK ?_;refine a8 (AWp.cut (mkt [(0, .one (.vp 700 0)), (3, .one (.vp 3 0))] ([(712, gPo (pR ks.length bs.length 0)), (3, .var 125 [.ra 711 0 (nR b bs.length 0).length (nR b bs.length 0).length, .ra 712 0 (pR ks.length bs.length 0).length (pR ks.length bs.length 0).length]), (711, gNo (nR b bs.length 0))] ++ gHl f n s t ks bs al) (fam 0 al)) ?_ ?_)
 ·refine a8 (ag [] rfl ?_);refine aB rfl (fun hb => ?_) (fun hb => ?_)
  ·have hb : decide (f = 5) = true := hb;rw [hb] at hb5;subst hb5;exact ag [] rfl (slG W)
  ·have hb : decide (f = 5) = false := hb;rw [hb] at hb5;subst hb5;exact aD (slG W)
 clear hr11 hr12 e0;refine a8 (a8 (ag [] rfl ?_));refine aC ?_;refine aJ (fun i : Nat => mkt [(0, .one (.vp 700 0)), (3, .one (.vp 3 0)), (49, I .i64 ((bs.length : Nat) : Int)), (50, I .i64 i)] ([(712, gPo (pR ks.length bs.length i)), (3, .var 125 [.ra 711 0 (nR b bs.length i).length (nR b bs.length i).length, .ra 712 0 (pR ks.length bs.length i).length (pR ks.length bs.length i).length]), (711, gNo (nR b bs.length i))] ++ gHl f n s t ks bs al) (fam 0 al)) (fun i => i ≤ bs.length) (fun i => bs.length - i) 0 (zero_le _) (slG W (h2 := ⟨Kn.gf (aMn _ _ _), Kn.of rfl, Kn.gf (aQt _ _ _), trivial⟩)) ?_;intro i hi;have hpl : (pR ks.length bs.length i).length = ks.length + i := by unfold pR; rw [length_append, fN, fN]
 have hnl : (nR b bs.length i).length ≤ 1 + i := by unfold nR; rw [length_append, fN]; cases b <;> simp [gNm]
 refine a8 (ag [] rfl ?_);refine a8 (aB rfl (fun hb => ?_) (fun hb => ?_))
 ·have hlt : i < bs.length := by
   have : (i : Int) < (bs.length : Int) := zq0 hb;omega
  have hst1 : pR ks.length bs.length (i + 1) = pR ks.length bs.length i ++ [[.ep 701 i 5 bs.length]] := by unfold pR; rw [pE, append_assoc]
  have hst2 : nR b bs.length (i + 1) = nR b bs.length i ++ [[.ep 701 i 0 bs.length]] := by unfold nR; rw [pE, append_assoc]
  have hr12 : gfo f n s t ks bs al (gPo (pR ks.length bs.length (i + 1))).refs := aMn _ _ _;have hr11 : gfo f n s t ks bs al (gNo (nR b bs.length (i + 1))).refs := aQt _ _ _;refine aD ?_;refine a8 (aC (a8 (ag [] rfl ?_)));refine a8 (ag [] rfl ?_);refine ag [] rfl ?_;refine ag [] rfl ?_;refine ⟨i + 1, hlt, by dsimp only; omega, ?_⟩;dsimp only;rw [hst1, hst2] at *;refine slG W (hh := ⟨⟨_, rfl, .rarrS rfl⟩, ⟨_, rfl, .var ?_⟩, ⟨_, rfl, .rarrS rfl⟩, ⟨_, rfl, .var rfl⟩, ⟨_, rfl, .arr⟩, ⟨_, rfl, .arr⟩, ⟨_, rfl, .rarrS rfl⟩, trivial⟩);rw [length_append, length_append];rfl
 have hge : i = bs.length := by
  have : ¬ (i : Int) < (bs.length : Int) := zq1 hb;omega
 subst hge;clear hi hb;refine aK ?_;have hn1 : 711 ∉ bX (nR b bs.length bs.length) := iS (aQt (f := f) (n := n) (s := s) (t := t) (ks := ks) (bs := bs) (al := al) b bs.length bs.length) (by omega) (by omega);have hn2 : 712 ∉ bX (nR b bs.length bs.length) := iS (aQt (f := f) (n := n) (s := s) (t := t) (ks := ks) (bs := bs) (al := al) b bs.length bs.length) (by omega) (by omega);have hp1 : 711 ∉ bX (pR ks.length bs.length bs.length) := iS (aMn (f := f) (n := n) (s := s) (t := t) (ks := ks) (bs := bs) (al := al) ks.length bs.length bs.length) (by omega) (by omega);have hp2 : 712 ∉ bX (pR ks.length bs.length bs.length) := iS (aMn (f := f) (n := n) (s := s) (t := t) (ks := ks) (bs := bs) (al := al) ks.length bs.length bs.length) (by omega) (by omega);refine AWp.sub (st2 := mkt [(0, .one (.vp 700 0)), (3, .one (.vp 3 0))] ((712, gPo (pR ks.length bs.length bs.length)) :: ([(3, .var 125 [.ra 711 0 (nR b bs.length bs.length).length (nR b bs.length bs.length).length, .ra 712 0 (pR ks.length bs.length bs.length).length (pR ks.length bs.length bs.length).length]), (711, gNo (nR b bs.length bs.length))] ++ gHl f n s t ks bs al)) (fam 0 al)) (slG (ex := (712, _) :: [_, _]) W (h2 := ⟨Kn.gf (aMn _ _ _), Kn.of rfl, Kn.gf (aQt _ _ _), trivial⟩)) ?_;refine AWp.sub (Sub.fraT hF (aW3 (by omega) (by omega)) hp2) ?_;have e1 : fzH 712 (.ra (pR ks.length bs.length bs.length).length 1 (pR ks.length bs.length bs.length).flatten) ([(3, .var 125 [.ra 711 0 (nR b bs.length bs.length).length (nR b bs.length bs.length).length, .ra 712 0 (pR ks.length bs.length bs.length).length (pR ks.length bs.length bs.length).length]), (711, gNo (nR b bs.length bs.length))] ++ gHl f n s t ks bs al)
   = [(3, .var 125 [.ra 711 0 (nR b bs.length bs.length).length (nR b bs.length bs.length).length, .ras (pR ks.length bs.length bs.length).length 1 (pR ks.length bs.length bs.length).flatten]), (711, gNo (nR b bs.length bs.length))] ++ gHl f n s t ks bs al := by
  show (3, _) :: (711, AObj.rarr _ _ (fzR _ _ _)) :: fzH _ _ (gHl f n s t ks bs al) = _;rw [r6 (by omega) (by omega), r5 _ hn2];simp only [AObj.fz, R.fzL, aOf rfl];rfl
 rw [e1];refine AWp.sub (st2 := mkt [(0, .one (.vp 700 0)), (3, .one (.vp 3 0))] ((711, gNo (nR b bs.length bs.length)) :: ([(3, .var 125 [.ra 711 0 (nR b bs.length bs.length).length (nR b bs.length bs.length).length, .ras (pR ks.length bs.length bs.length).length 1 (pR ks.length bs.length bs.length).flatten])] ++ gHl f n s t ks bs al)) (fam 0 al)) (slG (ex := (711, _) :: [_]) W (h2 := ⟨Kn.gf (aQt _ _ _), Kn.app (Kn.of rfl) (Kn.app (by simp only [R.refs, cP]; exact Kn.gf (aMn _ _ _)) Kn.nil), trivial⟩)) ?_;refine AWp.sub (Sub.fraT hF (aW3 (by omega) (by omega)) hn1) ?_;have e2 : fzH 711 (.ra (nR b bs.length bs.length).length 1 (nR b bs.length bs.length).flatten) ([(3, .var 125 [.ra 711 0 (nR b bs.length bs.length).length (nR b bs.length bs.length).length, .ras (pR ks.length bs.length bs.length).length 1 (pR ks.length bs.length bs.length).flatten])] ++ gHl f n s t ks bs al)
   = [(3, .var 125 (o8 b ks.length bs.length))] ++ gHl f n s t ks bs al := by
  show (3, _) :: fzH _ _ (gHl f n s t ks bs al) = _;rw [r6 (by omega) (by omega)];simp only [AObj.fz, R.fzL, aOf rfl, R.fz_far (.ras (pR ks.length bs.length bs.length).length 1 (pR ks.length bs.length bs.length).flatten) (show 711 ∉ R.refsL (pR ks.length bs.length bs.length).flatten by rw [cP]; exact hp1)];rfl
 rw [e2];clear e1 e2 hn1 hn2 hp1 hp2 hpl hnl;have hgf : gfo f n s t ks bs al (bX (bY b ks.length bs.length al.length (al.take 0))) := mI b 0;have hal : al.length = (aT 0 al).length := dJ.symm;refine a8 (ag [(1, .id 713)] rfl ?_);refine a8 (a8 (ag [] rfl ?_));refine aC ?_;refine aJ (fun i : Nat => mkt [(0, .one (.vp 700 0)), (7, .one (.ra 713 0 (bY b ks.length bs.length al.length (al.take i)).length (bY b ks.length bs.length al.length (al.take i)).length)), (82, I .i64 ((al.length : Nat) : Int)), (83, I .i64 i)] ([(713, .rarr 125 2 (bY b ks.length bs.length al.length (al.take i)))] ++ gHl f n s t ks bs al) (fam 0 al)) (fun i => i ≤ al.length) (fun i => al.length - i) 0 (zero_le _) (slG W) ?_;intro i hi;have hgl : (bY b ks.length bs.length al.length (al.take i)).length = 1 + i := by unfold bY; rw [length_cons, wP, length_take]; omega
 refine a8 (ag [] rfl ?_);refine a8 (aB rfl (fun hb => ?_) (fun hb => ?_))
 ·have hlt : i < al.length := by
   have : (i : Int) < (al.length : Int) := zq0 hb;omega
  obtain ⟨a, hai⟩ := aL hlt;have hrow : (aT 0 al)[i]? = some (cW i a) := by rw [lM hai, zero_add]
  have hvl := hv a (zq7 hai);have hobj : (i + 800, AObj.arr 9 1 (a.vars.map bG) 0) ∈ fam 0 al := by have := yN (k := 0) hai; rwa [zero_add] at this
  have hvk : a.vars.length = (a.vars.map bG).length := (length_map _).symm;have hnx : bY b ks.length bs.length al.length (al.take (i + 1)) = bY b ks.length bs.length al.length (al.take i) ++ [l3 al.length i a] := by
   unfold bY;rw [zV hai, zero_add]; rfl
  have hg0 : gfo f n s t ks bs al (bX (bY b ks.length bs.length al.length (al.take i))) := mI b i;have hg1 : gfo f n s t ks bs al (bX (bY b ks.length bs.length al.length (al.take (i + 1)))) := mI b (i + 1);generalize bY b ks.length bs.length al.length (al.take i) = G at hgl hnx hg0 ⊢;refine aD ?_;refine a8 (aC (a8 (ag [] rfl ?_)));refine a8 (ag [] rfl ?_);refine a8 (ag [(3, .id 722)] rfl ?_);have hp2 : 722 ∉ bX [[R.rp 703 i 4 al.length]] := by simp [bX, R.refsL, R.refs]
  refine AWp.sub (st2 := mkt [(0, .one (.vp 700 0)), (7, .one (.ra 713 0 G.length G.length)), (9, .one (.rp 703 i 0 al.length)), (10, .one (.vp 10 0)), (82, I .i64 ((al.length : Nat) : Int)), (83, I .i64 i)] ((722, gPo [[.rp 703 i 4 al.length]]) :: ([(10, .var 125 [.c .nl, .ra 722 0 1 1]), (713, .rarr 125 2 G)] ++ gHl f n s t ks bs al)) (fam 0 al)) (slG (ex := (722, _) :: [_, _]) W) ?_;refine AWp.sub (Sub.fraT hF (aW3 (by omega) (by omega)) hp2) ?_;have e1 : fzH 722 (.ra 1 1 [R.rp 703 i 4 al.length]) ([(10, .var 125 [.c .nl, .ra 722 0 1 1]), (713, .rarr 125 2 G)] ++ gHl f n s t ks bs al)
    = [(10, .var 125 [.c .nl, .ras 1 1 [.rp 703 i 4 al.length]]), (713, .rarr 125 2 G)] ++ gHl f n s t ks bs al := by
   show (10, _) :: (713, AObj.rarr _ _ (fzR _ _ _)) :: fzH _ _ (gHl f n s t ks bs al) = _;rw [r6 (by omega) (by omega), r5 _ (iS hg0 (by omega) (by omega))];rfl
  have e1' : fzH 722 (.ra ([[R.rp 703 i 4 al.length]] : List (List R)).length 1 ([[R.rp 703 i 4 al.length]] : List (List R)).flatten) = fzH 722 (.ra 1 1 [R.rp 703 i 4 al.length]) := rfl;rw [e1', e1];clear e1 e1' hp2;refine AWp.sub (Sub.ownCellR (x := 10) (k := 0) (id := 721) 167 1 rfl rfl rfl) ?_;refine AWp.sub (st2 := mkt [(0, .one (.vp 700 0)), (7, .one (.ra 713 0 G.length G.length)), (9, .one (.rp 703 i 0 al.length)), (10, .one (.vp 10 0)), (82, I .i64 ((al.length : Nat) : Int)), (83, I .i64 i)] ([(10, .var 125 [.ra 721 0 0 0, .ras 1 1 [.rp 703 i 4 al.length]]), (713, .rarr 125 2 G), (721, gNo [])] ++ gHl f n s t ks bs al) (fam 0 al)) (slG W) ?_;have hlook : ∀ (ex : List (Nat × AObj)), (ex.all fun p => Nat.blt p.1 800) = true → (mkt [] (ex ++ gHl f n s t ks bs al) (fam 0 al)).h (i + 800) = some (AObj.arr 9 1 (a.vars.map bG) 0) := fun ex hex =>
   (show FarEq _ _ from FarEq.mkt hF (by rw [all_append, hex]; rfl)) _ hobj
  refine a8 (a8 (aF mixed ?_));refine ak 4 [(3, .rr (cW i a))] rfl ?_;refine a09 tok (hlook _ rfl) rfl hvk ?_ trw;refine ak 1 [] rfl ?_;refine az ?_;refine aC ?_;refine aJ (fun j : Nat => mkt [(0, .one (.vp 700 0)), (7, .one (.ra 713 0 G.length G.length)), (9, .one (.rp 703 i 0 al.length)), (10, .one (.vp 10 0)), (82, I .i64 ((al.length : Nat) : Int)), (83, I .i64 i), (101, I .i64 ((a.vars.length : Nat) : Int)), (102, I .i64 j)] ([(721, gNo (vR i a.vars.length j)), (10, .var 125 [.ra 721 0 (vR i a.vars.length j).length (vR i a.vars.length j).length, .ras 1 1 [.rp 703 i 4 al.length]]), (713, .rarr 125 2 G)] ++ gHl f n s t ks bs al) (fam 0 al)) (fun j => j ≤ a.vars.length) (fun j => a.vars.length - j) 0 (zero_le _) (slG W) ?_;intro j hj;have hvj : (vR i a.vars.length j).length = j := fN _ _;refine a8 (ag [] rfl ?_);refine a8 (aB rfl (fun hb => ?_) (fun hb => ?_))
  ·have hlt2 : j < a.vars.length := by
    have : (j : Int) < (a.vars.length : Int) := zq0 hb;omega
   have hst : vR i a.vars.length (j + 1) = vR i a.vars.length j ++ [[.ep (i + 800) j 0 a.vars.length]] := pE _ _;have hr : gfo f n s t ks bs al (gNo (vR i a.vars.length (j + 1))).refs := aY4 hlt _ _;refine aD ?_;refine a8 (aC (a8 (ag [] rfl ?_)));refine aF mixed ?_;refine ak 7 [(5, .rr (cW i a))] rfl ?_;refine kix tok (j := j) (hlook _ rfl) rfl hvk hlt2 ?_ trw;refine ak 4 [] rfl ?_;refine az ?_;refine ag [] rfl ?_;refine ⟨j + 1, hlt2, by dsimp only; omega, ?_⟩;dsimp only;rw [hst] at hr ⊢;refine slG W (hh := ⟨⟨_, rfl, .rarrS rfl⟩, ⟨_, rfl, .varS ?_⟩, ⟨_, rfl, .rarrS rfl⟩, ⟨_, rfl, .var rfl⟩, ⟨_, rfl, .arr⟩, ⟨_, rfl, .arr⟩, ⟨_, rfl, .rarrS rfl⟩, trivial⟩);rw [length_append]
  have hge : j = a.vars.length := by
   have : ¬ (j : Int) < (a.vars.length : Int) := zq1 hb;omega
  subst hge;clear hb hj;refine aK ?_;have hp1 : 721 ∉ bX (vR i a.vars.length a.vars.length) := iS (aY4 (f := f) (n := n) (s := s) (t := t) (ks := ks) (bs := bs) hlt a.vars.length a.vars.length) (by omega) (by omega);have hrv : gfo f n s t ks bs al (gNo (vR i a.vars.length a.vars.length)).refs := aY4 hlt _ _;refine AWp.sub (st2 := mkt [(0, .one (.vp 700 0)), (7, .one (.ra 713 0 G.length G.length)), (10, .one (.vp 10 0)), (82, I .i64 ((al.length : Nat) : Int)), (83, I .i64 i)] ((721, gNo (vR i a.vars.length a.vars.length)) :: ([(10, .var 125 [.ra 721 0 (vR i a.vars.length a.vars.length).length (vR i a.vars.length a.vars.length).length, .ras 1 1 [.rp 703 i 4 al.length]]), (713, .rarr 125 2 G)] ++ gHl f n s t ks bs al)) (fam 0 al)) (slG (ex := (721, _) :: [_, _]) W) ?_;refine AWp.sub (Sub.fraT hF (aW3 (by omega) (by omega)) hp1) ?_;have e1 : fzH 721 (.ra (vR i a.vars.length a.vars.length).length 1 (vR i a.vars.length a.vars.length).flatten) ([(10, .var 125 [.ra 721 0 (vR i a.vars.length a.vars.length).length (vR i a.vars.length a.vars.length).length, .ras 1 1 [.rp 703 i 4 al.length]]), (713, .rarr 125 2 G)] ++ gHl f n s t ks bs al)
    = [(10, .var 125 (l3 al.length i a)), (713, .rarr 125 2 G)] ++ gHl f n s t ks bs al := by
   show (10, _) :: (713, AObj.rarr _ _ (fzR _ _ _)) :: fzH _ _ (gHl f n s t ks bs al) = _;rw [r6 (by omega) (by omega), r5 _ (iS hg0 (by omega) (by omega))];simp only [AObj.fz, R.fzL, aOf rfl, R.fz_far (.ras 1 1 [.rp 703 i 4 al.length]) (show 721 ∉ R.refs (.ras 1 1 [.rp 703 i 4 al.length]) by simp [R.refs, R.refsL])];rfl
  rw [e1];clear e1 hp1;have hra : gfo f n s t ks bs al (R.refsL (l3 al.length i a)) := aWz hlt a;have halr : ∃ x y, l3 al.length i a = [x, y] := ⟨_, _, rfl⟩
  refine ag [] rfl ?_;refine ag [] rfl ?_;refine ⟨i + 1, hlt, by dsimp only; omega, ?_⟩;dsimp only;rw [hnx] at hg1 ⊢;have hg1 : gfo f n s t ks bs al (AObj.rarr 125 2 (G ++ [l3 al.length i a])).refs := hg1;refine slG W (he := ⟨rfl, by rw [length_append]; rfl, rfl, rfl, trivial⟩)
 have hge : i = al.length := by
  have : ¬ (i : Int) < (al.length : Int) := zq1 hb;omega
 subst hge;have hg0 : gfo f n s t ks bs al (bX (bY b ks.length bs.length al.length (al.take al.length))) := mI b _;rw [take_length] at *;generalize bY b ks.length bs.length al.length al = G at *;refine aK ?_;refine AWp.sub (st2 := mkt [(7, .one (.ra 713 0 G.length G.length))] ((713, .rarr 125 2 G) :: ([] ++ gHl f n s t ks bs al)) (fam 0 al)) (slG (ex := [(713, _)]) W (h2 := ⟨Kn.gf hg0, trivial⟩)) ?_;refine AWp.sub (Sub.fraT hF (aW3 (by omega) (by omega)) (iS hg0 (by omega) (by omega))) ?_;have e1 : fzH 713 (.ra G.length 2 G.flatten) ([] ++ gHl f n s t ks bs al) = gHl f n s t ks bs al := r6 (by omega) (by omega);have e2 : fzE 713 (.ra G.length 2 G.flatten) [(7, .one (.ra 713 0 G.length G.length))] = [(7, .one (.ras G.length 2 G.flatten))] := by
  simp only [fzE, V.fz, aOf rfl]
 rw [e1, e2];refine a8 (ag [] rfl ?_);exact aE (rtG W (h1 := Kn.gf (by show GF _ _ (R.refsL G.flatten); rw [cP]; exact hg0)))
end Go.Proofs.YtmoekkcdkjopgaaGreatDoor
namespace Go.AM
open Go
def AObj.frz : AObj → AObj
 | .arr te es l _ => .arr te es l 2
 | o => o
def w8 (F : List (Nat × AObj)) : List (Nat × AObj) := F.map fun p => (p.1, p.2.frz)
theorem aKh {F : List (Nat × AObj)} : (w8 F).map (·.1) = F.map (·.1) := by unfold w8; rw [map_map]; rfl
theorem TF.frz {F : List (Nat × AObj)} (h : TF F) : TF (w8 F) := ⟨fun p hp => by
 obtain ⟨q, hq, rfl⟩ := mem_map.1 hp;exact h.far q hq, by rw [aKh]; exact h.nodup, fun p hp => by
 obtain ⟨q, hq, rfl⟩ := mem_map.1 hp;obtain ⟨te, es, l, z, e⟩ := h.arr q hq
 exact ⟨te, es, l, 2, by show q.2.frz = _; rw [e]; rfl⟩⟩
theorem vQ {α : Type} {p : Nat × α} {x : α} : ∀ {a b : List (Nat × α)} {i : Nat}, p.1 ∉ a.map (·.1) → look (a ++ (p.1, x) :: b) i = if i = p.1 then some x else look (a ++ p :: b) i
 | [], b, i, _ => by
  obtain ⟨k, y⟩ := p;simp only [nil_append, look];by_cases h : i = k
  ·subst h; simp
  ·have : Nat.beq i k = false := by
    cases hb : Nat.beq i k with
    | false => rfl
    | true => exact absurd (zq4 hb) h
   simp [this, h]
 | (k, y) :: a, b, i, h => by
  simp only [map_cons, mem_cons, not_or] at h;simp only [cons_append, look];cases hb : Nat.beq i k with
  | true =>
   have := zq4 hb;subst this;simp [Ne.symm h.1]
  | false => simpa using vQ h.2
theorem Sub.fzMid {kf : List Nat} {el : List (Nat × V)} {hl : List (Nat × AObj)} (hn : (hl.all fun p => Nat.blt p.1 800) = true) : ∀ {F2 F1 : List (Nat × AObj)}, TF (F1 ++ F2) → Sub kf (mkt el hl (F1 ++ w8 F2)) (mkt el hl (F1 ++ F2))
 | [], F1, _ => by
  have : w8 [] = [] := rfl;rw [this]; exact Sub.refl _ _
 | p :: F2, F1, hF => by
  obtain ⟨te, es, l, z, hp⟩ := hF.arr p (by simp);have hfar := hF.far p (by simp);have hnd := hF.nodup;have hp1 : p.1 ∉ F1.map (·.1) := fun hm => by
   rw [map_append, nodup_append] at hnd;exact hnd.2.2 p.1 hm p.1 (by simp) rfl
  have hlook : (mkt el hl (F1 ++ p :: F2)).h p.1 = some (.arr te es l z) := by
   have := FarEq.mkt (el := el) hF hn p (by simp);rw [this, hp]
  have h1 := Sub.freeze (kf := kf) hlook;have e : (⟨(mkt el hl (F1 ++ p :: F2)).e, upd (mkt el hl (F1 ++ p :: F2)).h p.1 (some (.arr te es l 2)), (mkt el hl (F1 ++ p :: F2)).d⟩ : St) = mkt el hl (F1 ++ (p.1, .arr te es l 2) :: F2) := by
   unfold mkt;congr 1;funext i;by_cases hi : i = p.1
   ·subst hi;rw [aI, vI hn hfar];simp only [zH hfar, cond_false];rw [vQ hp1, if_pos rfl]
   ·rw [aS _ _ _ hi];show (match look hl i with | some x => some x | none => bif Nat.blt i 800 then none else look (F1 ++ p :: F2) i) = _;have hm := vQ (p := p) (x := AObj.arr te es l 2) (a := F1) (b := F2) (i := i) hp1;rw [if_neg hi] at hm
    (first | (rw [hm]; done) | (rw [hm]; rfl))
  rw [e] at h1;have hF' : TF ((F1 ++ [(p.1, AObj.arr te es l 2)]) ++ F2) := by
   refine ⟨fun q hq => ?_, ?_, fun q hq => ?_⟩
   ·rw [append_assoc] at hq;rcases mem_append.1 hq with hq | hq
    ·exact hF.far q (by simp [hq])
    ·rcases mem_cons.1 hq with rfl | hq
     ·exact hfar
     ·exact hF.far q (by simp [show q ∈ F2 from hq])
   ·rw [append_assoc];have : ((F1 ++ ([(p.1, AObj.arr te es l 2)] ++ F2)).map (·.1)) = (F1 ++ p :: F2).map (·.1) := by simp
    rw [this]; exact hnd
   ·rw [append_assoc] at hq;rcases mem_append.1 hq with hq | hq
    ·exact hF.arr q (by simp [hq])
    ·rcases mem_cons.1 hq with rfl | hq
     ·exact ⟨_, _, _, _, rfl⟩
     ·exact hF.arr q (by simp [show q ∈ F2 from hq])
  have h2 := Sub.fzMid (kf := kf) (el := el) hn (F2 := F2) (F1 := F1 ++ [(p.1, AObj.arr te es l 2)]) hF';simp only [append_assoc, List.singleton_append] at h2;have e2 : w8 (p :: F2) = (p.1, .arr te es l 2) :: w8 F2 := by
   show (p.1, p.2.frz) :: w8 F2 = _;rw [hp]; rfl
  rw [e2];exact fun G n S μ a w hg hs => by
   obtain ⟨S', μ', hs'⟩ := h1 G n S μ a w hg hs;exact h2 G n S' μ' a w hg hs'
theorem Sub.fzAll {kf : List Nat} {el : List (Nat × V)} {hl F : List (Nat × AObj)} (hF : TF F) (hn : (hl.all fun p => Nat.blt p.1 800) = true := by rfl) : Sub kf (mkt el hl (w8 F)) (mkt el hl F) := Sub.fzMid hn (F1 := []) hF
theorem Sub.outsT {kf : List Nat} {e : Nat → Option V} {h : cF} {d : List Nat} {hl F : List (Nat × AObj)} (hF : TF F) : Sub kf ⟨e, fun i => bif Nat.blt i 800 then updL h (outs hl) i else updL h (outs (hl ++ F)) i, d⟩ ⟨e, updL h (outs (hl ++ F)), d⟩ := by
 rw [← pU hF]; exact Sub.refl _ _
end Go.AM
