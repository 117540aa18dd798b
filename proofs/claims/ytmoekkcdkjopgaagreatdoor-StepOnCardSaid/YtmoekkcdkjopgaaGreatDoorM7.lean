/-
  Texts Ls6 to Lg4 in one.
-/
import Derived.Test.YtmoekkcdkjopgaaGreatDoorM6
open List (all_append all_eq_true append_assoc append_nil cons_append drop_eq_getElem_cons drop_length drop_zero filter_cons flatMap_append flatten_cons length_append length_cons length_drop length_map length_nil length_take map_append map_congr_left map_cons map_map mem_append mem_cons mem_cons_of_mem mem_cons_self mem_map mem_singleton nil_append nodup_append nodup_cons nodup_nil not_mem_nil set_cons_succ set_eq_take_append_cons_drop take_add_one take_length take_succ_cons)
open Nat (add_zero beq_refl eq_of_beq_eq_true le_add_left le_of_ble_eq_true le_refl le_trans min_eq_left sub_self zero_add zero_le)
namespace Go.Proofs.YtmoekkcdkjopgaaGreatDoor
open Go Go.AM
set_option maxRecDepth 20000
set_option maxHeartbeats 4000000
def aTp (l : List Ty) : V := .one (.c (.sl 4 (l.map bD)))
def unF (nm : Str) (body : Ty) (l : List (Str × Ty)) : List (Str × Ty) := l.filter fun p => !decide (p.1 = nm) && decide (p.1 ∈ tfR body)
def unC (l : List (Str × Ty)) : List Str := l.flatMap fun p => tfR p.2
noncomputable def unN (nm : Str) (body : Ty) (l : List (Str × Ty)) : Str := if nm ∈ unC (unF nm body l) then b8 (unC (unF nm body l) ++ tfR body) else nm
noncomputable def unP (nm : Str) (body : Ty) (l : List (Str × Ty)) : List (Str × Ty) := if nm ∈ unC (unF nm body l) then unF nm body l ++ [(nm, .mk 2 0 (unN nm body l) [])] else unF nm body l
theorem aMv {nm : Str} {body : Ty} {l : List (Str × Ty)} {i : Nat} {p : Str × Ty} (h : l[i]? = some p) : unF nm body (l.take (i + 1)) = if (!decide (p.1 = nm) && decide (p.1 ∈ tfR body)) = true then unF nm body (l.take i) ++ [p] else unF nm body (l.take i) := by
 unfold unF;rw [take_add_one, h, List.filter_append];show _ ++ List.filter _ [p] = _;rw [filter_cons];split <;> simp
theorem aOm (nm : Str) (body b' : Ty) (ps : List (Str × Ty)) (hl : ps.length ≤ 1000000000) (hfr : aU Tryz.prog 63 [tyV body] [] (bU (tfR body)) []) (hfl : (tfR body).length ≤ 400000000) (hall : aU Tryz.prog 174 [Go.AM.T (unN nm body ps), tyV b'] [] (tyV (.mk 5 0 (unN nm body ps) [b'])) [])
  (hps : ∀ p ∈ ps, aU Tryz.prog 63 [tyV p.2] [] (bU (tfR p.2)) [] ∧ (tfR p.2).length ≤ 400000000) (hc : (unC (unF nm body ps)).length ≤ 540000000000 ∧ ∀ i, (unC (unF nm body (ps.take i))).length ≤ 540000000000) (hI : dR ((unC (unF nm body ps)).length + (tfR body).length))
  (hS : aU Tryz.prog 65 [tyV body, bU ((unP nm body ps).map (·.1)), aTp ((unP nm body ps).map (·.2))] [] (tyV b') []) :
  aU Tryz.prog 128 [tyV (.mk 5 0 nm [body]), bU (ps.map (·.1)), aTp (ps.map (·.2))] [] (tyV (.mk 5 0 (unN nm body ps) [b'])) [] := by
 have hk1 : ((ps.map (·.1)).map bN).length = ps.length := by rw [length_map, length_map]
 refine bT (n := 81) tok Tryz.func128 rfl rfl rfl ?_;refine a8 (ag [] rfl ?_);refine a8 (ag [(2, .row 0 (bD body))] rfl ?_);refine a8 (aE mixed ?_);refine ak 1 [] rfl ?_;refine kc hfr ?_;refine ak 1 [] rfl ?_;refine az ?_;refine a8 (ag [] rfl ?_);refine a8 (ag [] rfl ?_);refine a8 (ag [] rfl ?_);refine AWp.sub (Sub.own (t := 9) (id := 600) 9 1 rfl rfl) (AWp.sub (Sub.freeze (id := 600) rfl) ?_);refine AWp.sub (Sub.own (t := 10) (id := 601) 33 4 rfl rfl) (AWp.sub (Sub.freeze (id := 601) rfl) ?_);refine AWp.sub (Sub.own (t := 11) (id := 602) 9 1 rfl rfl) (AWp.sub (Sub.freeze (id := 602) rfl) ?_);refine a8 (a8 (ag [] rfl ?_));refine aB ?_
 refine aL (fun i : Nat => mk [(2, aTp (ps.map (·.2))), (3, .one (.vp 3 0)), (6, .one (.vp 6 0)), (7, .one (.vp 7 0)), (8, bU (tfR body)), (9, .one (.hs 600 0 (unF nm body (ps.take i)).length (unF nm body (ps.take i)).length)), (10, .one (.hs 601 0 (unF nm body (ps.take i)).length (unF nm body (ps.take i)).length)), (11, .one (.hs 602 0 (unC (unF nm body (ps.take i))).length (unC (unF nm body (ps.take i))).length)), (21, bU (ps.map (·.1))), (22, I .i64 (((ps.map (·.1)).map bN).length : Int)), (23, I .i64 i)]
  [(600, .arr 9 1 (((unF nm body (ps.take i)).map (·.1)).map bN) 2), (601, .arr 33 4 (((unF nm body (ps.take i)).map (·.2)).map bD) 2), (602, .arr 9 1 ((unC (unF nm body (ps.take i))).map bN) 2), (3, .var 33 ((bD (.mk 5 0 nm [body])).map R.c)), (6, .var 33 [.c (.int .i64 0), .c (.int .i64 0), .c (.str []), .c .nl]), (7, .var 33 ((bD body).map R.c))]) (fun i => i ≤ ps.length) (fun i => ps.length - i) 0 (zero_le _) sl ?_
 intro i hi;refine a8 (ag [] rfl ?_);refine a8 (aA rfl (fun hb => ?_) (fun hb => ?_))
 ·have hlt := ltD hb hk1;obtain ⟨⟨s, u⟩, hu⟩ := aK hlt;have hs' : ((ps.map (·.1)).map bN)[i]? = some (bN s) := bQ bN (by rw [List.getElem?_map, hu]; rfl);have hu' : ((ps.map (·.2)).map bD)[i]? = some (bD u) := bQ bD (by rw [List.getElem?_map, hu]; rfl);obtain ⟨hfu, hul⟩ := hps _ (List.mem_of_getElem? hu);have hul : (tfR u).length ≤ 400000000 := hul;have hfu : aU Tryz.prog 63 [tyV u] [] (bU (tfR u)) [] := hfu;have hst := aMv (nm := nm) (body := body) hu;have hct := bW (tfR body) s (by omega);have hql := hc.2 i;have hpl : (unF nm body (ps.take i)).length ≤ 1000000000 := by
   have h1 : (unF nm body (ps.take i)).length ≤ (ps.take i).length := List.length_filter_le _ _;rw [length_take] at h1; omega
  generalize unF nm body (ps.take i) = q at hst hql hpl ⊢;generalize tfR body = fb at hct hst ⊢;refine aD ?_;refine a8 (aB (a8 (ag [(1, .row i (bN s))] rfl ?_)));by_cases h1 : s = nm
  ·have e1 : (!decide (s = nm)) = false := by rw [decide_eq_true h1]; rfl
   dsimp only at hst;rw [e1, Bool.false_and, if_neg (by decide)] at hst;refine a8 (ag [(4, .bv false), (8, .bv false)] rfl ?_);refine aA rfl (fun hb => by cases hb) (fun _ => ?_);refine aD ?_;refine ag [] rfl ?_;refine ⟨i + 1, hlt, by dsimp only; omega, ?_⟩;dsimp only;rw [hst];exact sl
  have e1 : (!decide (s = nm)) = true := by rw [decide_eq_false h1]; rfl
  dsimp only at hst;rw [e1, Bool.true_and] at hst;by_cases h2 : s ∈ fb
  ·rw [decide_eq_true h2] at hct;rw [if_pos (decide_eq_true h2)] at hst;have hql2 := hc.2 (i + 1);rw [hst] at hql2;have hcq : unC (q ++ [(s, u)]) = unC q ++ tfR u := by unfold unC; rw [flatMap_append]; simp
   rw [hcq, length_append] at hql2;refine a8 (aE mixed ?_);refine ak 7 [(4, .bv true)] rfl ?_;refine kcG hct ?_ (hw := e1);refine ak 1 [(8, .bv true)] rfl ?_;refine az ?_;refine aA rfl (fun _ => ?_) (fun hb => by cases hb);have hq1 : ((q.map (·.1)).map bN).length = q.length := by rw [length_map, length_map]
   have hq2 : ((q.map (·.2)).map bD).length = q.length := by rw [length_map, length_map]
   have hq3 : ((unC q).map bN).length = (unC q).length := length_map _;have hq4 : ((tfR u).map bN).length = (tfR u).length := length_map _;refine a8 (ag [(2, .all), (7, .row i (bD u)), (9, .all)] rfl ?_);refine AWp.sub (Sub.freeze (id := 600) rfl) (AWp.sub (Sub.freeze (id := 601) rfl) ?_);refine aE mixed ?_;refine ak 5 [(3, .row i (bD u))] rfl ?_;refine kc hfu ?_;refine ak 2 [] rfl ?_;refine az ?_;refine AWp.sub (Sub.freeze (id := 602) rfl) ?_;refine ag [] rfl ?_;refine ⟨i + 1, hlt, by dsimp only; omega, ?_⟩;dsimp only;rw [hst, hcq];refine sl (he := ⟨rfl, rfl, rfl, rfl, rfl, Go.AM.hs_ren (by simp) (by simp), Go.AM.hs_ren (by simp) (by simp), Go.AM.hs_ren (by simp) (by simp), rfl, rfl, rfl, trivial⟩) (hh := ⟨⟨_, rfl, .arrS (by simp [bN])⟩, ⟨_, rfl, .arrS (by simp; rfl)⟩, ⟨_, rfl, .arrS (by simp)⟩, ⟨_, rfl, .var rfl⟩, ⟨_, rfl, .var rfl⟩, ⟨_, rfl, .var rfl⟩, trivial⟩)
  ·rw [decide_eq_false h2] at hct;rw [if_neg (by rw [decide_eq_false h2]; decide)] at hst;refine a8 (aE mixed ?_);refine ak 7 [(4, .bv true)] rfl ?_;refine kcG hct ?_ (hw := e1);refine ak 1 [(8, .bv true)] rfl ?_;refine az ?_;refine aA rfl (fun hb => by cases hb) (fun _ => ?_);refine aD ?_;refine ag [] rfl ?_;refine ⟨i + 1, hlt, by dsimp only; omega, ?_⟩;dsimp only;rw [hst];exact sl
 ·have hge := geD hb hk1 hi;subst hge;rw [take_length];have hpl : (unF nm body ps).length ≤ 1000000000 := by
   have h1 : (unF nm body ps).length ≤ ps.length := List.length_filter_le _ _;omega
  have hct := bW (unC (unF nm body ps)) nm (by omega);refine aM ?_;refine a8 (ag [] rfl ?_);by_cases h1 : nm ∈ unC (unF nm body ps)
  ·have eN : unN nm body ps = b8 (unC (unF nm body ps) ++ tfR body) := by unfold unN; rw [if_pos h1]
   have eP : unP nm body ps = unF nm body ps ++ [(nm, .mk 2 0 (unN nm body ps) [])] := by unfold unP; rw [if_pos h1]
   have hlt := aOr (unC (unF nm body ps) ++ tfR body) (by rw [length_append]; have := hc.1; omega) (fun k hk => hI k (by rw [length_append] at hk; exact hk));rw [← eN] at hlt;rw [eP] at hS;have hv := aQo (unN nm body ps);rw [decide_eq_true h1] at hct;generalize unN nm body ps = N at *;have hcl := hc.1;generalize unF nm body ps = q at *;have hS2 : aU Tryz.prog 65 [tyV body, .one (.c (.sl 1 ((q.map (·.1)).map bN ++ [bN nm]))), .one (.c (.sl 4 ((q.map (·.2)).map bD ++ [bD (.mk 2 0 N [])])))] [] (tyV b') [] := by
    have e1 : bU ((q ++ [(nm, Ty.mk 2 0 N [])]).map (·.1)) = .one (.c (.sl 1 ((q.map (·.1)).map bN ++ [bN nm]))) := by unfold bU; rw [map_append, map_append]; rfl
    have e2 : aTp ((q ++ [(nm, Ty.mk 2 0 N [])]).map (·.2)) = .one (.c (.sl 4 ((q.map (·.2)).map bD ++ [bD (.mk 2 0 N [])]))) := by unfold aTp; rw [map_append, map_append]; rfl
    rw [e1, e2] at hS;exact hS
   have hq1 : ((q.map (·.1)).map bN).length = q.length := by rw [length_map, length_map]
   have hq2 : ((q.map (·.2)).map bD).length = q.length := by rw [length_map, length_map]
   have hq3 : ((unC q).map bN).length = (unC q).length := length_map _;have hq4 : ((tfR body).map bN).length = (tfR body).length := length_map _;have hlt2 : aU Tryz.prog 173 [.one (.c (.sl 1 ((unC q).map bN ++ (tfR body).map bN)))] [] (Go.AM.T N) [] := by
    have e1 : bU (unC q ++ tfR body) = .one (.c (.sl 1 ((unC q).map bN ++ (tfR body).map bN))) := by unfold bU; rw [map_append]
    rw [e1] at hlt;exact hlt
   refine a8 (a8 (aE mixed ?_));refine ak 2 [] rfl ?_;refine kc hct ?_;refine az ?_;refine aA rfl (fun _ => ?_) (fun hb => by cases hb);refine a8 (aE mixed ?_);refine ak 3 [(2, .fz)] rfl ?_;refine kc hlt2 ?_;refine ak 1 [] rfl ?_;refine az ?_;refine aE mixed ?_;refine ak 7 [(3, .all)] rfl ?_;refine kc hv ?_;refine ak 4 [(8, .all)] rfl ?_;refine az ?_;refine AWp.sub (Sub.freeze (id := 600) rfl) (AWp.sub (Sub.freeze (id := 601) rfl) ?_);refine a8 (aE mixed ?_);refine ak 4 [] rfl ?_;refine kc hS2 ?_;refine kc hall ?_;refine ak 1 [] rfl ?_;refine az ?_;exact aI (rtC trw)
  ·have eN : unN nm body ps = nm := by unfold unN; rw [if_neg h1]
   have eP : unP nm body ps = unF nm body ps := by unfold unP; rw [if_neg h1]
   rw [eP] at hS;rw [eN] at hall ⊢;rw [decide_eq_false h1] at hct;have hcl := hc.1;generalize unF nm body ps = q at *;have hq1 : ((q.map (·.1)).map bN).length = q.length := by rw [length_map, length_map]
   have hq2 : ((q.map (·.2)).map bD).length = q.length := by rw [length_map, length_map]
   refine a8 (a8 (aE mixed ?_));refine ak 2 [] rfl ?_;refine kc hct ?_;refine az ?_;refine aA rfl (fun hb => by cases hb) (fun _ => ?_);refine aD ?_;refine a8 (aE mixed ?_);refine ak 4 [] rfl ?_;refine kc hS ?_;refine kc hall ?_;refine ak 1 [] rfl ?_;refine az ?_;exact aI (rtC trw)
mutual
def wfT : Ty → Bool
 | .mk f n s a => (if f = 4 then decide (n = 0 ∧ s = [] ∧ a.length = 2) else if f = 5 then decide (n = 0 ∧ a.length = 1) else true) && aPa a
def aPa : List Ty → Bool
 | [] => true
 | t :: l => wfT t && aPa l
end
theorem u9 (s : Str) : ∀ (l : List Str) (k : Int), (∃ i : Nat, aGq s l k = k + i ∧ l[i]? = some s) ∨ (¬ s ∈ l ∧ aGq s l k = -1)
 | [], k => .inr ⟨by simp, rfl⟩
 | x :: l, k => by
  rw [aGq];split
  ·rename_i h; subst h;exact .inl ⟨0, by simp, rfl⟩
  ·rename_i h;rcases u9 s l (k + 1) with ⟨i, h1, h2⟩ | ⟨h1, h2⟩
   ·exact .inl ⟨i + 1, by rw [h1]; omega, by simpa using h2⟩
   ·exact .inr ⟨by simp [h, h1], h2⟩
theorem aH0 {f : Int} {s : Str} {o : List Str} {x y : Str} (h : y ∈ o) : y ∈ gP f s o x := by
 unfold gP; split
 ·exact mem_append.2 (.inl h)
 ·exact h
theorem pO {f : Int} {s : Str} : ∀ {l o : List Str} {y : Str}, y ∈ o → y ∈ sP f s o l
 | [], _, _, h => h
 | x :: l, o, y, h => pO (l := l) (o := gP f s o x) (aH0 h)
theorem n6 {f : Int} {s : Str} : ∀ {l o : List Str} {y : Str}, y ∈ l → (¬ f = 5 ∨ ¬ y = s) → y ∈ sP f s o l
 | x :: l, o, y, h, hf => by
  rcases mem_cons.1 h with rfl | h
  ·refine pO (l := l) (o := gP f s o y) ?_;unfold gP;by_cases hy : y ∈ o
   ·rw [if_neg (fun h => h.1 hy)]; exact hy
   ·rw [if_pos ⟨hy, hf⟩]; simp
  ·exact n6 (l := l) (o := gP f s o x) h hf
theorem aUf {n : Int} {nm : Str} {body : Ty} {x : Str} (h : x ∈ tfR body) (hx : ¬ x = nm) : x ∈ tfR (.mk 5 n nm [body]) := by
 rw [tfR, if_neg (by decide), oC, oC];exact n6 h (.inr hx)
theorem aRi {n : Int} {s : Str} {a b : Ty} {x : Str} (h : x ∈ tfR a) : x ∈ tfR (.mk 4 n s [a, b]) := by
 rw [tfR, if_neg (by decide), oC, oC, oC];exact pO (n6 h (.inl (by decide)))
theorem aRh {n : Int} {s : Str} {a b : Ty} {x : Str} (h : x ∈ tfR b) : x ∈ tfR (.mk 4 n s [a, b]) := by
 rw [tfR, if_neg (by decide), oC, oC, oC];exact n6 h (.inl (by decide))
theorem aBo (n : Nat) (h : n ≤ 540000000000) : (bR n).length ≤ 21 := by
 unfold bR;have := aB0 (n / 26) (by omega);split
 ·simp
 ·simp; omega
theorem jD (l : List Str) (h : l.length ≤ 540000000000) : (b8 l).length ≤ 21 := aBo _ (le_trans (rM l) h)
mutual
def t30 : Ty → Nat
 | .mk _ _ s a => 1 + max 30 s.length + aXd a
def aXd : List Ty → Nat
 | [] => 0
 | t :: l => t30 t + aXd l
end
end Go.Proofs.YtmoekkcdkjopgaaGreatDoor
namespace Go.AM
open Go
theorem qB {α : Type} : ∀ (a b : List (Nat × α)) (i : Nat), look (a ++ b) i = match look a i with | some x => some x | none => look b i
 | [], _, _ => rfl
 | (k, x) :: a, b, i => by
  simp only [cons_append, look];cases Nat.beq i k
  ·simpa using qB a b i
  ·rfl
theorem iF : ∀ (a b : List (Nat × AObj)), dG (a ++ b) = dG a ++ dG b
 | [], _ => rfl
 | (k, o) :: a, b => by simp only [cons_append, dG, iF a b, append_assoc]
theorem eQ.app {α : Type} {p : α → Prop} : ∀ {a b : List α}, eQ p a → eQ p b → eQ p (a ++ b)
 | [], _, _, h => h
 | _ :: _, _, h, k => ⟨h.1, eQ.app h.2 k⟩
theorem fM : ∀ {l : List Nat}, l.Nodup → distinct l = true
 | [], _ => rfl
 | x :: l, h => by
  obtain ⟨h1, h2⟩ := nodup_cons.1 h;simp only [distinct, fM h2, Bool.and_true];simpa using h1
theorem eJ {a b : List Nat} (h : ∀ x ∈ a, x ∈ b) : subset a b = true := by
 simp only [subset, all_eq_true];exact fun x hx => by simpa using h x hx
theorem aU.row {P : Program} {f : FuncId} {args : List V} {hin hin' hout hout' : List (Nat × AObj)} {res : V} (h : aU P f args hin res hout) (h1 : look hin' = look hin) (h2 : look hout' = look hout) : aU P f args hin' res hout' := by
 unfold aU at h ⊢;rw [h1, h2]; exact h
section
variable {P : Program} {n : Nat}
theorem Sub.ownCellR {kf : List Nat} {st : St} {x k id tv : Nat} {cells : List R} (te es : Nat) (h : st.h x = some (.var tv cells)) (hk : cells[k]? = some (.c .nl)) (hid : st.h id = none) :
  Sub kf ⟨st.e, upd (upd st.h id (some (.rarr te es []))) x (some (.var tv (cells.set k (.ra id 0 0 0)))), st.d⟩ st := by
 intro G n S μ a w _ hs;obtain ⟨hi, hE⟩ := hs.inv.emptyR te es hid;have hne : x ≠ id := fun e => by subst e; rw [h] at hid; cases hid
 have hx : upd st.h id (some (.rarr te es [])) x = some (.var tv cells) := by rw [b7 _ _ _ hne]; exact h
 obtain ⟨b, vs, g1, g2, g3, g4⟩ := hi.obj x _ hx
 have hE2 : Evolve S (upd μ id none) (upd st.h id (some (.rarr te es []))) S (upd μ id none) (upd (upd st.h id (some (.rarr te es []))) x (some (.var tv (cells.set k (.ra id 0 0 0))))) := ⟨S.le_refl, fun j y hj => by
  by_cases hjx : j = x
  ·subst hjx;rw [hx] at hj; cases hj;exact ⟨_, aJ _ _ _, by simp [AObj.succ]⟩
  ·exact ⟨y, by rw [b7 _ _ _ hjx]; exact hj, y.succ_refl rfl⟩⟩
 have hold : ∀ j y, upd (upd st.h id (some (.rarr te es []))) x (some (.var tv (cells.set k (.ra id 0 0 0)))) j = some y → ∃ y', upd st.h id (some (.rarr te es [])) j = some y' := fun j y hj => by
  by_cases hjx : j = x
  ·subst hjx; exact ⟨_, hx⟩
  ·rw [b7 _ _ _ hjx] at hj; exact ⟨_, hj⟩
 refine ⟨S, upd μ id none, ⟨⟨hi.holds, fun j y hj => ?_, fun i j y y' b c c' hi' hj hm hm' => ?_, fun i y b c hi' hm => ?_, hi.frame, hi.sle, hi.sto, hi.evo.trans hE2⟩, hs.size, hs.defers.evolve (hE.trans hE2), fun s v e => aW.evolve (hE.trans hE2) v _ (hs.env s v e)⟩⟩
 ·by_cases hjx : j = x
  ·subst hjx;have hj' : some (AObj.var tv (cells.set k (.ra id 0 0 0))) = some y := by rw [← hj]; exact (aJ _ _ _).symm
   cases hj';refine ⟨b, vs, g1, g2, ?_, g4⟩;have h3 := aV.evolve hE2 _ _ g3;obtain ⟨u, hu, hru⟩ := g3.get k _ hk;simp only [b9, Rep] at hru;have hkl : k < cells.length := (List.getElem?_eq_some_iff.1 hk).1
   have hsplit : cells.set k (.ra id 0 0 0) = bY cells k [.ra id 0 0 0] := by
    unfold bY;rw [set_eq_take_append_cons_drop, if_pos hkl];simp
   have hvl := g3.length;have hvs : vs = bY vs k [u] := by
    unfold bY;apply List.ext_getElem?;intro i;simp only [List.getElem?_append, length_append, length_take, length_cons, length_nil, List.getElem?_take, List.getElem?_drop];have hm : min k vs.length = k := by omega
    rw [hm];by_cases c1 : i < k
    ·simp [c1, show i < k + 1 by omega]
    ·by_cases c2 : i = k
     ·subst c2; simp [hu]
     ·simp [show ¬ i < k + 1 by omega, show k + 1 + (i - (k + 1)) = i by omega]
   rw [hsplit] at h3 ⊢;rw [hvs];refine oE h3 ?_;simp only [aV, b9];exact ⟨u, [], rfl, ⟨⟨_, _, _, hru⟩, .inr ⟨te, es, [], by rw [b7 _ _ _ hne.symm]; exact aJ _ _ _, le_refl _, fun _ => ⟨le_refl _, .inl ⟨aJ _ _ _, rfl, hru⟩⟩⟩⟩, rfl⟩
  ·have hj' : upd st.h id (some (.rarr te es [])) j = some y := by rw [← hj]; exact (b7 _ _ _ hjx).symm
   exact (hi.obj j y hj').evolve hE2 rfl fun _ _ _ => ⟨rfl, fun _ => rfl, rfl⟩
 ·obtain ⟨_, h1⟩ := hold _ _ hi';obtain ⟨_, h2⟩ := hold _ _ hj;exact hi.inj i j _ _ b c c' h1 h2 hm hm'
 ·obtain ⟨_, h1⟩ := hold _ _ hi';exact hi.own i _ b c h1 hm
end
theorem Ole.varS {t : Nat} {l l' : List R} (h : l = l') : Ole (fun i => i) (.var t l) (.var t l') := by subst h; exact .var (R.renL_id _).symm
structure TF (F : List (Nat × AObj)) : Prop where
 far : ∀ p ∈ F, 800 ≤ p.1
 nodup : (F.map (·.1)).Nodup
 arr : ∀ p ∈ F, ∃ te es l z, p.2 = .arr te es l z
theorem TF.refs {F : List (Nat × AObj)} (h : TF F) : dG F = [] := by
 have key : ∀ l : List (Nat × AObj), (∀ p ∈ l, ∃ te es l z, p.2 = .arr te es l z) → dG l = [] := by
  intro l
  induction l with
  | nil => intro _; rfl
  | cons p l ih =>
   intro h;obtain ⟨te, es, l', z, hp⟩ := h p (by simp);show p.2.refs ++ dG l = [];rw [ih fun q hq => h q (by simp [hq]), hp]; rfl
 exact key F h.arr
theorem TF.ok {F : List (Nat × AObj)} (h : TF F) : ∀ p ∈ F, p.2.live = true ∧ p.2.plain = true := fun p hp => by
 obtain ⟨te, es, l, z, e⟩ := h.arr p hp;rw [e]; exact ⟨rfl, rfl⟩
def mkt (el : List (Nat × V)) (hl F : List (Nat × AObj)) : St := ⟨look el, fun i => match look hl i with | some x => some x | none => bif Nat.blt i 800 then none else look F i, []⟩
theorem gR {α : Type} : ∀ {l : List (Nat × α)} {i : Nat}, i ∉ l.map (·.1) → look l i = none
 | [], _, _ => rfl
 | (k, x) :: l, i, h => by
  simp only [map_cons, mem_cons, not_or] at h;simp only [look];have : Nat.beq i k = false := by
   cases hb : Nat.beq i k with
   | false => rfl
   | true => exact absurd (eq_of_beq_eq_true hb) h.1
  rw [this];simpa using gR h.2
theorem TF.near {F : List (Nat × AObj)} (hF : TF F) {i : Nat} (h : i < 800) : look F i = none := gR fun hm => by
 obtain ⟨p, hp, rfl⟩ := mem_map.1 hm;have := hF.far p hp;omega
theorem aGw {i k : Nat} (h : i < k) : Nat.blt i k = true := Nat.ble_eq_true_of_le h
theorem zL {i k : Nat} (h : k ≤ i) : Nat.blt i k = false := by
 cases hb : Nat.blt i k with
 | false => rfl
 | true => have := le_of_ble_eq_true hb; omega
theorem aJm {el : List (Nat × V)} {hl F : List (Nat × AObj)} (hF : TF F) : mkt el hl F = mk el (hl ++ F) := by
 unfold mkt mk;congr 1;funext i;rw [qB];cases look hl i with
 | some x => rfl
 | none =>
  by_cases h : i < 800
  ·simp only [aGw h, hF.near h, cond_true]
  ·simp only [zL (Nat.le_of_not_lt h), cond_false]
theorem oI {α : Type} : ∀ {l : List (Nat × α)}, (l.map (·.1)).Nodup → ∀ p ∈ l, look l p.1 = some p.2
 | (k, x) :: l, h, p, hp => by
  simp only [map_cons, nodup_cons] at h;simp only [look];rcases mem_cons.1 hp with rfl | hp
  ·simp
  ·have hne : p.1 ≠ k := fun e => h.1 (e ▸ mem_map.2 ⟨p, hp, rfl⟩)
   have : Nat.beq p.1 k = false := by
    cases hb : Nat.beq p.1 k with
    | false => rfl
    | true => exact absurd (eq_of_beq_eq_true hb) hne
   rw [this];simpa using oI h.2 p hp
def FarEq (h : cK) (F : List (Nat × AObj)) : Prop := ∀ p ∈ F, h p.1 = some p.2
theorem vW {hl : List (Nat × AObj)} (h : (hl.all fun p => Nat.blt p.1 800) = true) {i : Nat} (hi : 800 ≤ i) : look hl i = none := gR fun hm => by
 obtain ⟨p, hp, rfl⟩ := mem_map.1 hm;have := le_of_ble_eq_true ((all_eq_true.1 h) p hp);omega
theorem FarEq.raw {hl F : List (Nat × AObj)} (hF : TF F) (h : (hl.all fun p => Nat.blt p.1 800) = true := by rfl) : FarEq (fun i => match look hl i with | some x => some x | none => bif Nat.blt i 800 then none else look F i) F := fun p hp => by
 have h1 := hF.far p hp;show (match look hl p.1 with | some x => some x | none => bif Nat.blt p.1 800 then none else look F p.1) = _;rw [vW h h1, zL h1];exact oI hF.nodup p hp
theorem FarEq.mkt {el : List (Nat × V)} {hl F : List (Nat × AObj)} (hF : TF F) (h : (hl.all fun p => Nat.blt p.1 800) = true := by rfl) : FarEq (mkt el hl F).h F := FarEq.raw hF h
theorem FarEq.upd {h : cK} {F : List (Nat × AObj)} {k : Nat} {x : Option AObj} (hF : TF F) (hf : FarEq h F) (hk : Nat.blt k 800 = true := by rfl) : FarEq (upd h k x) F := fun p hp => by
 have h1 := hF.far p hp;have := le_of_ble_eq_true hk;rw [b7 _ _ _ (by omega)]; exact hf p hp
theorem FarEq.updL {h : cK} {F : List (Nat × AObj)} {l : List (Nat × Option AObj)} (hF : TF F) (hf : FarEq h F) (hk : (l.all fun p => Nat.blt p.1 800) = true := by rfl) : FarEq (updL h l) F := fun p hp => by
 have h1 := hF.far p hp;simp only [Go.AM.updL];have : look l p.1 = none := gR fun hm => by
  obtain ⟨q, hq, e⟩ := mem_map.1 hm;have := le_of_ble_eq_true ((all_eq_true.1 hk) q hq);omega
 rw [this]; exact hf p hp
theorem tK {hl F : List (Nat × AObj)} (hF : TF F) (h1 : distinct (hl.map (·.1)) = true) (h2 : (hl.all fun p => Nat.blt p.1 800) = true) : ((hl ++ F).map (·.1)).Nodup := by
 rw [map_append, nodup_append];refine ⟨dJ h1, hF.nodup, fun a ha b hb e => ?_⟩;subst e;obtain ⟨p, hp, rfl⟩ := mem_map.1 ha;obtain ⟨q, hq, e⟩ := mem_map.1 hb;have := le_of_ble_eq_true ((all_eq_true.1 h2) p hp);have := hF.far q hq;omega
theorem n7 {hl F : List (Nat × AObj)} (hF : TF F) (h : ∀ x ∈ dG hl, x ∈ keys hl ∨ x ∈ keys F) : ∀ x ∈ dG (hl ++ F), x ∈ keys (hl ++ F) := fun x hx => by
 rw [iF, hF.refs, append_nil] at hx;unfold keys at h ⊢;rw [map_append, mem_append];exact h x hx
theorem Sub.tailT {kf : List Nat} {st1 : St} {el : List (Nat × V)} {hl F : List (Nat × AObj)} (σ : Nat → Nat) (hF : TF F) (he : eQ (fun p => st1.e p.1 = some (p.2.ren σ)) el) (hh : eQ (fun p => ∃ o, st1.h (σ p.1) = some o ∧ Ole σ o p.2) hl)
  (hhF : ∀ p ∈ F, ∃ o, st1.h (σ p.1) = some o ∧ Ole σ o p.2) (hd : st1.d = []) (h1 : ∀ x ∈ n8 el, x ∈ keys hl ∨ x ∈ keys F) (h2 : ∀ x ∈ dG hl, x ∈ keys hl ∨ x ∈ keys F) (h3 : ((hl ++ F).map fun p => σ p.1).Nodup) (h4 : ∀ i ∈ kf, (i ∈ keys hl ∨ i ∈ keys F) ∧ σ i = i) :
  Sub kf (mkt el hl F) st1 := by
 rw [aJm hF];refine Sub.list σ he (eQ.app hh (eQ.of hhF)) ?_;have hk : ∀ x, (x ∈ keys hl ∨ x ∈ keys F) → x ∈ (hl ++ F).map (·.1) := fun x hx => by rw [map_append, mem_append]; exact hx
 simp only [aTu, Bool.and_eq_true];refine ⟨⟨⟨⟨⟨eJ fun x hx => hk x (h1 x hx), eJ (n7 hF h2)⟩, fM h3⟩, eJ fun x hx => hk x (h4 x hx).1⟩, all_eq_true.2 fun i hi => by rw [(h4 i hi).2]; simp⟩, by rw [hd]; rfl⟩
theorem slT {kf : List Nat} {st1 : St} {el : List (Nat × V)} {hl F : List (Nat × AObj)} (hF : TF F) (hf : FarEq st1.h F) (h1 : ∀ x ∈ n8 el, x ∈ keys hl ∨ x ∈ keys F) (h2 : ∀ x ∈ dG hl, x ∈ keys hl ∨ x ∈ keys F) (h4 : ∀ i ∈ kf, i ∈ keys hl ∨ i ∈ keys F)
  (he : eQ (fun p => st1.e p.1 = some (p.2.ren (fun i => i))) el := by repeat (first | exact trivial | refine ⟨by first | rfl | exact congrArg some (V.ren_id _).symm, ?_⟩))
  (hh : eQ (fun p => ∃ o, st1.h p.1 = some o ∧ Ole (fun i => i) o p.2) hl := by repeat (first | exact trivial | refine ⟨⟨_, rfl, by first | exact Go.AM.Ole.arr | exact Go.AM.Ole.var rfl | exact Go.AM.Ole.varS rfl | exact Go.AM.Ole.map | exact Go.AM.Ole.rarrS rfl⟩, ?_⟩))
  (hd : st1.d = [] := by rfl) (h3 : distinct (hl.map (·.1)) = true := by rfl) (h3' : (hl.all fun p => Nat.blt p.1 800) = true := by rfl) : Sub kf (mkt el hl F) st1 :=
 Sub.tailT (fun i => i) hF he hh (fun p hp => ⟨p.2, hf p hp, .refl_id (by intro e; have := (hF.ok p hp).1; rw [e] at this; cases this)⟩) hd h1 h2 (tK hF h3 h3') fun i hi => ⟨h4 i hi, rfl⟩
section
variable {P : Program} {T : TT}
theorem sG {f : FuncId} {fn : Func} {c : Code} {n : Nat} {args : List V} {hl F hout : List (Nat × AObj)} {res : V} (hF : TF F) (hT : Tok P T) (hf : P.funcs[f]? = some fn) (hb : fn.body = some c) (hn : fn.ntmps = n) (hle : Nat.ble args.length n = true)
  (h : AWp none P n (keys (hl ++ F)) c (mkt (aTz 0 args) hl F) (fun ex st => (ex = .normal ∨ ex = .ret) ∧ Fin T fn st (hl ++ F) res hout)) : aU P f args (hl ++ F) res hout := bT hT hf hb hn hle (by rw [aJm hF] at h; exact h)
theorem aBw {fn : Func} {st : St} {hin hl F : List (Nat × AObj)} {res : V} (hF : TF F) (hf : FarEq st.h F) (hex : ∃ vs vs', ResV T st fn.results.toList vs ∧ Convs st.h vs vs' ∧ aPf vs' = res)
  (h1 : ∀ x ∈ res.refs, x ∈ keys hl ∨ x ∈ keys F) (h2 : ∀ x ∈ dG hl, x ∈ keys hl ∨ x ∈ keys F) (h4 : ∀ i ∈ keys hin, i ∈ keys hl ∨ i ∈ keys F) (h5 : ∀ p ∈ hin, p.2.plain = true)
  (hh : eQ (fun p => ∃ o, st.h p.1 = some o ∧ Ole (fun i => i) o p.2) hl := by repeat (first | exact trivial | refine ⟨⟨_, rfl, by first | exact Go.AM.Ole.arr | exact Go.AM.Ole.var rfl | exact Go.AM.Ole.varS rfl | exact Go.AM.Ole.map | exact Go.AM.Ole.rarrS rfl⟩, ?_⟩))
  (h3 : distinct (hl.map (·.1)) = true := by rfl) (h3' : (hl.all fun p => Nat.blt p.1 800) = true := by rfl) (h6 : (hl.all fun p => p.2.plain) = true := by rfl) : Fin T fn st hin res (hl ++ F) := by
 refine ⟨hex, eQ.app hh (eQ.of fun p hp => ⟨p.2, hf p hp, .refl_id (by intro e; have := (hF.ok p hp).1; rw [e] at this; cases this)⟩), ?_⟩;have hk : ∀ x, (x ∈ keys hl ∨ x ∈ keys F) → x ∈ keys (hl ++ F) := fun x hx => by unfold keys at *; rw [map_append, mem_append]; exact hx
 simp only [Bool.and_eq_true];refine ⟨⟨⟨⟨⟨eJ fun x hx => hk x (h1 x hx), eJ (n7 hF h2)⟩, fM (tK hF h3 h3')⟩, eJ fun x hx => hk x (h4 x hx)⟩, all_eq_true.2 h5⟩, ?_⟩;rw [all_append, Bool.and_eq_true];exact ⟨h6, all_eq_true.2 fun p hp => (hF.ok p hp).2⟩
end
theorem qF {h : cK} {hl F : List (Nat × AObj)} (hF : TF F) : updL h (outs (hl ++ F)) = fun i => bif Nat.blt i 800 then updL h (outs hl) i else updL h (outs (hl ++ F)) i := by
 funext i;by_cases hi : i < 800
 ·rw [aGw hi, cond_true, jZ, jZ, qB, hF.near hi];cases look hl i <;> rfl
 ·rw [zL (Nat.le_of_not_lt hi), cond_false]
theorem FarEq.outs {h : cK} {hl F : List (Nat × AObj)} (hF : TF F) (hk : (hl.all fun p => Nat.blt p.1 800) = true := by rfl) : FarEq (Go.AM.updL h (Go.AM.outs (hl ++ F))) F := fun p hp => by
 rw [jZ, qB, vW hk (hF.far p hp), oI hF.nodup p hp]
theorem FarEq.bif {h h' : cK} {F : List (Nat × AObj)} (hF : TF F) (hf : FarEq h F) : FarEq (fun i => bif Nat.blt i 800 then h' i else h i) F := fun p hp => by
 show (bif Nat.blt p.1 800 then h' p.1 else h p.1) = _;rw [zL (hF.far p hp)]; exact hf p hp
theorem mY {args : List V} {hl F : List (Nat × AObj)} (hF : TF F) (h1 : ∀ x ∈ V.refsL args, x ∈ keys hl ∨ x ∈ keys F) (h2 : ∀ x ∈ dG hl, x ∈ keys hl ∨ x ∈ keys F) (h3 : (hl.all fun p => p.2.live) = true := by rfl) : jW args (hl ++ F) = true := by
 have hk : ∀ x, (x ∈ keys hl ∨ x ∈ keys F) → x ∈ keys (hl ++ F) := fun x hx => by unfold keys at *; rw [map_append, mem_append]; exact hx
 simp only [jW, Bool.and_eq_true];refine ⟨⟨eJ fun x hx => hk x (h1 x hx), eJ (n7 hF h2)⟩, ?_⟩;rw [all_append, Bool.and_eq_true];exact ⟨h3, all_eq_true.2 fun p hp => (hF.ok p hp).1⟩
theorem FarEq.all {h : cK} {F : List (Nat × AObj)} (hf : FarEq h F) : eQ (fun p => h p.1 = some p.2) F := eQ.of hf
theorem aU.toR {P : Program} {f : FuncId} {args : List V} {id te es n : Nat} {elems : List (List C)} (h : aU P f args [] (.one (.hs id 0 n n)) [(id, .arr te es elems 0)]) : aU P f args [] (.one (.ra id 0 n n)) [(id, .rarr te es (elems.map (·.map R.c)))] := by
 intro S μ w vals hI hv;refine Calls.mono (h S μ w vals hI hv) ?_;rintro e w' ⟨S', μ', v, h1, h2, h3⟩;have key : ∀ {o : AObj} {j : Nat} {x : AObj}, look [(id, o)] j = some x → j = id ∧ x = o := by
  intro o j x hj;simp only [look] at hj;split at hj
  ·rename_i hb; cases hj; exact ⟨eq_of_beq_eq_true hb, rfl⟩
  ·cases hj
 have hid : ∀ o : AObj, look [(id, o)] id = some o := fun o => by simp [look]
 have hfl : (elems.map (·.map R.c)).flatten = elems.flatten.map R.c := by rw [List.map_flatten]
 refine ⟨S', μ', v, h1, ⟨h2.holds, fun j o hj => ?_, fun i j o o' b c c' hi hj _ _ => ?_, fun i o b c hi hm => ?_, h2.frame, h2.sle, h2.sto, ⟨h2.evo.le, fun j o hj => by cases hj⟩⟩, ?_⟩
 ·obtain ⟨rfl, rfl⟩ := key hj;obtain ⟨g0, g⟩ := h2.obj j _ (hid _);refine ⟨fun r hr => ?_, ?_⟩
  ·obtain ⟨r', hr', rfl⟩ := mem_map.1 hr;rw [length_map]; exact g0 r' hr'
  ·rcases g with ⟨g1, g2⟩ | ⟨b, base, cap, vs, g1, g2, g3, g4, g5, g6, g7, g8, g9⟩
   ·exact .inl ⟨g1, by rw [g2]; rfl⟩
   ·refine .inr ⟨b, base, cap, vs, g1, g2, g3, by rw [length_map]; exact g4, g5, ?_, g7 rfl⟩;rw [hfl, length_map];exact g6.toR
 ·rw [(key hi).1, (key hj).1]
 ·obtain ⟨rfl, rfl⟩ := key hi;exact h2.own i _ b c (hid _) hm
 ·simp only [aW, b9] at h3 ⊢;obtain ⟨k0, k | ⟨te', es', el', fz', k1, k2, k3⟩⟩ := h3
  ·rw [hid] at k; cases k
  ·rw [hid] at k1; cases k1;refine ⟨k0, .inr ⟨te, es, _, hid _, by rw [length_map]; exact k2, fun e => ?_⟩⟩;rw [length_map] at e;obtain ⟨q1, q2⟩ := k3 e;refine ⟨q1, ?_⟩;rcases q2 with ⟨q2, q3, q4⟩ | q2
   ·exact .inl ⟨q2, by rw [q3]; rfl, q4⟩
   ·exact .inr q2
structure GW (G F : List (Nat × AObj)) : Prop where
 tf : TF F
 refs : ∀ x ∈ dG G, x ∈ keys G ∨ x ∈ keys F
 near : (G.all fun p => Nat.blt p.1 800) = true
 plain : (G.all fun p => p.2.plain) = true
theorem gN {α : Type} {a b : List (Nat × α)} {x : Nat} : x ∈ keys (a ++ b) ↔ x ∈ keys a ∨ x ∈ keys b := by unfold keys; rw [map_append, mem_append]
theorem GW.kf {G F : List (Nat × AObj)} : ∀ i ∈ keys (G ++ F), i ∈ keys G ∨ i ∈ keys F := fun _ h => gN.1 h
def Kn (ex G F : List (Nat × AObj)) (x : Nat) : Prop := x ∈ keys ex ∨ x ∈ keys G ∨ x ∈ keys F
theorem Kn.of {l : List Nat} {ex G F : List (Nat × AObj)} (h : subset l (keys ex ++ keys G) = true) : ∀ x ∈ l, Kn ex G F x := fun x hx => by
 rcases mem_append.1 (bP h x hx) with h | h
 ·exact .inl h
 ·exact .inr (.inl h)
theorem Kn.app {a b : List Nat} {ex G F : List (Nat × AObj)} (h : ∀ x ∈ a, Kn ex G F x) (k : ∀ x ∈ b, Kn ex G F x) : ∀ x ∈ a ++ b, Kn ex G F x := fun x hx => (mem_append.1 hx).elim (h x) (k x)
def GF (G F : List (Nat × AObj)) (l : List Nat) : Prop := ∀ x ∈ l, x ∈ keys G ∨ x ∈ keys F
theorem Kn.gf {l : List Nat} {ex G F : List (Nat × AObj)} (h : GF G F l) : ∀ x ∈ l, Kn ex G F x := fun x hx => .inr (h x hx)
theorem GF.app {G F : List (Nat × AObj)} {a b : List Nat} (h : GF G F a) (k : GF G F b) : GF G F (a ++ b) := fun x hx => (mem_append.1 hx).elim (h x) (k x)
theorem Kn.nil {ex G F : List (Nat × AObj)} : ∀ x ∈ ([] : List Nat), Kn ex G F x := fun _ h => by cases h
theorem y2 {ex : List (Nat × AObj)} {p : Nat → Prop} (h : eQ (fun q => ∀ x ∈ q.2.refs, p x) ex) : ∀ x ∈ dG ex, p x := by
 induction ex with
 | nil => intro x hx; cases hx
 | cons q l ih =>
  intro x hx;rcases mem_append.1 (show x ∈ q.2.refs ++ dG l from hx) with hx | hx
  ·exact h.1 x hx
  ·exact ih h.2 x hx
theorem Kn.split {ex G F : List (Nat × AObj)} {x : Nat} (h : Kn ex G F x) : x ∈ keys (ex ++ G) ∨ x ∈ keys F := by
 rcases h with h | h | h
 ·exact .inl (gN.2 (.inl h))
 ·exact .inl (gN.2 (.inr h))
 ·exact .inr h
theorem GW.all {ex G F : List (Nat × AObj)} (W : GW G F) (h2 : eQ (fun q => ∀ x ∈ q.2.refs, Kn ex G F x) ex) : ∀ x ∈ dG (ex ++ G), x ∈ keys (ex ++ G) ∨ x ∈ keys F := fun x hx => by
 rw [iF] at hx;rcases mem_append.1 hx with hx | hx
 ·exact (y2 h2 x hx).split
 ·exact (W.refs x hx).imp (fun h => gN.2 (.inr h)) id
theorem slG {kf : List Nat} {st1 : St} {el : List (Nat × V)} {ex G F : List (Nat × AObj)} (W : GW G F)
  (h4 : ∀ i ∈ kf, i ∈ keys G ∨ i ∈ keys F := by exact Go.AM.GW.kf)
  (hf : FarEq st1.h F := by repeat (first | exact Go.AM.FarEq.raw (by assumption) | (refine Go.AM.FarEq.updL (by assumption) ?_) | (refine Go.AM.FarEq.upd (by assumption) ?_) | (refine Go.AM.FarEq.hfz (by assumption) ?_)))
  (h1 : ∀ x ∈ n8 el, Kn ex G F x := by exact Go.AM.Kn.of rfl)
  (h2 : eQ (fun q => ∀ x ∈ q.2.refs, Kn ex G F x) ex := by repeat (first | exact trivial | refine ⟨by first | exact Go.AM.Kn.of rfl | exact Go.AM.Kn.gf (by assumption), ?_⟩))
  (he : eQ (fun p => st1.e p.1 = some (p.2.ren (fun i => i))) el := by repeat (first | exact trivial | refine ⟨by first | rfl | exact congrArg some (V.ren_id _).symm, ?_⟩))
  (hh : eQ (fun p => ∃ o, st1.h p.1 = some o ∧ Ole (fun i => i) o p.2) (ex ++ G) := by repeat (first | exact trivial | refine ⟨⟨_, rfl, by first | exact Go.AM.Ole.arr | exact Go.AM.Ole.var rfl | exact Go.AM.Ole.varS rfl | exact Go.AM.Ole.map | exact Go.AM.Ole.rarrS rfl⟩, ?_⟩))
  (hd : st1.d = [] := by rfl) (h3 : distinct ((ex ++ G).map (·.1)) = true := by rfl) (h3' : ((ex ++ G).all fun p => Nat.blt p.1 800) = true := by rfl) : Sub kf (mkt el (ex ++ G) F) st1 :=
 slT W.tf hf (fun x hx => (h1 x hx).split) (W.all h2) (fun i hi => (h4 i hi).imp (fun h => gN.2 (.inr h)) id) he hh hd h3 h3'
theorem rtG {T : TT} {fn : Func} {st : St} {G F : List (Nat × AObj)} {res : V} {t : Nat} (W : GW G F) (hr : fn.results.toList = [.tmp t] := by rfl) (hv : st.e t = some res := by rfl)
  (hf : FarEq st.h F := by repeat (first | exact Go.AM.FarEq.raw (by assumption) | (refine Go.AM.FarEq.updL (by assumption) ?_) | (refine Go.AM.FarEq.upd (by assumption) ?_) | (refine Go.AM.FarEq.hfz (by assumption) ?_)))
  (h1 : ∀ x ∈ res.refs, Kn [] G F x := by exact Go.AM.Kn.of rfl)
  (hh : eQ (fun p => ∃ o, st.h p.1 = some o ∧ Ole (fun i => i) o p.2) G := by repeat (first | exact trivial | refine ⟨⟨_, rfl, by first | exact Go.AM.Ole.arr | exact Go.AM.Ole.var rfl | exact Go.AM.Ole.varS rfl | exact Go.AM.Ole.map | exact Go.AM.Ole.rarrS rfl⟩, ?_⟩))
  (h3 : distinct (G.map (·.1)) = true := by rfl) : (Exit.ret = .normal ∨ Exit.ret = .ret) ∧ Fin T fn st (G ++ F) res (G ++ F) := by
 refine ⟨.inr rfl, aBw W.tf hf ⟨[res], [res], by rw [hr]; exact .tmp hv .nil, .cons .refl .nil, rfl⟩ (fun x hx => (h1 x hx).split) (fun x hx => W.refs x hx) GW.kf (fun p hp => ?_) hh h3 W.near W.plain⟩;rcases mem_append.1 hp with hp | hp
 ·exact (all_eq_true.1 W.plain) p hp
 ·exact (W.tf.ok p hp).2
theorem kix {tr : Tr} {P : Program} {n : Nat} {ops : Array Oper} {draw : Bool} {k d : Nat} {st : St} {pre : REs} {Q : St → Prop} {o : Oper} {t te : TypeId} {i ei : TI} {x y : Operand} {id len sz j es te' fz : Nat} {kk : IntKind} {elems : List (List C)} (hT : Tok P tr.flat)
  (hh : st.h id = some (.arr te' es elems fz)) (hx : opv st x = some (.one (.hs id 0 len sz))) (hsz : sz = elems.length) (hlt : j < len)
  (hk : mA P n ops draw (k + 1) ⟨upd st.e d (some (.one (.ep id j 0 sz))), st.h, st.d⟩ ((⟨opr x ++ opr y, [id]⟩, ⟨some (d, some (.one (.ep id j 0 sz))), []⟩) :: pre) Q)
  (hw : tr.wf = true) (ho : ops[k]? = some o := by rfl) (hg : o.guard = none := by rfl) (hop : o.op = .indexAddr t x y := by rfl) (hd : o.dst = some d := by rfl) (hdn : Nat.blt d n = true := by rfl)
  (hi : tr.get t = some i := by rfl) (hik : i.k = .sl te := by rfl) (hei : tr.get te = some ei := by rfl) (hes : ei.size = es := by rfl) (hy : opv st y = some (I kk (j : Int)) := by rfl) : mA P n ops draw k st pre Q := by
 have h := tC (P := P) (n := n) hT hop hd (kX hdn) (Tr.get_ok hw hi) hik (Tr.get_ok hw hei) hes hx hh hsz hy rfl hlt;rw [zero_add] at h;exact k_ (g_ ho hg h) hk
theorem aZi {tr : Tr} {P : Program} {n : Nat} {ops : Array Oper} {draw : Bool} {k d : Nat} {st : St} {pre : REs} {Q : St → Prop} {o : Oper} {t te : TypeId} {i : TI} {x : Operand} {id off len sz es te' fz : Nat} {elems : List (List C)} (hT : Tok P tr.flat)
  (hh : st.h id = some (.arr te' es elems fz)) (hx : opv st x = some (.one (.hs id off len sz))) (hsz : sz = elems.length)
  (hk : mA P n ops draw (k + 1) ⟨upd st.e d (some (I .i64 (len : Int))), st.h, st.d⟩ ((⟨opr x, [id]⟩, ⟨some (d, some (I .i64 (len : Int))), []⟩) :: pre) Q)
  (hw : tr.wf = true) (ho : ops[k]? = some o := by rfl) (hg : o.guard = none := by rfl) (hop : o.op = .call { callee := .builtin .len, args := #[x], argTypes := #[t] } := by rfl) (hd : o.dst = some d := by rfl) (hdn : Nat.blt d n = true := by rfl)
  (hi : tr.get t = some i := by rfl) (hik : i.k = .sl te := by rfl) : mA P n ops draw k st pre Q :=
 k_ (g_ ho hg (aDs (P := P) (n := n) hT hop hd (kX hdn) (Tr.get_ok hw hi) hik hx hh hsz)) hk
def fzH (id : Nat) (z : Fz) : List (Nat × AObj) → List (Nat × AObj)
 | [] => []
 | (k, o) :: l => (k, o.fz id z) :: fzH id z l
theorem aEl {id : Nat} {z : Fz} : ∀ {l : List (Nat × V)} {t : Nat}, look (fzE id z l) t = (look l t).map (V.fz id z)
 | [], _ => rfl
 | (k, v) :: l, t => by
  simp only [fzE, look];cases Nat.beq t k
  ·simpa using aEl (l := l) (t := t)
  ·rfl
theorem wA {id : Nat} {z : Fz} : ∀ {l : List (Nat × AObj)} {t : Nat}, look (fzH id z l) t = (look l t).map (AObj.fz id z)
 | [], _ => rfl
 | (k, v) :: l, t => by
  simp only [fzH, look];cases Nat.beq t k
  ·simpa using wA (l := l) (t := t)
  ·rfl
section
variable {id n es : Nat} {l : List R}
mutual
theorem R.fz_far : ∀ (r : R), id ∉ r.refs → r.fz id (.ra n es l) = r
 | .c _, _ => rfl
 | .hs .., _ => rfl
 | .tl .., _ => rfl
 | .vp .., _ => rfl
 | .ep .., _ => rfl
 | .mr _, _ => rfl
 | .clo f caps, h => by simp only [R.fz, R.fzL_far caps (by simpa only [R.refs] using h)]
 | .mth f x, h => by simp only [R.fz, R.fz_far x (by simpa only [R.refs] using h)]
 | .yl _, _ => rfl
 | .ra j off len sz, h => by
  have hj : j ≠ id := fun e => h (by simp [R.refs, e])
  have hb : Nat.beq j id = false := by
   cases hb : Nat.beq j id with
   | false => rfl
   | true => exact absurd (eq_of_beq_eq_true hb) hj
  simp [R.fz, hb]
 | .rp j i fo sz, h => by
  have hj : j ≠ id := fun e => h (by simp [R.refs, e])
  have hb : Nat.beq j id = false := by
   cases hb : Nat.beq j id with
   | false => rfl
   | true => exact absurd (eq_of_beq_eq_true hb) hj
  simp [R.fz, hb]
 | .ras m e r, h => by simp only [R.fz, R.fzL_far r (by simpa only [R.refs] using h)]
 | .pas r, h => by simp only [R.fz, R.fzL_far r (by simpa only [R.refs] using h)]
theorem R.fzL_far : ∀ (r : List R), id ∉ R.refsL r → R.fzL id (.ra n es l) r = r
 | [], _ => rfl
 | r :: rs, h => by
  simp only [R.refsL, mem_append, not_or] at h;simp only [R.fzL, R.fz_far r h.1, R.fzL_far rs h.2]
end
theorem rJ : ∀ (r : List (List R)), id ∉ c8 r → fzR id (.ra n es l) r = r
 | [], _ => rfl
 | r :: rs, h => by
  simp only [c8, mem_append, not_or] at h;simp only [fzR, R.fzL_far r h.1, rJ rs h.2]
theorem aOa {m : Nat} (h : m = n) : R.fz id (.ra n es l) (.ra id 0 m m) = .ras n es l := by subst h; simp [R.fz]
end
theorem Sub.fraT {kf : List Nat} {el : List (Nat × V)} {rest F : List (Nat × AObj)} {id te es : Nat} {rows : List (List R)} (hF : TF F) (hkf : id ∉ kf) (hs0 : id ∉ c8 rows) (hlt : Nat.blt id 800 = true := by rfl) (hnd : distinct (id :: rest.map (·.1)) = true := by rfl) :
  Sub kf (mkt (fzE id (.ra rows.length es rows.flatten) el) (fzH id (.ra rows.length es rows.flatten) rest) F) (mkt el ((id, .rarr te es rows) :: rest) F) := by
 have hs1 : id ∉ R.refsL rows.flatten := by
  have key : ∀ l : List (List R), R.refsL l.flatten = c8 l := by
   intro l
   induction l with
   | nil => rfl
   | cons r l ih => rw [flatten_cons, R.refsL_append, ih]; rfl
  rw [key]; exact hs0
 have h := Sub.fra (kf := kf) (st := mkt el ((id, .rarr te es rows) :: rest) F) (id := id) (te := te) (es := es) (elems := rows) (by
  show (match look ((id, AObj.rarr te es rows) :: rest) id with | some x => some x | none => _) = _
  rw [dE]) hkf (R.fzL_far _ hs1) hs1
 have e : (⟨fun t => ((mkt el ((id, .rarr te es rows) :: rest) F).e t).map (V.fz id (.ra rows.length es rows.flatten)), hfz id (.ra rows.length es rows.flatten) (mkt el ((id, .rarr te es rows) :: rest) F).h, (mkt el ((id, .rarr te es rows) :: rest) F).d⟩ : St) =
   mkt (fzE id (.ra rows.length es rows.flatten) el) (fzH id (.ra rows.length es rows.flatten) rest) F := by
  unfold mkt;congr 1
  ·funext t; exact aEl.symm
  ·funext j;have hnd' := dJ hnd;simp only [nodup_cons] at hnd';have hid := le_of_ble_eq_true hlt;by_cases hj : j = id
   ·subst hj;rw [aP9, wA, gR hnd'.1, Option.map_none];simp only [hlt, cond_true]
   ·rw [jC hj];show Option.map _ (match look ((id, AObj.rarr te es rows) :: rest) j with | some x => some x | none => bif Nat.blt j 800 then none else look F j) = _;rw [dT hj, wA];cases look rest j with
    | some x => rfl
    | none =>
     simp only [Option.map_none];by_cases h8 : j < 800
     ·simp only [aGw h8, cond_true, Option.map_none]
     ·simp only [zL (Nat.le_of_not_lt h8), cond_false];cases hl : look F j with
      | none => rfl
      | some o =>
       obtain ⟨te', es', l', z', ho⟩ := hF.arr _ (c7 hl);have ho : o = _ := ho;subst ho; rfl
 rw [e] at h;exact h
end Go.AM
namespace Go.Proofs.YtmoekkcdkjopgaaGreatDoor
open Go Go.AM
set_option maxRecDepth 20000
def eD (f n : Int) (s : Str) (t : Ty) (nk nb na : Nat) : List R := [.c (.int .i64 f), .c (.int .i64 n), .c (.str s), .c (.int .i64 t.form), .c (.int .i64 t.n), .c (.str t.name), .c (.sl 4 (gG t)), .hs 702 0 nk nk, .hs 701 0 nb nb, .ra 703 0 na na]
def dH (k : Nat) (a : Alt) : List R := [.c (.int .i64 a.form), .c (.int .i64 a.n), .c (.str a.name), .hs (k + 800) 0 a.vars.length a.vars.length] ++ (aC a.body).map R.c
def aS : Nat → List Alt → List (List R)
 | _, [] => []
 | k, a :: l => dH k a :: aS (k + 1) l
def fam : Nat → List Alt → List (Nat × AObj)
 | _, [] => []
 | k, a :: l => (k + 800, .arr 9 1 (a.vars.map bN) 0) :: fam (k + 1) l
theorem lT : ∀ {l : List Alt} {k i : Nat} {a : Alt}, l[i]? = some a → (aS k l)[i]? = some (dH (k + i) a)
 | b :: l, k, 0, a, h => by simp at h; subst h; rfl
 | b :: l, k, i + 1, a, h => by
  simp only [aS, List.getElem?_cons_succ];rw [lT (by simpa using h), show k + 1 + i = k + (i + 1) by omega]
theorem eC : ∀ {l : List Alt} {k : Nat}, (aS k l).length = l.length
 | [], _ => rfl
 | _ :: l, k => by simp [aS, eC (l := l)]
theorem yW : ∀ {l : List Alt} {k i : Nat} {a : Alt}, l[i]? = some a → (k + i + 800, AObj.arr 9 1 (a.vars.map bN) 0) ∈ fam k l
 | b :: l, k, 0, a, h => by simp at h; subst h; exact mem_cons_self
 | b :: l, k, i + 1, a, h => by
  have := yW (l := l) (k := k + 1) (by simpa using h);rw [show k + 1 + i = k + (i + 1) by omega] at this;exact mem_cons_of_mem _ this
theorem mW : ∀ {l : List Alt} {k : Nat} {p : Nat × AObj}, p ∈ fam k l → ∃ i a, l[i]? = some a ∧ p = (k + i + 800, AObj.arr 9 1 (a.vars.map bN) 0)
 | b :: l, k, p, h => by
  rcases mem_cons.1 h with rfl | h
  ·exact ⟨0, b, rfl, rfl⟩
  ·obtain ⟨i, a, h1, h2⟩ := mW h;exact ⟨i + 1, a, h1, by rw [h2, show k + 1 + i = k + (i + 1) by omega]⟩
theorem kR : ∀ {l : List Alt} {k : Nat}, ((fam k l).map (·.1)).Nodup
 | [], _ => nodup_nil
 | a :: l, k => by
  simp only [fam, map_cons];refine nodup_cons.2 ⟨fun h => ?_, kR⟩;obtain ⟨p, hp, e⟩ := mem_map.1 h;obtain ⟨i, b, _, rfl⟩ := mW hp;simp only at e; omega
theorem fJ {l : List Alt} {k : Nat} : TF (fam k l) := ⟨fun p hp => by obtain ⟨i, a, _, rfl⟩ := mW hp; simp only; omega, kR, fun p hp => by obtain ⟨i, a, _, rfl⟩ := mW hp; exact ⟨_, _, _, _, rfl⟩⟩
theorem aKs {l : List Alt} {k i : Nat} (h : i < l.length) : k + i + 800 ∈ keys (fam k l) := by
 obtain ⟨a, ha⟩ := aK h;exact mem_map.2 ⟨_, yW ha, rfl⟩
theorem pD {k : Nat} {a : Alt} {x : Nat} (h : x ∈ R.refsL (dH k a)) : x = k + 800 := by
 unfold dH aC at h;simpa [R.refsL, R.refs] using h
theorem cR : ∀ {l : List Alt} {k : Nat}, ∀ x ∈ c8 (aS k l), x ∈ keys (fam k l)
 | [], _, x, h => by simp [aS, c8] at h
 | a :: l, k, x, h => by
  rcases mem_append.1 (show x ∈ R.refsL (dH k a) ++ c8 (aS (k + 1) l) from h) with h | h
  ·rw [pD h]; exact mem_cons_self
  ·exact mem_cons_of_mem _ (cR x h)
def gHl (f n : Int) (s : Str) (t : Ty) (ks : List Core) (bs : List Bind) (al : List Alt) : List (Nat × AObj) :=
 [(700, .var 37 (eD f n s t ks.length bs.length al.length)), (701, .arr 73 15 (aR bs) 0), (702, .arr 37 10 (aQ ks) 0), (703, .rarr 78 14 (aS 0 al))]
theorem qD {f n : Int} {s : Str} {t : Ty} {ks : List Core} {bs : List Bind} {al : List Alt} : ∀ x ∈ dG (gHl f n s t ks bs al), x ∈ keys (gHl f n s t ks bs al) ∨ x ∈ keys (fam 0 al) := fun x hx => by
 simp only [gHl, dG, AObj.refs, eD, R.refsL, R.refs, nil_append, append_nil, mem_append, mem_cons, not_mem_nil, or_false, false_or] at hx;rcases hx with (rfl | rfl | rfl) | hx
 ·exact .inl (by simp [gHl, keys])
 ·exact .inl (by simp [gHl, keys])
 ·exact .inl (by simp [gHl, keys])
 ·exact .inr (cR x hx)
theorem gW {f n : Int} {s : Str} {t : Ty} {ks : List Core} {bs : List Bind} {al : List Alt} : GW (gHl f n s t ks bs al) (fam 0 al) := ⟨fJ, qD, rfl, rfl⟩
def gNm : Bool → List (List R)
 | true => [[.vp 700 2]]
 | false => []
def gPo (rows : List (List R)) : AObj := .rarr 116 1 rows
def gNo (rows : List (List R)) : AObj := .rarr 167 1 rows
def rgR (f : Nat → List R) (k : Nat) : List (List R) := (List.range k).map f
theorem pS (f : Nat → List R) (k : Nat) : rgR f (k + 1) = rgR f k ++ [f k] := by unfold rgR; rw [List.range_succ, map_append]; rfl
theorem fX (f : Nat → List R) (k : Nat) : (rgR f k).length = k := by simp [rgR]
theorem lC {f : Nat → List R} {L : Nat → Prop} (h : ∀ j, ∀ x ∈ R.refsL (f j), L x) (k : Nat) : ∀ x ∈ c8 (rgR f k), L x := by
 have key : ∀ rows : List (List R), (∀ r ∈ rows, ∀ x ∈ R.refsL r, L x) → ∀ x ∈ c8 rows, L x := by
  intro rows
  induction rows with
  | nil => intro _ x hx; simp [c8] at hx
  | cons r rows ih =>
   intro hr x hx;rcases mem_append.1 (show x ∈ R.refsL r ++ c8 rows from hx) with hx | hx
   ·exact hr r mem_cons_self x hx
   ·exact ih (fun q hq => hr q (mem_cons_of_mem _ hq)) x hx
 refine key _ fun r hr => ?_
 obtain ⟨j, _, rfl⟩ := mem_map.1 hr;exact h j
def nR (b : Bool) (nb i : Nat) : List (List R) := gNm b ++ rgR (fun j => [.ep 701 j 0 nb]) i
def pR (nk nb i : Nat) : List (List R) := rgR (fun j => [.ep 702 j 0 nk]) nk ++ rgR (fun j => [.ep 701 j 5 nb]) i
def vR (k nv i : Nat) : List (List R) := rgR (fun j => [.ep (k + 800) j 0 nv]) i
def l7 (na k : Nat) (a : Alt) : List R := [.ras (vR k a.vars.length a.vars.length).length 1 (vR k a.vars.length a.vars.length).flatten, .ras 1 1 [.rp 703 k 4 na]]
def aFn (na : Nat) : Nat → List Alt → List (List R)
 | _, [] => []
 | k, a :: l => l7 na k a :: aFn na (k + 1) l
def oJ (b : Bool) (nk nb : Nat) : List R := [.ras (nR b nb nb).length 1 (nR b nb nb).flatten, .ras (pR nk nb nb).length 1 (pR nk nb nb).flatten]
def c6 (b : Bool) (nk nb na : Nat) (l : List Alt) : List (List R) := oJ b nk nb :: aFn na 0 l
theorem x9 {na : Nat} : ∀ {l : List Alt} {k : Nat}, (aFn na k l).length = l.length
 | [], _ => rfl
 | _ :: l, k => by simp [aFn, x9 (l := l)]
theorem zZ {na : Nat} : ∀ {l : List Alt} {k i : Nat} {a : Alt}, l[i]? = some a → aFn na k (l.take (i + 1)) = aFn na k (l.take i) ++ [l7 na (k + i) a]
 | b :: l, k, 0, a, h => by simp at h; subst h; simp [aFn]
 | b :: l, k, i + 1, a, h => by
  simp only [take_succ_cons, aFn, cons_append];rw [zZ (l := l) (k := k + 1) (by simpa using h), show k + 1 + i = k + (i + 1) by omega]
theorem aL7 {na : Nat} : ∀ {l : List Alt} {k i : Nat} {a : Alt}, l[i]? = some a → (aFn na k l)[i]? = some (l7 na (k + i) a)
 | b :: l, k, 0, a, h => by simp at h; subst h; rfl
 | b :: l, k, i + 1, a, h => by
  simp only [aFn, List.getElem?_cons_succ];rw [aL7 (by simpa using h), show k + 1 + i = k + (i + 1) by omega]
theorem dB : ∀ {rows : List (List R)}, R.refsL rows.flatten = c8 rows
 | [] => rfl
 | r :: rows => by
  rw [flatten_cons, R.refsL_append, dB]; rfl
theorem aN8 {G F : List (Nat × AObj)} {f : Nat → List R} (h : ∀ j, GF G F (R.refsL (f j))) (k : Nat) : GF G F (c8 (rgR f k)) := lC h k
theorem j9 : ∀ (a b : List (List R)), c8 (a ++ b) = c8 a ++ c8 b
 | [], _ => rfl
 | r :: a, b => by simp only [cons_append, c8, j9 a b, append_assoc]
section
variable {f n : Int} {s : Str} {t : Ty} {ks : List Core} {bs : List Bind} {al : List Alt}
abbrev gfo (f n : Int) (s : Str) (t : Ty) (ks : List Core) (bs : List Bind) (al : List Alt) (l : List Nat) : Prop := GF (gHl f n s t ks bs al) (fam 0 al) l
theorem aY5 (nk i : Nat) : gfo f n s t ks bs al (c8 (rgR (fun j => [.ep 702 j 0 nk]) i)) := aN8 (fun j x hx => .inl (by
 have : x = 702 := by simpa [R.refsL, R.refs] using hx
 subst this; simp [gHl, keys])) i
theorem aQb (b : Bool) (nb i : Nat) : gfo f n s t ks bs al (c8 (nR b nb i)) := by
 unfold nR;rw [j9];refine GF.app ?_ (aN8 (fun j x hx => .inl ?_) i)
 ·cases b
  ·exact fun x hx => by simp [gNm, c8] at hx
  ·intro x hx;have : x = 700 := by simpa [gNm, c8, R.refsL, R.refs] using hx
   subst this; exact .inl (by simp [gHl, keys])
 ·have : x = 701 := by simpa [R.refsL, R.refs] using hx
  subst this; simp [gHl, keys]
theorem aMr (nk nb i : Nat) : gfo f n s t ks bs al (c8 (pR nk nb i)) := by
 unfold pR;rw [j9];refine GF.app (aY5 _ _) (aN8 (fun j x hx => .inl ?_) i);have : x = 701 := by simpa [R.refsL, R.refs] using hx
 subst this; simp [gHl, keys]
theorem aXi {k : Nat} (hk : k < al.length) (nv i : Nat) : gfo f n s t ks bs al (c8 (vR k nv i)) := by
 unfold vR;refine aN8 (fun j x hx => .inr ?_) i;have : x = k + 800 := by simpa [R.refsL, R.refs] using hx
 subst this;have := aKs (k := 0) hk;rwa [zero_add] at this
theorem aV1 {k : Nat} (hk : k < al.length) (a : Alt) : gfo f n s t ks bs al (R.refsL (l7 al.length k a)) := by
 unfold l7;simp only [R.refsL, R.refs, dB, append_nil];refine GF.app (aXi hk _ _) fun x hx => .inl ?_
 have : x = 703 := by simpa using hx
 subst this; simp [gHl, keys]
theorem aKb : ∀ {l : List Alt} {k : Nat}, k + l.length ≤ al.length → gfo f n s t ks bs al (c8 (aFn al.length k l))
 | [], _, _ => fun x hx => by simp [aFn, c8] at hx
 | a :: l, k, h => by
  simp only [length_cons] at h;exact GF.app (aV1 (by omega) a) (aKb (by omega))
theorem mT (b : Bool) (i : Nat) : gfo f n s t ks bs al (c8 (c6 b ks.length bs.length al.length (al.take i))) := by
 unfold c6;refine GF.app ?_ (aKb (by simp; omega));unfold oJ;simp only [R.refsL, R.refs, dB, append_nil];exact GF.app (aQb _ _ _) (aMr _ _ _)
end
theorem j5 {f n : Int} {s : Str} {t : Ty} {ks : List Core} {bs : List Bind} {al : List Alt} {l : List Nat} (h : gfo f n s t ks bs al l) {id : Nat} (h1 : 703 < id) (h2 : id < 800) : id ∉ l := fun hx => by
 rcases h id hx with h | h
 ·have : id = 700 ∨ id = 701 ∨ id = 702 ∨ id = 703 := by simpa [gHl, keys] using h
  omega
 ·obtain ⟨p, hp, e⟩ := mem_map.1 h;have := fJ.far p hp;omega
theorem aV5 {f n : Int} {s : Str} {t : Ty} {ks : List Core} {bs : List Bind} {al : List Alt} {id : Nat} (h1 : 703 < id) (h2 : id < 800) : id ∉ keys (gHl f n s t ks bs al ++ fam 0 al) := j5 (fun x hx => gN.1 hx) h1 h2
theorem rK {f n : Int} {s : Str} {t : Ty} {ks : List Core} {bs : List Bind} {al : List Alt} {id m es : Nat} {l : List R} (h1 : 703 < id) (h2 : id < 800) : fzH id (.ra m es l) (gHl f n s t ks bs al) = gHl f n s t ks bs al := by
 have hb : Nat.beq 703 id = false := by
  cases hb : Nat.beq 703 id with
  | false => rfl
  | true => have := eq_of_beq_eq_true hb; omega
 have hr : id ∉ c8 (aS 0 al) := j5 (fun x hx => .inr (cR x hx)) h1 h2 (f := f) (n := n) (s := s) (t := t) (ks := ks) (bs := bs);simp only [gHl, fzH, AObj.fz, eD, R.fzL, R.fz, hb, rJ _ hr, Bool.false_eq_true, if_false]
theorem rT (b : Bool) (f n : Int) (s : Str) (t : Ty) (ks : List Core) (bs : List Bind) (al : List Alt) (hb5 : decide (f = 5) = b) (hk : ks.length ≤ 600000000000) (hb : bs.length ≤ 600000000000) (ha : al.length ≤ 600000000000) (hv : ∀ a ∈ al, a.vars.length ≤ 600000000000) :
  aU Tryz.prog 66 [.one (.vp 700 0)] (gHl f n s t ks bs al ++ fam 0 al) (.one (.ras (c6 b ks.length bs.length al.length al).length 2 (c6 b ks.length bs.length al.length al).flatten)) (gHl f n s t ks bs al ++ fam 0 al) := by
 have hF : TF (fam 0 al) := fJ;have W : GW (gHl f n s t ks bs al) (fam 0 al) := gW;have hkB : (aR bs).length = bs.length := by rw [bO, length_map]
 have hkK : (aQ ks).length = ks.length := by rw [bC, length_map]
 refine sG hF (n := 123) tok Tryz.func66 rfl rfl rfl ?_;refine a8 (ag [] rfl ?_);refine a8 (ag [] rfl ?_);refine AWp.sub (Sub.ownCellR (x := 3) (k := 1) (id := 712) 116 1 rfl rfl rfl) (AWp.sub (Sub.ownCellR (x := 3) (k := 0) (id := 711) 167 1 rfl rfl rfl) ?_);refine a8 (a8 (ag [] rfl ?_));refine aB ?_;refine aL (fun i : Nat => mkt [(0, .one (.vp 700 0)), (3, .one (.vp 3 0)), (16, I .i64 ((ks.length : Nat) : Int)), (17, I .i64 i)] ([(712, gPo (rgR (fun j => [.ep 702 j 0 ks.length]) i)), (3, .var 125 [.ra 711 0 0 0, .ra 712 0 (rgR (fun j => [.ep 702 j 0 ks.length]) i).length (rgR (fun j => [.ep 702 j 0 ks.length]) i).length]), (711, gNo [])] ++ gHl f n s t ks bs al) (fam 0 al)) (fun i => i ≤ ks.length) (fun i => ks.length - i) 0 (zero_le _) (slG W) ?_;intro i hi;have hpl := fX (fun j => [.ep 702 j 0 ks.length]) i;refine a8 (ag [] rfl ?_);refine a8 (aA rfl (fun hb => ?_) (fun hb => ?_))
 ·have hlt : i < ks.length := by
   have : (i : Int) < (ks.length : Int) := of_decide_eq_true hb;omega
  have hst := pS (fun j => [.ep 702 j 0 ks.length]) i;have hr : gfo f n s t ks bs al (gPo (rgR (fun j => [.ep 702 j 0 ks.length]) (i + 1))).refs := aY5 _ _;refine aD ?_;refine a8 (aB (a8 (ag [] rfl ?_)));refine ag [] rfl ?_;refine ag [] rfl ?_;refine ⟨i + 1, hlt, by dsimp only; omega, ?_⟩;dsimp only;rw [hst] at hr ⊢;refine slG W (hh := ⟨⟨_, rfl, .rarrS rfl⟩, ⟨_, rfl, .var ?_⟩, ⟨_, rfl, .rarrS rfl⟩, ⟨_, rfl, .var rfl⟩, ⟨_, rfl, .arr⟩, ⟨_, rfl, .arr⟩, ⟨_, rfl, .rarrS rfl⟩, trivial⟩);rw [length_append];rfl
 have hge : i = ks.length := by
  have : ¬ (i : Int) < (ks.length : Int) := of_decide_eq_false hb;omega
 subst hge;clear hi hb hpl;have e0 : rgR (fun j => [.ep 702 j 0 ks.length]) ks.length = pR ks.length bs.length 0 := by simp [pR, rgR]
 rw [e0];have hr12 : gfo f n s t ks bs al (gPo (pR ks.length bs.length 0)).refs := aMr _ _ _;have hr11 : gfo f n s t ks bs al (gNo (nR b bs.length 0)).refs := aQb _ _ _;refine aM ?_;refine a8 (AWp.cut (mkt [(0, .one (.vp 700 0)), (3, .one (.vp 3 0))] ([(712, gPo (pR ks.length bs.length 0)), (3, .var 125 [.ra 711 0 (nR b bs.length 0).length (nR b bs.length 0).length, .ra 712 0 (pR ks.length bs.length 0).length (pR ks.length bs.length 0).length]), (711, gNo (nR b bs.length 0))] ++ gHl f n s t ks bs al) (fam 0 al)) ?_ ?_)
 ·refine a8 (ag [] rfl ?_);refine aA rfl (fun hb => ?_) (fun hb => ?_)
  ·have hb : decide (f = 5) = true := hb;rw [hb] at hb5;subst hb5;exact ag [] rfl (slG W)
  ·have hb : decide (f = 5) = false := hb;rw [hb] at hb5;subst hb5;exact aD (slG W)
 clear hr11 hr12 e0;refine a8 (a8 (ag [] rfl ?_));refine aB ?_;refine aL (fun i : Nat => mkt [(0, .one (.vp 700 0)), (3, .one (.vp 3 0)), (49, I .i64 ((bs.length : Nat) : Int)), (50, I .i64 i)] ([(712, gPo (pR ks.length bs.length i)), (3, .var 125 [.ra 711 0 (nR b bs.length i).length (nR b bs.length i).length, .ra 712 0 (pR ks.length bs.length i).length (pR ks.length bs.length i).length]), (711, gNo (nR b bs.length i))] ++ gHl f n s t ks bs al) (fam 0 al)) (fun i => i ≤ bs.length) (fun i => bs.length - i) 0 (zero_le _) (slG W (h2 := ⟨Kn.gf (aMr _ _ _), Kn.of rfl, Kn.gf (aQb _ _ _), trivial⟩)) ?_;intro i hi;have hpl : (pR ks.length bs.length i).length = ks.length + i := by unfold pR; rw [length_append, fX, fX]
 have hnl : (nR b bs.length i).length ≤ 1 + i := by unfold nR; rw [length_append, fX]; cases b <;> simp [gNm]
 refine a8 (ag [] rfl ?_);refine a8 (aA rfl (fun hb => ?_) (fun hb => ?_))
 ·have hlt : i < bs.length := by
   have : (i : Int) < (bs.length : Int) := of_decide_eq_true hb;omega
  have hst1 : pR ks.length bs.length (i + 1) = pR ks.length bs.length i ++ [[.ep 701 i 5 bs.length]] := by unfold pR; rw [pS, append_assoc]
  have hst2 : nR b bs.length (i + 1) = nR b bs.length i ++ [[.ep 701 i 0 bs.length]] := by unfold nR; rw [pS, append_assoc]
  have hr12 : gfo f n s t ks bs al (gPo (pR ks.length bs.length (i + 1))).refs := aMr _ _ _;have hr11 : gfo f n s t ks bs al (gNo (nR b bs.length (i + 1))).refs := aQb _ _ _;refine aD ?_;refine a8 (aB (a8 (ag [] rfl ?_)));refine a8 (ag [] rfl ?_);refine ag [] rfl ?_;refine ag [] rfl ?_;refine ⟨i + 1, hlt, by dsimp only; omega, ?_⟩;dsimp only;rw [hst1, hst2] at *;refine slG W (hh := ⟨⟨_, rfl, .rarrS rfl⟩, ⟨_, rfl, .var ?_⟩, ⟨_, rfl, .rarrS rfl⟩, ⟨_, rfl, .var rfl⟩, ⟨_, rfl, .arr⟩, ⟨_, rfl, .arr⟩, ⟨_, rfl, .rarrS rfl⟩, trivial⟩);rw [length_append, length_append];rfl
 have hge : i = bs.length := by
  have : ¬ (i : Int) < (bs.length : Int) := of_decide_eq_false hb;omega
 subst hge;clear hi hb;refine aM ?_;have hn1 : 711 ∉ c8 (nR b bs.length bs.length) := j5 (aQb (f := f) (n := n) (s := s) (t := t) (ks := ks) (bs := bs) (al := al) b bs.length bs.length) (by omega) (by omega);have hn2 : 712 ∉ c8 (nR b bs.length bs.length) := j5 (aQb (f := f) (n := n) (s := s) (t := t) (ks := ks) (bs := bs) (al := al) b bs.length bs.length) (by omega) (by omega);have hp1 : 711 ∉ c8 (pR ks.length bs.length bs.length) := j5 (aMr (f := f) (n := n) (s := s) (t := t) (ks := ks) (bs := bs) (al := al) ks.length bs.length bs.length) (by omega) (by omega);have hp2 : 712 ∉ c8 (pR ks.length bs.length bs.length) := j5 (aMr (f := f) (n := n) (s := s) (t := t) (ks := ks) (bs := bs) (al := al) ks.length bs.length bs.length) (by omega) (by omega);refine AWp.sub (st2 := mkt [(0, .one (.vp 700 0)), (3, .one (.vp 3 0))] ((712, gPo (pR ks.length bs.length bs.length)) :: ([(3, .var 125 [.ra 711 0 (nR b bs.length bs.length).length (nR b bs.length bs.length).length, .ra 712 0 (pR ks.length bs.length bs.length).length (pR ks.length bs.length bs.length).length]), (711, gNo (nR b bs.length bs.length))] ++ gHl f n s t ks bs al)) (fam 0 al)) (slG (ex := (712, _) :: [_, _]) W (h2 := ⟨Kn.gf (aMr _ _ _), Kn.of rfl, Kn.gf (aQb _ _ _), trivial⟩)) ?_;refine AWp.sub (Sub.fraT hF (aV5 (by omega) (by omega)) hp2) ?_;have e1 : fzH 712 (.ra (pR ks.length bs.length bs.length).length 1 (pR ks.length bs.length bs.length).flatten) ([(3, .var 125 [.ra 711 0 (nR b bs.length bs.length).length (nR b bs.length bs.length).length, .ra 712 0 (pR ks.length bs.length bs.length).length (pR ks.length bs.length bs.length).length]), (711, gNo (nR b bs.length bs.length))] ++ gHl f n s t ks bs al)
   = [(3, .var 125 [.ra 711 0 (nR b bs.length bs.length).length (nR b bs.length bs.length).length, .ras (pR ks.length bs.length bs.length).length 1 (pR ks.length bs.length bs.length).flatten]), (711, gNo (nR b bs.length bs.length))] ++ gHl f n s t ks bs al := by
  show (3, _) :: (711, AObj.rarr _ _ (fzR _ _ _)) :: fzH _ _ (gHl f n s t ks bs al) = _;rw [rK (by omega) (by omega), rJ _ hn2];simp only [AObj.fz, R.fzL, aOa rfl];rfl
 rw [e1];refine AWp.sub (st2 := mkt [(0, .one (.vp 700 0)), (3, .one (.vp 3 0))] ((711, gNo (nR b bs.length bs.length)) :: ([(3, .var 125 [.ra 711 0 (nR b bs.length bs.length).length (nR b bs.length bs.length).length, .ras (pR ks.length bs.length bs.length).length 1 (pR ks.length bs.length bs.length).flatten])] ++ gHl f n s t ks bs al)) (fam 0 al)) (slG (ex := (711, _) :: [_]) W (h2 := ⟨Kn.gf (aQb _ _ _), Kn.app (Kn.of rfl) (Kn.app (by simp only [R.refs, dB]; exact Kn.gf (aMr _ _ _)) Kn.nil), trivial⟩)) ?_;refine AWp.sub (Sub.fraT hF (aV5 (by omega) (by omega)) hn1) ?_;have e2 : fzH 711 (.ra (nR b bs.length bs.length).length 1 (nR b bs.length bs.length).flatten) ([(3, .var 125 [.ra 711 0 (nR b bs.length bs.length).length (nR b bs.length bs.length).length, .ras (pR ks.length bs.length bs.length).length 1 (pR ks.length bs.length bs.length).flatten])] ++ gHl f n s t ks bs al)
   = [(3, .var 125 (oJ b ks.length bs.length))] ++ gHl f n s t ks bs al := by
  show (3, _) :: fzH _ _ (gHl f n s t ks bs al) = _;rw [rK (by omega) (by omega)];simp only [AObj.fz, R.fzL, aOa rfl, R.fz_far (.ras (pR ks.length bs.length bs.length).length 1 (pR ks.length bs.length bs.length).flatten) (show 711 ∉ R.refsL (pR ks.length bs.length bs.length).flatten by rw [dB]; exact hp1)];rfl
 rw [e2];clear e1 e2 hn1 hn2 hp1 hp2 hpl hnl;have hgf : gfo f n s t ks bs al (c8 (c6 b ks.length bs.length al.length (al.take 0))) := mT b 0;have hal : al.length = (aS 0 al).length := eC.symm;refine a8 (ag [(1, .id 713)] rfl ?_);refine a8 (a8 (ag [] rfl ?_));refine aB ?_;refine aL (fun i : Nat => mkt [(0, .one (.vp 700 0)), (7, .one (.ra 713 0 (c6 b ks.length bs.length al.length (al.take i)).length (c6 b ks.length bs.length al.length (al.take i)).length)), (82, I .i64 ((al.length : Nat) : Int)), (83, I .i64 i)] ([(713, .rarr 125 2 (c6 b ks.length bs.length al.length (al.take i)))] ++ gHl f n s t ks bs al) (fam 0 al)) (fun i => i ≤ al.length) (fun i => al.length - i) 0 (zero_le _) (slG W) ?_;intro i hi;have hgl : (c6 b ks.length bs.length al.length (al.take i)).length = 1 + i := by unfold c6; rw [length_cons, x9, length_take]; omega
 refine a8 (ag [] rfl ?_);refine a8 (aA rfl (fun hb => ?_) (fun hb => ?_))
 ·have hlt : i < al.length := by
   have : (i : Int) < (al.length : Int) := of_decide_eq_true hb;omega
  obtain ⟨a, hai⟩ := aK hlt;have hrow : (aS 0 al)[i]? = some (dH i a) := by rw [lT hai, zero_add]
  have hvl := hv a (List.mem_of_getElem? hai);have hobj : (i + 800, AObj.arr 9 1 (a.vars.map bN) 0) ∈ fam 0 al := by have := yW (k := 0) hai; rwa [zero_add] at this
  have hvk : a.vars.length = (a.vars.map bN).length := (length_map _).symm;have hnx : c6 b ks.length bs.length al.length (al.take (i + 1)) = c6 b ks.length bs.length al.length (al.take i) ++ [l7 al.length i a] := by
   unfold c6;rw [zZ hai, zero_add]; rfl
  have hg0 : gfo f n s t ks bs al (c8 (c6 b ks.length bs.length al.length (al.take i))) := mT b i;have hg1 : gfo f n s t ks bs al (c8 (c6 b ks.length bs.length al.length (al.take (i + 1)))) := mT b (i + 1);generalize c6 b ks.length bs.length al.length (al.take i) = G at hgl hnx hg0 ⊢;refine aD ?_;refine a8 (aB (a8 (ag [] rfl ?_)));refine a8 (ag [] rfl ?_);refine a8 (ag [(3, .id 722)] rfl ?_);have hp2 : 722 ∉ c8 [[R.rp 703 i 4 al.length]] := by simp [c8, R.refsL, R.refs]
  refine AWp.sub (st2 := mkt [(0, .one (.vp 700 0)), (7, .one (.ra 713 0 G.length G.length)), (9, .one (.rp 703 i 0 al.length)), (10, .one (.vp 10 0)), (82, I .i64 ((al.length : Nat) : Int)), (83, I .i64 i)] ((722, gPo [[.rp 703 i 4 al.length]]) :: ([(10, .var 125 [.c .nl, .ra 722 0 1 1]), (713, .rarr 125 2 G)] ++ gHl f n s t ks bs al)) (fam 0 al)) (slG (ex := (722, _) :: [_, _]) W) ?_;refine AWp.sub (Sub.fraT hF (aV5 (by omega) (by omega)) hp2) ?_;have e1 : fzH 722 (.ra 1 1 [R.rp 703 i 4 al.length]) ([(10, .var 125 [.c .nl, .ra 722 0 1 1]), (713, .rarr 125 2 G)] ++ gHl f n s t ks bs al)
    = [(10, .var 125 [.c .nl, .ras 1 1 [.rp 703 i 4 al.length]]), (713, .rarr 125 2 G)] ++ gHl f n s t ks bs al := by
   show (10, _) :: (713, AObj.rarr _ _ (fzR _ _ _)) :: fzH _ _ (gHl f n s t ks bs al) = _;rw [rK (by omega) (by omega), rJ _ (j5 hg0 (by omega) (by omega))];rfl
  have e1' : fzH 722 (.ra ([[R.rp 703 i 4 al.length]] : List (List R)).length 1 ([[R.rp 703 i 4 al.length]] : List (List R)).flatten) = fzH 722 (.ra 1 1 [R.rp 703 i 4 al.length]) := rfl;rw [e1', e1];clear e1 e1' hp2;refine AWp.sub (Sub.ownCellR (x := 10) (k := 0) (id := 721) 167 1 rfl rfl rfl) ?_;refine AWp.sub (st2 := mkt [(0, .one (.vp 700 0)), (7, .one (.ra 713 0 G.length G.length)), (9, .one (.rp 703 i 0 al.length)), (10, .one (.vp 10 0)), (82, I .i64 ((al.length : Nat) : Int)), (83, I .i64 i)] ([(10, .var 125 [.ra 721 0 0 0, .ras 1 1 [.rp 703 i 4 al.length]]), (713, .rarr 125 2 G), (721, gNo [])] ++ gHl f n s t ks bs al) (fam 0 al)) (slG W) ?_;have hlook : ∀ (ex : List (Nat × AObj)), (ex.all fun p => Nat.blt p.1 800) = true → (mkt [] (ex ++ gHl f n s t ks bs al) (fam 0 al)).h (i + 800) = some (AObj.arr 9 1 (a.vars.map bN) 0) := fun ex hex =>
   (show FarEq _ _ from FarEq.mkt hF (by rw [all_append, hex]; rfl)) _ hobj
  refine a8 (a8 (aE mixed ?_));refine ak 4 [(3, .rr (dH i a))] rfl ?_;refine aZi tok (hlook _ rfl) rfl hvk ?_ trw;refine ak 1 [] rfl ?_;refine az ?_;refine aB ?_;refine aL (fun j : Nat => mkt [(0, .one (.vp 700 0)), (7, .one (.ra 713 0 G.length G.length)), (9, .one (.rp 703 i 0 al.length)), (10, .one (.vp 10 0)), (82, I .i64 ((al.length : Nat) : Int)), (83, I .i64 i), (101, I .i64 ((a.vars.length : Nat) : Int)), (102, I .i64 j)] ([(721, gNo (vR i a.vars.length j)), (10, .var 125 [.ra 721 0 (vR i a.vars.length j).length (vR i a.vars.length j).length, .ras 1 1 [.rp 703 i 4 al.length]]), (713, .rarr 125 2 G)] ++ gHl f n s t ks bs al) (fam 0 al)) (fun j => j ≤ a.vars.length) (fun j => a.vars.length - j) 0 (zero_le _) (slG W) ?_;intro j hj;have hvj : (vR i a.vars.length j).length = j := fX _ _;refine a8 (ag [] rfl ?_);refine a8 (aA rfl (fun hb => ?_) (fun hb => ?_))
  ·have hlt2 : j < a.vars.length := by
    have : (j : Int) < (a.vars.length : Int) := of_decide_eq_true hb;omega
   have hst : vR i a.vars.length (j + 1) = vR i a.vars.length j ++ [[.ep (i + 800) j 0 a.vars.length]] := pS _ _;have hr : gfo f n s t ks bs al (gNo (vR i a.vars.length (j + 1))).refs := aXi hlt _ _;refine aD ?_;refine a8 (aB (a8 (ag [] rfl ?_)));refine aE mixed ?_;refine ak 7 [(5, .rr (dH i a))] rfl ?_;refine kix tok (j := j) (hlook _ rfl) rfl hvk hlt2 ?_ trw;refine ak 4 [] rfl ?_;refine az ?_;refine ag [] rfl ?_;refine ⟨j + 1, hlt2, by dsimp only; omega, ?_⟩;dsimp only;rw [hst] at hr ⊢;refine slG W (hh := ⟨⟨_, rfl, .rarrS rfl⟩, ⟨_, rfl, .varS ?_⟩, ⟨_, rfl, .rarrS rfl⟩, ⟨_, rfl, .var rfl⟩, ⟨_, rfl, .arr⟩, ⟨_, rfl, .arr⟩, ⟨_, rfl, .rarrS rfl⟩, trivial⟩);rw [length_append]
  have hge : j = a.vars.length := by
   have : ¬ (j : Int) < (a.vars.length : Int) := of_decide_eq_false hb;omega
  subst hge;clear hb hj;refine aM ?_;have hp1 : 721 ∉ c8 (vR i a.vars.length a.vars.length) := j5 (aXi (f := f) (n := n) (s := s) (t := t) (ks := ks) (bs := bs) hlt a.vars.length a.vars.length) (by omega) (by omega);have hrv : gfo f n s t ks bs al (gNo (vR i a.vars.length a.vars.length)).refs := aXi hlt _ _;refine AWp.sub (st2 := mkt [(0, .one (.vp 700 0)), (7, .one (.ra 713 0 G.length G.length)), (10, .one (.vp 10 0)), (82, I .i64 ((al.length : Nat) : Int)), (83, I .i64 i)] ((721, gNo (vR i a.vars.length a.vars.length)) :: ([(10, .var 125 [.ra 721 0 (vR i a.vars.length a.vars.length).length (vR i a.vars.length a.vars.length).length, .ras 1 1 [.rp 703 i 4 al.length]]), (713, .rarr 125 2 G)] ++ gHl f n s t ks bs al)) (fam 0 al)) (slG (ex := (721, _) :: [_, _]) W) ?_;refine AWp.sub (Sub.fraT hF (aV5 (by omega) (by omega)) hp1) ?_;have e1 : fzH 721 (.ra (vR i a.vars.length a.vars.length).length 1 (vR i a.vars.length a.vars.length).flatten) ([(10, .var 125 [.ra 721 0 (vR i a.vars.length a.vars.length).length (vR i a.vars.length a.vars.length).length, .ras 1 1 [.rp 703 i 4 al.length]]), (713, .rarr 125 2 G)] ++ gHl f n s t ks bs al)
    = [(10, .var 125 (l7 al.length i a)), (713, .rarr 125 2 G)] ++ gHl f n s t ks bs al := by
   show (10, _) :: (713, AObj.rarr _ _ (fzR _ _ _)) :: fzH _ _ (gHl f n s t ks bs al) = _;rw [rK (by omega) (by omega), rJ _ (j5 hg0 (by omega) (by omega))];simp only [AObj.fz, R.fzL, aOa rfl, R.fz_far (.ras 1 1 [.rp 703 i 4 al.length]) (show 721 ∉ R.refs (.ras 1 1 [.rp 703 i 4 al.length]) by simp [R.refs, R.refsL])];rfl
  rw [e1];clear e1 hp1;have hra : gfo f n s t ks bs al (R.refsL (l7 al.length i a)) := aV1 hlt a;have halr : ∃ x y, l7 al.length i a = [x, y] := ⟨_, _, rfl⟩
  refine ag [] rfl ?_;refine ag [] rfl ?_;refine ⟨i + 1, hlt, by dsimp only; omega, ?_⟩;dsimp only;rw [hnx] at hg1 ⊢;have hg1 : gfo f n s t ks bs al (AObj.rarr 125 2 (G ++ [l7 al.length i a])).refs := hg1;refine slG W (he := ⟨rfl, by rw [length_append]; rfl, rfl, rfl, trivial⟩)
 have hge : i = al.length := by
  have : ¬ (i : Int) < (al.length : Int) := of_decide_eq_false hb;omega
 subst hge;have hg0 : gfo f n s t ks bs al (c8 (c6 b ks.length bs.length al.length (al.take al.length))) := mT b _;rw [take_length] at *;generalize c6 b ks.length bs.length al.length al = G at *;refine aM ?_;refine AWp.sub (st2 := mkt [(7, .one (.ra 713 0 G.length G.length))] ((713, .rarr 125 2 G) :: ([] ++ gHl f n s t ks bs al)) (fam 0 al)) (slG (ex := [(713, _)]) W (h2 := ⟨Kn.gf hg0, trivial⟩)) ?_;refine AWp.sub (Sub.fraT hF (aV5 (by omega) (by omega)) (j5 hg0 (by omega) (by omega))) ?_;have e1 : fzH 713 (.ra G.length 2 G.flatten) ([] ++ gHl f n s t ks bs al) = gHl f n s t ks bs al := rK (by omega) (by omega);have e2 : fzE 713 (.ra G.length 2 G.flatten) [(7, .one (.ra 713 0 G.length G.length))] = [(7, .one (.ras G.length 2 G.flatten))] := by
  simp only [fzE, V.fz, aOa rfl]
 rw [e1, e2];refine a8 (ag [] rfl ?_);exact aI (rtG W (h1 := Kn.gf (by show GF _ _ (R.refsL G.flatten); rw [dB]; exact hg0)))
end Go.Proofs.YtmoekkcdkjopgaaGreatDoor
namespace Go.AM
open Go
def AObj.frz : AObj → AObj
 | .arr te es l _ => .arr te es l 2
 | o => o
def wH (F : List (Nat × AObj)) : List (Nat × AObj) := F.map fun p => (p.1, p.2.frz)
theorem aKm {F : List (Nat × AObj)} : (wH F).map (·.1) = F.map (·.1) := by unfold wH; rw [map_map]; rfl
theorem TF.frz {F : List (Nat × AObj)} (h : TF F) : TF (wH F) := ⟨fun p hp => by
 obtain ⟨q, hq, rfl⟩ := mem_map.1 hp;exact h.far q hq, by rw [aKm]; exact h.nodup, fun p hp => by
 obtain ⟨q, hq, rfl⟩ := mem_map.1 hp;obtain ⟨te, es, l, z, e⟩ := h.arr q hq
 exact ⟨te, es, l, 2, by show q.2.frz = _; rw [e]; rfl⟩⟩
theorem w9 {α : Type} {p : Nat × α} {x : α} : ∀ {a b : List (Nat × α)} {i : Nat}, p.1 ∉ a.map (·.1) → look (a ++ (p.1, x) :: b) i = if i = p.1 then some x else look (a ++ p :: b) i
 | [], b, i, _ => by
  obtain ⟨k, y⟩ := p;simp only [nil_append, look];by_cases h : i = k
  ·subst h; simp
  ·have : Nat.beq i k = false := by
    cases hb : Nat.beq i k with
    | false => rfl
    | true => exact absurd (eq_of_beq_eq_true hb) h
   simp [this, h]
 | (k, y) :: a, b, i, h => by
  simp only [map_cons, mem_cons, not_or] at h;simp only [cons_append, look];cases hb : Nat.beq i k with
  | true =>
   have := eq_of_beq_eq_true hb;subst this;simp [Ne.symm h.1]
  | false => simpa using w9 h.2
theorem Sub.fzMid {kf : List Nat} {el : List (Nat × V)} {hl : List (Nat × AObj)} (hn : (hl.all fun p => Nat.blt p.1 800) = true) : ∀ {F2 F1 : List (Nat × AObj)}, TF (F1 ++ F2) → Sub kf (mkt el hl (F1 ++ wH F2)) (mkt el hl (F1 ++ F2))
 | [], F1, _ => by
  have : wH [] = [] := rfl;rw [this]; exact Sub.refl _ _
 | p :: F2, F1, hF => by
  obtain ⟨te, es, l, z, hp⟩ := hF.arr p (by simp);have hfar := hF.far p (by simp);have hnd := hF.nodup;have hp1 : p.1 ∉ F1.map (·.1) := fun hm => by
   rw [map_append, nodup_append] at hnd;exact hnd.2.2 p.1 hm p.1 (by simp) rfl
  have hlook : (mkt el hl (F1 ++ p :: F2)).h p.1 = some (.arr te es l z) := by
   have := FarEq.mkt (el := el) hF hn p (by simp);rw [this, hp]
  have h1 := Sub.freeze (kf := kf) hlook;have e : (⟨(mkt el hl (F1 ++ p :: F2)).e, upd (mkt el hl (F1 ++ p :: F2)).h p.1 (some (.arr te es l 2)), (mkt el hl (F1 ++ p :: F2)).d⟩ : St) = mkt el hl (F1 ++ (p.1, .arr te es l 2) :: F2) := by
   unfold mkt;congr 1;funext i;by_cases hi : i = p.1
   ·subst hi;rw [aJ, vW hn hfar];simp only [zL hfar, cond_false];rw [w9 hp1, if_pos rfl]
   ·rw [b7 _ _ _ hi];show (match look hl i with | some x => some x | none => bif Nat.blt i 800 then none else look (F1 ++ p :: F2) i) = _;have hm := w9 (p := p) (x := AObj.arr te es l 2) (a := F1) (b := F2) (i := i) hp1;rw [if_neg hi] at hm
    (first | (rw [hm]; done) | (rw [hm]; rfl))
  rw [e] at h1;have hF' : TF ((F1 ++ [(p.1, AObj.arr te es l 2)]) ++ F2) := by
   refine ⟨fun q hq => ?_, ?_, fun q hq => ?_⟩
   ·rw [append_assoc] at hq;rcases mem_append.1 hq with hq | hq
    ·exact hF.far q (by simp [hq])
    ·rcases mem_cons.1 hq with rfl | hq
     ·exact hfar
     ·exact hF.far q (by simp [show q ∈ F2 from hq])
   ·rw [append_assoc];have : ((F1 ++ ([(p.1, AObj.arr te es l 2)] ++ F2)).map (·.1)) = (F1 ++ p :: F2).map (·.1) := by simp
    rw [this]; exact hnd
   ·rw [append_assoc] at hq;rcases mem_append.1 hq with hq | hq
    ·exact hF.arr q (by simp [hq])
    ·rcases mem_cons.1 hq with rfl | hq
     ·exact ⟨_, _, _, _, rfl⟩
     ·exact hF.arr q (by simp [show q ∈ F2 from hq])
  have h2 := Sub.fzMid (kf := kf) (el := el) hn (F2 := F2) (F1 := F1 ++ [(p.1, AObj.arr te es l 2)]) hF';simp only [append_assoc, List.singleton_append] at h2;have e2 : wH (p :: F2) = (p.1, .arr te es l 2) :: wH F2 := by
   show (p.1, p.2.frz) :: wH F2 = _;rw [hp]; rfl
  rw [e2];exact fun G n S μ a w hg hs => by
   obtain ⟨S', μ', hs'⟩ := h1 G n S μ a w hg hs;exact h2 G n S' μ' a w hg hs'
theorem Sub.fzAll {kf : List Nat} {el : List (Nat × V)} {hl F : List (Nat × AObj)} (hF : TF F) (hn : (hl.all fun p => Nat.blt p.1 800) = true := by rfl) : Sub kf (mkt el hl (wH F)) (mkt el hl F) := Sub.fzMid hn (F1 := []) hF
theorem Sub.outsT {kf : List Nat} {e : Nat → Option V} {h : cK} {d : List Nat} {hl F : List (Nat × AObj)} (hF : TF F) : Sub kf ⟨e, fun i => bif Nat.blt i 800 then updL h (outs hl) i else updL h (outs (hl ++ F)) i, d⟩ ⟨e, updL h (outs (hl ++ F)), d⟩ := by
 rw [← qF hF]; exact Sub.refl _ _
end Go.AM
namespace Go.Proofs.YtmoekkcdkjopgaaGreatDoor
open Go Go.AM
set_option maxRecDepth 20000
mutual
def allT (p : Ty → Prop) : Core → Prop
 | .mk _ _ _ t ks bs al => p t ∧ aAb p ks ∧ xA p bs ∧ xB p al
def aAb (p : Ty → Prop) : List Core → Prop
 | [] => True
 | c :: l => allT p c ∧ aAb p l
def xA (p : Ty → Prop) : List Bind → Prop
 | [] => True
 | .mk _ t c :: l => p t ∧ allT p c ∧ xA p l
def xB (p : Ty → Prop) : List Alt → Prop
 | [] => True
 | .mk _ _ _ _ c :: l => allT p c ∧ xB p l
end
theorem aAa {p : Ty → Prop} : ∀ {l : List Core}, aAb p l → ∀ x ∈ l, allT p x
 | c :: l, h, x, hx => by
  rw [aAb] at h;rcases mem_cons.1 hx with rfl | hx
  ·exact h.1
  ·exact aAa h.2 x hx
theorem s7 {p : Ty → Prop} : ∀ {l : List Bind}, xA p l → ∀ x ∈ l, p x.ty ∧ allT p x.body
 | .mk _ _ _ :: l, h, x, hx => by
  rw [xA] at h;rcases mem_cons.1 hx with rfl | hx
  ·exact ⟨h.1, h.2.1⟩
  ·exact s7 h.2.2 x hx
theorem aAc {p : Ty → Prop} : ∀ {l : List Alt}, xB p l → ∀ x ∈ l, allT p x.body
 | .mk _ _ _ _ _ :: l, h, x, hx => by
  rw [xB] at h;rcases mem_cons.1 hx with rfl | hx
  ·exact h.1
  ·exact aAc h.2 x hx
theorem qU {α : Type} : ∀ {l : List α} {j : Nat} {x : α}, l[j]? = some x → l.set j x = l
 | [], _, _, h => by simp at h
 | y :: l, 0, x, h => by simp at h; subst h; rfl
 | y :: l, j + 1, x, h => by
  rw [set_cons_succ, qU (by simpa using h)]
def sA (al : List Alt) (i : Nat) : List (List R) := aS 0 (al.take i) ++ (al.drop i).map fun a => (dQ a).map R.c
theorem pH : ∀ {l : List Alt} {k i : Nat} {a : Alt}, l[i]? = some a → aS k (l.take (i + 1)) = aS k (l.take i) ++ [dH (k + i) a]
 | b :: l, k, 0, a, h => by simp at h; subst h; simp [aS]
 | b :: l, k, i + 1, a, h => by
  simp only [take_succ_cons, aS, cons_append];rw [pH (l := l) (k := k + 1) (by simpa using h), show k + 1 + i = k + (i + 1) by omega]
theorem wJ : ∀ {l : List Alt} {k i : Nat} {a : Alt}, l[i]? = some a → fam k (l.take (i + 1)) = fam k (l.take i) ++ [(k + i + 800, .arr 9 1 (a.vars.map bN) 0)]
 | b :: l, k, 0, a, h => by simp at h; subst h; simp [fam]
 | b :: l, k, i + 1, a, h => by
  simp only [take_succ_cons, fam, cons_append];rw [wJ (l := l) (k := k + 1) (by simpa using h), show k + 1 + i = k + (i + 1) by omega]
theorem aNz {al : List Alt} {i : Nat} : (sA al i).length = al.length := by unfold sA; rw [length_append, eC, length_map, length_take, length_drop]; omega
theorem aSa {al : List Alt} {i : Nat} {a : Alt} (h : al[i]? = some a) : (sA al i)[i]? = some ((dQ a).map R.c) := by
 have hlt : i < al.length := (List.getElem?_eq_some_iff.1 h).1
 unfold sA;rw [List.getElem?_append_right (by rw [eC, length_take]; omega), eC, length_take, min_eq_left (by omega), sub_self, List.getElem?_map, List.getElem?_drop, add_zero, h]; rfl
theorem qT {α : Type} {l m : List α} {x y : α} {i : Nat} (h : l.length = i) : (l ++ x :: m).set i y = l ++ y :: m := by
 subst h;rw [List.set_append_right _ _ (le_refl _), sub_self]; rfl
theorem oN {α : Type} {l : List α} {i : Nat} {a : α} (h : l[i]? = some a) : l.drop i = a :: l.drop (i + 1) := by
 have hlt : i < l.length := (List.getElem?_eq_some_iff.1 h).1
 rw [drop_eq_getElem_cons hlt];congr 1;exact (List.getElem?_eq_some_iff.1 h).2
theorem aNy {al : List Alt} {i : Nat} {a : Alt} (h : al[i]? = some a) (r : List R) : (sA al i).set i r = aS 0 (al.take i) ++ r :: (al.drop (i + 1)).map fun a => (dQ a).map R.c := by
 have hlt : i < al.length := (List.getElem?_eq_some_iff.1 h).1
 unfold sA;rw [oN h, map_cons];exact qT (by rw [eC, length_take]; omega)
theorem aJp {al : List Alt} {i : Nat} {a : Alt} (h : al[i]? = some a) : sA al (i + 1) = aS 0 (al.take i) ++ dH i a :: (al.drop (i + 1)).map fun a => (dQ a).map R.c := by
 unfold sA;rw [pH h, append_assoc, zero_add]; rfl
theorem aJq {al : List Alt} {i : Nat} : ∀ x ∈ c8 (sA al i), x ∈ keys (fam 0 (al.take i)) := fun x hx => by
 unfold sA at hx;rw [j9] at hx;rcases mem_append.1 hx with hx | hx
 ·exact cR x hx
 ·have key : ∀ l : List Alt, c8 (l.map fun a => (dQ a).map R.c) = [] := by
   intro l
   induction l with
   | nil => rfl
   | cons a l ih =>
    show R.refsL _ ++ c8 _ = [];rw [ih, append_nil];unfold dQ aC;simp [R.refsL, R.refs]
  rw [key] at hx; cases hx
def sgm (k : Nat) (j : Nat) : Nat := bif Nat.blt j 800 then j else bif Nat.beq j (k + 800) then 710 else j
theorem aA8 {k j : Nat} (h : 800 ≤ j) (hk : j ≠ k + 800) : sgm k j = j := by
 unfold sgm;rw [zL h];have : Nat.beq j (k + 800) = false := by
  cases hb : Nat.beq j (k + 800) with
  | false => rfl
  | true => exact absurd (eq_of_beq_eq_true hb) hk
 rw [this]; rfl
theorem aA7 {k : Nat} : sgm k (k + 800) = 710 := by
 unfold sgm;rw [zL (le_add_left _ _)]; simp
theorem aIp {σ : Nat → Nat} : ∀ l : List C, R.renL σ (l.map R.c) = l.map R.c
 | [] => rfl
 | x :: l => by simp only [map_cons, R.renL, R.ren, aIp l]
theorem aDq {σ : Nat → Nat} : ∀ (a b : List (List R)), lV σ (a ++ b) = lV σ a ++ lV σ b
 | [], _ => rfl
 | r :: a, b => by simp only [cons_append, lV, aDq a b]
theorem jN {σ : Nat → Nat} {k : Nat} {a : Alt} : R.renL σ (dH k a) = [.c (.int .i64 a.form), .c (.int .i64 a.n), .c (.str a.name), .hs (σ (k + 800)) 0 a.vars.length a.vars.length] ++ (aC a.body).map R.c := by
 unfold dH;simp only [cons_append, nil_append, R.renL, R.ren, aIp]
theorem qW {i : Nat} : ∀ {l : List Alt} {k : Nat}, k + l.length ≤ i → lV (sgm i) (aS k l) = aS k l
 | [], _, _ => rfl
 | a :: l, k, h => by
  simp only [length_cons] at h;simp only [aS, lV];rw [jN, aA8 (le_add_left _ _) (by omega), qW (l := l) (k := k + 1) (by omega)]; rfl
theorem sX {σ : Nat → Nat} : ∀ l : List Alt, lV σ (l.map fun a => (dQ a).map R.c) = l.map fun a => (dQ a).map R.c
 | [] => rfl
 | a :: l => by simp only [map_cons, lV, aIp, sX l]
def aZf (a : Alt) : List R := [.c (.int .i64 a.form), .c (.int .i64 a.n), .c (.str a.name), .hs 710 0 a.vars.length a.vars.length] ++ (aC a.body).map R.c
theorem aRq {al : List Alt} {i : Nat} {a : Alt} (h : al[i]? = some a) : (sA al i).set i (aZf a) = lV (sgm i) (sA al (i + 1)) := by
 rw [aNy h, aJp h, aDq];have hlt : i < al.length := (List.getElem?_eq_some_iff.1 h).1
 rw [qW (by rw [length_take]; omega)];simp only [lV];rw [jN, aA7, sX];rfl
def TyG (t : Ty) : Prop := aU Tryz.prog 116 [tyV t] [] (tyV t) []
def oHl (ks : List Core) (bs : List Bind) (al : List Alt) : List (Nat × AObj) := [(701, .arr 73 15 (aR bs) 0), (702, .arr 37 10 (aQ ks) 0), (703, .rarr 78 14 (aS 0 al))]
def OwG (c : Core) : Prop := aU Tryz.prog 59 [.pa (aC c)] [] (.ma (eD c.form c.n c.name c.ty c.kids.length c.binds.length c.alts.length)) (oHl c.kids c.binds c.alts ++ fam 0 c.alts)
def OwP (c : Core) : Prop := aU Tryz.prog 59 [.pa (aC c)] [] (.pa (aC c)) []
theorem wZ (al : List Alt) (h : al.length ≤ 600000000000) : aU Tryz.prog 122 [.one (.c (.sl 14 (c9 al)))] [] (.one (.ra 703 0 al.length al.length)) [(703, .rarr 78 14 (sA al 0))] := by
 have hkA : (c9 al).length = al.length := by rw [bH, length_map]
 have h1 := (zI (c9 al) (by omega)).toR;rw [hkA] at h1;have e : (c9 al).map (·.map R.c) = sA al 0 := by
  unfold sA;rw [bH, map_map]; rfl
 rwa [e] at h1
theorem aN0 {al : List Alt} : sA al al.length = aS 0 al := by
 unfold sA;rw [take_length, drop_length]; simp
theorem aI4 {st1 : St} {al : List Alt} {i : Nat} {a : Alt} (hai : al[i]? = some a) (hf : FarEq st1.h (fam 0 (al.take i))) (h7 : st1.h 710 = some (.arr 9 1 (a.vars.map bN) 0)) :
  ∀ p ∈ fam 0 (al.take (i + 1)), ∃ o, st1.h (sgm i p.1) = some o ∧ Ole (sgm i) o p.2 := fun p hp => by
 rw [wJ hai, zero_add] at hp;rcases mem_append.1 hp with hp | hp
 ·obtain ⟨j, b, hj, rfl⟩ := mW hp;have hlt : j < (al.take i).length := (List.getElem?_eq_some_iff.1 hj).1
  rw [length_take] at hlt;refine ⟨_, ?_, .arr⟩;rw [aA8 (le_add_left _ _) (by show 0 + j + 800 ≠ i + 800; omega)];exact hf _ hp
 ·rw [mem_singleton.1 hp];exact ⟨_, by rw [aA7]; exact h7, .arr⟩
theorem aGb {al : List Alt} {i : Nat} {a : Alt} {hl : List (Nat × AObj)} (hai : al[i]? = some a) (h1 : Go.AM.distinct (710 :: hl.map (·.1)) = true) (h2 : (hl.all fun p => Nat.blt p.1 800) = true) : ((hl ++ fam 0 (al.take (i + 1))).map fun p => sgm i p.1).Nodup := by
 have hlt : i < al.length := (List.getElem?_eq_some_iff.1 hai).1
 have e1 : (hl.map fun p => sgm i p.1) = hl.map (·.1) := by
  refine map_congr_left fun p hp => ?_
  have := (all_eq_true.1 h2) p hp;unfold sgm;rw [this]; rfl
 have e2 : ((fam 0 (al.take i)).map fun p => sgm i p.1) = (fam 0 (al.take i)).map (·.1) := by
  refine map_congr_left fun p hp => ?_
  obtain ⟨j, b, hj, rfl⟩ := mW hp;have hl2 : j < (al.take i).length := (List.getElem?_eq_some_iff.1 hj).1
  rw [length_take] at hl2;exact aA8 (le_add_left _ _) (by show 0 + j + 800 ≠ i + 800; omega)
 rw [map_append, wJ hai, zero_add, map_append, e1, e2];have hd := dJ h1;simp only [nodup_cons] at hd;have hnear : ∀ x ∈ hl.map (·.1), x < 800 := fun x hx => by
  obtain ⟨p, hp, rfl⟩ := mem_map.1 hx;exact le_of_ble_eq_true ((all_eq_true.1 h2) p hp)
 have hfar : ∀ x ∈ (fam 0 (al.take i)).map (·.1), 800 ≤ x := fun x hx => by
  obtain ⟨p, hp, rfl⟩ := mem_map.1 hx;exact fJ.far p hp
 show (hl.map (·.1) ++ ((fam 0 (al.take i)).map (·.1) ++ [sgm i (i + 800)])).Nodup;rw [aA7, nodup_append, nodup_append];refine ⟨hd.2, ⟨kR, by simp, fun x hx y hy e => ?_⟩, fun x hx y hy e => ?_⟩
 ·have := hfar x hx;have : y = 710 := by simpa using hy
  omega
 ·subst e;rcases mem_append.1 hy with hy | hy
  ·have := hnear x hx;have := hfar x hy;omega
  ·have : x = 710 := by simpa using hy
   subst this;exact hd.1 hx
theorem aSi {b : Bool} {nk nb na : Nat} {l : List Alt} : (c6 b nk nb na l)[0]? = some (oJ b nk nb) := rfl
theorem aSh {b : Bool} {nk nb na : Nat} {l : List Alt} {i : Nat} {a : Alt} (h : l[i]? = some a) : (c6 b nk nb na l)[i + 1]? = some (l7 na i a) := by
 unfold c6;rw [List.getElem?_cons_succ, aL7 h, zero_add]
theorem aBs {b : Bool} {nk nb na : Nat} {l : List Alt} : ∀ r ∈ c6 b nk nb na l, r.length = 2 := by
 have key : ∀ (l : List Alt) (k : Nat), ∀ r ∈ aFn na k l, r.length = 2 := by
  intro l
  induction l with
  | nil => intro k r hr; simp [aFn] at hr
  | cons a l ih =>
   intro k r hr;rcases mem_cons.1 hr with rfl | hr
   ·rfl
   ·exact ih _ r hr
 intro r hr;rcases mem_cons.1 hr with rfl | hr
 ·rfl
 ·exact key l 0 r hr
theorem aSg {b : Bool} {nk nb na : Nat} {l : List Alt} : (c6 b nk nb na l).length = 1 + l.length := by unfold c6; rw [length_cons, x9]; omega
theorem qV {f : Nat → List R} {k : Nat} (h : ∀ j, (f j).length = 1) : ∀ r ∈ rgR f k, r.length = 1 := fun r hr => by
 obtain ⟨j, _, rfl⟩ := mem_map.1 hr;exact h j
theorem tJ {nk nb i : Nat} : ∀ r ∈ pR nk nb i, r.length = 1 := fun r hr => by
 unfold pR at hr;rcases mem_append.1 hr with hr | hr
 ·exact qV (fun _ => rfl) r hr
 ·exact qV (fun _ => rfl) r hr
theorem aDn {f : Nat → List R} {k j : Nat} (h : j < k) : (rgR f k)[j]? = some (f j) := by unfold rgR; rw [List.getElem?_map, List.getElem?_range h]; rfl
theorem aJe {nk nb i j : Nat} (h : j < nk) : (pR nk nb i)[j]? = some [.ep 702 j 0 nk] := by unfold pR; rw [List.getElem?_append_left (by rw [fX]; exact h), aDn h]
theorem aJd {nk nb i j : Nat} (h : j < i) : (pR nk nb i)[nk + j]? = some [.ep 701 j 5 nb] := by unfold pR; rw [List.getElem?_append_right (by rw [fX]; omega), fX, Nat.add_sub_cancel_left, aDn h]
theorem aJc {nk nb i : Nat} : (pR nk nb i).length = nk + i := by unfold pR; rw [length_append, fX, fX]
theorem uE (c : Core) (ih : ∀ x, b6 x < b6 c → allT TyG x → OwP x) (hT : allT TyG c) (hsz : b6 c ≤ 570000000000) : OwG c := by
 obtain ⟨f, n, s, t, ks, bs, al⟩ := c;obtain ⟨ihk, ihb, iha, hkl, hbl, hal⟩ := @kA f n s t ks bs al;rw [allT] at hT;obtain ⟨hty, hTk, hTb, hTa⟩ := hT;have hty : aU Tryz.prog 116 [tyV t] [] (tyV t) [] := hty;have hkK : (aQ ks).length = ks.length := by rw [bC, length_map]
 have hkB : (aR bs).length = bs.length := by rw [bO, length_map]
 have k2 : ks.length = (aQ ks).length := hkK.symm;have kb2 : bs.length = (aR bs).length := hkB.symm;have hck := o6 (aQ ks) (by omega);have hcb := wY (aR bs) (by omega);have hca := wZ al (by omega);rw [hkK] at hck;rw [hkB] at hcb;show aU Tryz.prog 59 [.pa (aC (.mk f n s t ks bs al))] [] (.ma (eD f n s t ks.length bs.length al.length)) (oHl ks bs al ++ fam 0 al);refine bT (n := 85) tok Tryz.func59 rfl rfl rfl ?_;refine a8 (ag [(0, .id 700)] rfl ?_);refine a8 (ag [(2, .pc (tyV t))] rfl ?_);refine a8 (aE mixed ?_);refine ak 2 [] rfl ?_;refine kc hck ?_;refine ak 2 [] rfl ?_;refine kc hcb ?_;refine ak 2 [] rfl ?_;refine kc hca ?_;refine ak 6 [] rfl ?_;refine az ?_;refine a8 (a8 (ag [] rfl ?_));have hbl' : bs.length ≤ 570000000000 := by omega
 have hml : ∀ i, al.length = (sA al i).length := fun i => aNz.symm
 have hml0 := hml 0;refine aB ?_;have W0 : ∀ i, GW [] (fam 0 (al.take i)) := fun i => ⟨fJ, fun x hx => (by cases hx), rfl, rfl⟩
 have hmix : ∀ i, GF [] (fam 0 (al.take i)) (AObj.rarr 78 14 (sA al i)).refs := fun i x hx => .inr (aJq x hx)
 have hmix0 := hmix 0;have hF0 : TF (fam 0 (al.take 0)) := fJ;refine aL (fun i : Nat => mkt [(1, .one (.vp 700 0)), (2, .one (.vp 2 0)), (27, I .i64 ((bs.length : Nat) : Int)), (28, I .i64 i)] ([(2, .var 37 bS), (700, .var 37 (eD f n s t ks.length bs.length al.length)), (701, .arr 73 15 (aR bs) 0), (702, .arr 37 10 (aQ ks) 0), (703, .rarr 78 14 (sA al 0))] ++ []) (fam 0 (al.take 0))) (fun i => i ≤ bs.length) (fun i => bs.length - i) 0 (zero_le _) (slG (W0 0) (fun _ h => by cases h) (fun p hp => by cases hp)) ?_
 ·intro i hi;refine a8 (ag [] rfl ?_);refine a8 (aA rfl (fun hb => ?_) (fun hb => ?_))
  ·have hlt : i < bs.length := by
    have : (i : Int) < (bs.length : Int) := of_decide_eq_true hb;omega
   obtain ⟨b, hbi⟩ := aK hlt;have hbi' := dC hbi;have hbt : aU Tryz.prog 116 [tyV b.ty] [] (tyV b.ty) [] := (s7 hTb b (List.mem_of_getElem? hbi)).1
   have hsame := qU hbi';refine aD ?_;refine a8 (aB (a8 (ag [] rfl ?_)));refine ag [(8, .row i (bA b)), (9, .pc (tyV b.ty)), (12, .row i (bA b))] rfl ?_;refine ag [] rfl ?_;refine ⟨i + 1, hlt, by dsimp only; omega, slG (W0 0) (fun _ h => by cases h) (hh := ⟨⟨_, rfl, .var rfl⟩, ⟨_, rfl, .varS rfl⟩, ⟨_, rfl, .arrS hsame⟩, ⟨_, rfl, .arr⟩, ⟨_, rfl, .rarrS rfl⟩, trivial⟩)⟩
  refine aM ?_;refine a8 (a8 (ag [] rfl ?_));refine aB ?_;refine aL (fun i : Nat => mkt [(1, .one (.vp 700 0)), (2, .one (.vp 2 0)), (46, I .i64 ((al.length : Nat) : Int)), (47, I .i64 i)] ([(2, .var 37 bS), (700, .var 37 (eD f n s t ks.length bs.length al.length)), (701, .arr 73 15 (aR bs) 0), (702, .arr 37 10 (aQ ks) 0), (703, .rarr 78 14 (sA al i))] ++ []) (fam 0 (al.take i))) (fun i => i ≤ al.length) (fun i => al.length - i) 0 (zero_le _) (slG (W0 0) (fun _ h => by cases h)) ?_;intro i hi;have hml := hml i;have hmi := hmix i;have hFi : TF (fam 0 (al.take i)) := fJ;refine a8 (ag [] rfl ?_);refine a8 (aA rfl (fun hb => ?_) (fun hb => ?_))
  ·have hlt : i < al.length := by
    have : (i : Int) < (al.length : Int) := of_decide_eq_true hb;omega
   obtain ⟨a, hai⟩ := aK hlt;have hrow := aSa hai;have hav := fR (List.mem_of_getElem? hai);have hvl := oA a;have hvk : (a.vars.map bN).length = a.vars.length := length_map _;have hcl := mJ (a.vars.map bN) (by rw [b6] at hsz; omega);rw [hvk] at hcl;have hmx := hmix (i + 1);refine aD ?_;refine a8 (aB (a8 (ag [] rfl ?_)));refine aE mixed ?_;refine ak 9 [(8, .rr ((dQ a).map R.c))] rfl ?_;refine kc hcl ?_;refine ak 3 [(12, .rr ((dQ a).map R.c))] rfl ?_;refine az ?_;refine ag [] rfl ?_;refine ⟨i + 1, hlt, by dsimp only; omega, ?_⟩;dsimp only;refine Sub.tailT (hl := [(2, .var 37 bS), (700, .var 37 (eD f n s t ks.length bs.length al.length)), (701, .arr 73 15 (aR bs) 0), (702, .arr 37 10 (aQ ks) 0), (703, .rarr 78 14 (sA al (i + 1)))] ++ []) (sgm i) fJ ?_ ?_ ?_ ?_ ?_ ?_ ?_ ?_
   ·exact ⟨rfl, rfl, rfl, rfl, trivial⟩
   ·exact ⟨⟨_, rfl, .var rfl⟩, ⟨_, rfl, .var rfl⟩, ⟨_, rfl, .arr⟩, ⟨_, rfl, .arr⟩, ⟨_, rfl, .rarr (aRq hai)⟩, trivial⟩
   ·exact aI4 hai (by repeat (first | exact FarEq.raw hFi | (refine FarEq.updL hFi ?_) | (refine FarEq.upd hFi ?_))) rfl
   ·rfl
   ·exact fun x hx => .inl (bP (show subset _ _ = true from rfl) x hx)
   ·exact (W0 (i + 1)).all ⟨Kn.of rfl, Kn.of rfl, Kn.of rfl, Kn.of rfl, Kn.gf hmx, trivial⟩
   ·exact aGb hai rfl rfl
   ·exact fun _ h => by cases h
  refine aM ?_;have hge : i = al.length := by
   have : ¬ (i : Int) < (al.length : Int) := of_decide_eq_false hb;omega
  subst hge;have hF : TF (fam 0 al) := fJ;have W : GW (gHl f n s t ks bs al) (fam 0 al) := gW
  have hgr := rT (decide (f = 5)) f n s t ks bs al rfl (by omega) (by omega) (by omega) (fun a ha => by
   have hav := fR ha;have hvl := oA a
   rw [b6] at hsz; omega)
  have hrows := mT (f := f) (n := n) (s := s) (t := t) (ks := ks) (bs := bs) (al := al) (decide (f = 5)) al.length;rw [take_length] at hrows ⊢;rw [aN0];have hgl : (c6 (decide (f = 5)) ks.length bs.length al.length al).length = 1 + al.length := aSg;have hra : gfo f n s t ks bs al (R.refsL (c6 (decide (f = 5)) ks.length bs.length al.length al).flatten) := by rw [dB]; exact hrows
  have hg0 : (c6 (decide (f = 5)) ks.length bs.length al.length al)[0]? = some (oJ (decide (f = 5)) ks.length bs.length) := aSi;have hgA : ∀ i a, al[i]? = some a → (c6 (decide (f = 5)) ks.length bs.length al.length al)[i + 1]? = some (l7 al.length i a) := fun i a h => aSh h
  have htk : ∀ k r, (c6 (decide (f = 5)) ks.length bs.length al.length al)[k]? = some r → ((c6 (decide (f = 5)) ks.length bs.length al.length al).flatten.drop (k * 2)).take 2 = r := eI aBs;generalize c6 (decide (f = 5)) ks.length bs.length al.length al = G at hgr hgl hra hg0 hgA htk;generalize decide (f = 5) = b at hg0;have hal' : al.length = (aS 0 al).length := eC.symm;refine a8 (a8 (aE mixed ?_));refine kc hgr ?_ (hin' := eQ.app ⟨rfl, rfl, rfl, rfl, trivial⟩ (FarEq.raw hF).all) (hout' := eQ.of fun p hp => .inl (mem_map.2 ⟨p, hp, rfl⟩)) (hok := mY hF (fun x hx => .inl (bP (show subset _ _ = true from rfl) x hx)) qD);refine ak 2 [] rfl ?_;refine az ?_;refine AWp.sub (Sub.outsT hF) ?_;refine aB ?_;have hel : ∀ x ∈ R.refsL G.flatten, Kn [(2, .var 37 bS)] (gHl f n s t ks bs al) (fam 0 al) x := Kn.gf hra;refine aL (fun g : Nat => mkt [(1, .one (.vp 700 0)), (2, .one (.vp 2 0)), (63, .one (.ras G.length 2 G.flatten)), (64, I .i64 ((G.length : Nat) : Int)), (65, I .i64 g)] ([(2, .var 37 bS)] ++ gHl f n s t ks bs al) (fam 0 al)) (fun g => g ≤ G.length) (fun g => G.length - g) 0 (zero_le _) (slG W (fun _ h => by cases h) (FarEq.bif hF (FarEq.outs hF)) (h1 := Kn.app (Kn.of rfl) (Kn.app (Kn.of rfl) (Kn.app hel Kn.nil)))) ?_;intro g hg;refine a8 (ag [] rfl ?_);refine a8 (aA rfl (fun hb => ?_) (fun hb => ?_))
  ·have hlt : g < G.length := by
    have : (g : Int) < (G.length : Int) := of_decide_eq_true hb;omega
   refine aD ?_;cases g with
   | zero =>
    have ht0 := htk 0 _ hg0;have hpl : (pR ks.length bs.length bs.length).length = ks.length + bs.length := aJc;have hpr : gfo f n s t ks bs al (R.refsL (pR ks.length bs.length bs.length).flatten) := by rw [dB]; exact aMr _ _ _
    have hpt : ∀ k r, (pR ks.length bs.length bs.length)[k]? = some r → ((pR ks.length bs.length bs.length).flatten.drop (k * 1)).take 1 = r := eI tJ;have hp1 : ∀ j, j < ks.length → (pR ks.length bs.length bs.length)[j]? = some [.ep 702 j 0 ks.length] := fun j h => aJe h
    have hp2 : ∀ j, j < bs.length → (pR ks.length bs.length bs.length)[ks.length + j]? = some [.ep 701 j 5 bs.length] := fun j h => aJd h
    refine a8 (aB (a8 (ag [(0, .rowR 0 (oJ b ks.length bs.length))] rfl ?_)));refine a8 (ag [] rfl ?_);refine aB ?_;refine aL (fun j : Nat => mkt [(1, .one (.vp 700 0)), (2, .one (.vp 2 0)), (63, .one (.ras G.length 2 G.flatten)), (64, I .i64 ((G.length : Nat) : Int)), (65, I .i64 (0 : Nat)), (70, .one (.ras (pR ks.length bs.length bs.length).length 1 (pR ks.length bs.length bs.length).flatten)), (71, I .i64 (((pR ks.length bs.length bs.length).length : Nat) : Int)), (72, I .i64 j)] ([(2, .var 37 bS)] ++ gHl f n s t ks bs al) (fam 0 al)) (fun j => j ≤ (pR ks.length bs.length bs.length).length) (fun j => (pR ks.length bs.length bs.length).length - j) 0 (zero_le _) (slG W (fun _ h => by cases h) (h1 := Kn.app (Kn.of rfl) (Kn.app (Kn.of rfl) (Kn.app hel (Kn.app Kn.nil (Kn.app Kn.nil (Kn.app (Kn.gf hpr) Kn.nil))))))) ?_;intro j hj;refine a8 (ag [] rfl ?_);refine a8 (aA rfl (fun hb => ?_) (fun hb => ?_))
    ·have hlt2 : j < (pR ks.length bs.length bs.length).length := by
      have : (j : Int) < ((pR ks.length bs.length bs.length).length : Int) := of_decide_eq_true hb;omega
     refine aD ?_;by_cases hjk : j < ks.length
     ·obtain ⟨k, hki⟩ := aK hjk;have hki' := iP hki;have hm := List.mem_of_getElem? hki;have hc : aU Tryz.prog 59 [.pa (aC k)] [] (.pa (aC k)) [] := ih k (ihk k hm) (aAa hTk k hm);have hsame := qU hki';have ht1 := hpt j _ (hp1 j hjk);refine a8 (aB (a8 (ag [(0, .rowR j [.ep 702 j 0 ks.length])] rfl ?_)));refine aE mixed ?_;refine ak 4 [(3, .row j (aC k))] rfl ?_;refine kc hc ?_;refine ak 2 [(6, .row j (aC k))] rfl ?_;refine az ?_;refine ag [] rfl ?_;exact ⟨j + 1, hlt2, by dsimp only; omega, slG W (fun _ h => by cases h) (h1 := Kn.app (Kn.of rfl) (Kn.app (Kn.of rfl) (Kn.app hel (Kn.app Kn.nil (Kn.app Kn.nil (Kn.app (Kn.gf hpr) Kn.nil)))))) (hh := ⟨⟨_, rfl, .var rfl⟩, ⟨_, rfl, .var rfl⟩, ⟨_, rfl, .arr⟩, ⟨_, rfl, .arrS hsame⟩, ⟨_, rfl, .rarrS rfl⟩, trivial⟩)⟩
     ·obtain ⟨j', rfl⟩ : ∃ j', j = ks.length + j' := ⟨j - ks.length, by omega⟩
      have hjb : j' < bs.length := by omega
      obtain ⟨x, hbi⟩ := aK hjb;have hbi' := dC hbi;have hm := List.mem_of_getElem? hbi;have hc : aU Tryz.prog 59 [.pa (aC x.body)] [] (.pa (aC x.body)) [] := ih x.body (ihb x hm) (s7 hTb x hm).2;have hsame := qU hbi';have ht1 := hpt (ks.length + j') _ (hp2 j' hjb);refine a8 (aB (a8 (ag [(0, .rowR (ks.length + j') [.ep 701 j' 5 bs.length])] rfl ?_)));refine aE mixed ?_;refine ak 4 [(3, .row j' (bA x))] rfl ?_;refine kc hc ?_;refine ak 2 [(6, .row j' (bA x))] rfl ?_;refine az ?_;refine ag [] rfl ?_;exact ⟨ks.length + j' + 1, hlt2, by dsimp only; omega, slG W (fun _ h => by cases h) (h1 := Kn.app (Kn.of rfl) (Kn.app (Kn.of rfl) (Kn.app hel (Kn.app Kn.nil (Kn.app Kn.nil (Kn.app (Kn.gf hpr) Kn.nil)))))) (hh := ⟨⟨_, rfl, .var rfl⟩, ⟨_, rfl, .var rfl⟩, ⟨_, rfl, .arrS hsame⟩, ⟨_, rfl, .arr⟩, ⟨_, rfl, .rarrS rfl⟩, trivial⟩)⟩
    refine aM ?_;refine ag [] rfl ?_;exact ⟨1, by omega, by dsimp only; omega, slG W (fun _ h => by cases h) (h1 := Kn.app (Kn.of rfl) (Kn.app (Kn.of rfl) (Kn.app hel Kn.nil)))⟩
   | succ i =>
    have hia : i < al.length := by omega
    obtain ⟨a, hai⟩ := aK hia;have ht0 := htk (i + 1) _ (hgA i a hai);have hrow : (aS 0 al)[i]? = some (dH i a) := by rw [lT hai, zero_add]
    have hm := List.mem_of_getElem? hai;have hc : aU Tryz.prog 59 [.pa (aC a.body)] [] (.pa (aC a.body)) [] := ih a.body (iha a hm) (aAc hTa a hm);have hsame := qU hrow;refine a8 (aB (a8 (ag [(0, .rowR (i + 1) (l7 al.length i a))] rfl ?_)));refine a8 (ag [] rfl ?_);refine aB ?_;refine aL (fun j : Nat => mkt [(1, .one (.vp 700 0)), (2, .one (.vp 2 0)), (63, .one (.ras G.length 2 G.flatten)), (64, I .i64 ((G.length : Nat) : Int)), (65, I .i64 ((i + 1 : Nat) : Int)), (70, .one (.ras 1 1 [.rp 703 i 4 al.length])), (71, I .i64 ((1 : Nat) : Int)), (72, I .i64 j)] ([(2, .var 37 bS)] ++ gHl f n s t ks bs al) (fam 0 al)) (fun j => j ≤ 1) (fun j => 1 - j) 0 (zero_le _) (slG W (fun _ h => by cases h) (h1 := Kn.app (Kn.of rfl) (Kn.app (Kn.of rfl) (Kn.app hel (Kn.of rfl))))) ?_;intro j hj;refine a8 (ag [] rfl ?_);refine a8 (aA rfl (fun hb => ?_) (fun hb => ?_))
    ·have hj0 : j = 0 := by
      have : (j : Int) < ((1 : Nat) : Int) := of_decide_eq_true hb;omega
     subst hj0;refine aD ?_;refine a8 (aB (a8 (ag [] rfl ?_)));refine aE mixed ?_;refine ak 4 [(3, .rr (dH i a))] rfl ?_;refine kc hc ?_;refine ak 2 [(6, .rr (dH i a))] rfl ?_;refine az ?_;refine ag [] rfl ?_;exact ⟨1, le_refl _, by dsimp only; omega, slG W (fun _ h => by cases h) (h1 := Kn.app (Kn.of rfl) (Kn.app (Kn.of rfl) (Kn.app hel (Kn.of rfl)))) (hh := ⟨⟨_, rfl, .var rfl⟩, ⟨_, rfl, .var rfl⟩, ⟨_, rfl, .arr⟩, ⟨_, rfl, .arr⟩, ⟨_, rfl, .rarrS hsame⟩, trivial⟩)⟩
    refine aM ?_;refine ag [] rfl ?_;exact ⟨i + 1 + 1, by omega, by dsimp only; omega, slG W (fun _ h => by cases h) (h1 := Kn.app (Kn.of rfl) (Kn.app (Kn.of rfl) (Kn.app hel Kn.nil)))⟩
  refine aM ?_;refine a8 (ag [] rfl ?_);exact aI ⟨.inr rfl, aBw (hl := oHl ks bs al) hF (by repeat (first | exact FarEq.raw hF | (refine FarEq.updL hF ?_) | (refine FarEq.upd hF ?_))) ⟨_, _, .cell rfl (tg rfl) rfl rfl rfl .nil, .cons .refl .nil, rfl⟩ (fun x hx => .inl (bP (show subset _ _ = true from rfl) x hx)) (fun x hx => .inr (cR x (by simpa [oHl, dG, AObj.refs] using hx))) (fun _ h => by cases h) (fun _ h => by cases h)⟩
theorem aDv {h : cK} {ids : List Nat} {rs : List R} {cs : List C} (k : PureL h ids rs cs) : ∀ l : List C, PureL h ids (l.map R.c ++ rs) (l ++ cs)
 | [] => k
 | _ :: l => .c .refl (aDv k l)
theorem y8 {h : cK} : ∀ {al : List Alt} {k : Nat}, FarEq h (wH (fam k al)) → ∃ ids, PureL h ids (aS k al).flatten (al.map dQ).flatten
 | [], _, _ => ⟨[], .nil⟩
 | a :: l, k, hf => by
  obtain ⟨ids, ih⟩ := y8 (al := l) (k := k + 1) fun p hp => hf p (mem_cons_of_mem _ hp)
  have hh : h (k + 800) = some (.arr 9 1 (a.vars.map bN) 2) := hf (k + 800, .arr 9 1 (a.vars.map bN) 2) mem_cons_self;refine ⟨(k + 800) :: ids, ?_⟩;have h1 := aDv ih (aC a.body);simp only [aS, map_cons, flatten_cons, dH, dQ, append_assoc, cons_append, nil_append];exact .c .refl (.c .refl (.c .refl (.hs hh (length_map _).symm (by rw [drop_zero, ← length_map (f := bN), take_length]) h1)))
def j2 (f n : Int) (s : Str) (t : Ty) (nk nb : Nat) (al : List Alt) : List R := [.c (.int .i64 f), .c (.int .i64 n), .c (.str s), .c (.int .i64 t.form), .c (.int .i64 t.n), .c (.str t.name), .c (.sl 4 (gG t)), .hs 702 0 nk nk, .hs 701 0 nb nb, .ras al.length 14 (aS 0 al).flatten]
theorem r3 {h : cK} {f n : Int} {s : Str} {t : Ty} {ks : List Core} {bs : List Bind} {al : List Alt} (h1 : h 701 = some (.arr 73 15 (aR bs) 2)) (h2 : h 702 = some (.arr 37 10 (aQ ks) 2)) (hf : FarEq h (wH (fam 0 al))) :
  ∃ ids, PureL h ids (j2 f n s t ks.length bs.length al) (aC (.mk f n s t ks bs al)) := by
 obtain ⟨ids, hp⟩ := y8 hf;have hkK : (aQ ks).length = ks.length := by rw [bC, length_map]
 have hkB : (aR bs).length = bs.length := by rw [bO, length_map]
 refine ⟨702 :: 701 :: (ids ++ []), ?_⟩;refine .c .refl (.c .refl (.c .refl (.c .refl (.c .refl (.c .refl (.c .refl (.hs h2 hkK.symm ?_ (.hs h1 hkB.symm ?_ (.ras rfl hp ?_ ?_ ?_ .nil)))))))))
 ·rw [drop_zero, ← hkK, take_length]; rfl
 ·rw [drop_zero, ← hkB, take_length]; rfl
 ·show _ = (c9 al).flatten;rw [bH]
 ·intro r hr;have hr : r ∈ c9 al := hr;rw [bH] at hr;obtain ⟨a, _, rfl⟩ := mem_map.1 hr;rfl
 ·show (c9 al).length = _;rw [bH, length_map]
theorem sL {al : List Alt} : 703 ∉ c8 (aS 0 al) := fun h => by
 obtain ⟨p, hp, e⟩ := mem_map.1 (cR 703 h);have := fJ.far p hp;omega
theorem oD {kf : List Nat} {el : List (Nat × V)} {ex : List (Nat × AObj)} {ks : List Core} {bs : List Bind} {al : List Alt} (h703 : 703 ∉ kf)
  (hel : ∀ x ∈ n8 el, Kn (oHl ks bs al) ex (fam 0 al) x) (hex : eQ (fun q => ∀ x ∈ q.2.refs, Kn (oHl ks bs al) ex (fam 0 al) x) ex)
  (hkf : ∀ i ∈ kf, i ∈ keys (oHl ks bs al ++ ex) ∨ i ∈ keys (fam 0 al)) (hd : Go.AM.distinct ((oHl ks bs al ++ ex).map (·.1)) = true) (hn : (ex.all fun p => Nat.blt p.1 800) = true) (hnd : (el.map (·.1)).Nodup) (hlv : ∀ p ∈ ex, p.2.live = true) :
  Sub kf (mkt (fzE 703 (.ra al.length 14 (aS 0 al).flatten) el) (fzH 703 (.ra al.length 14 (aS 0 al).flatten) ([(701, .arr 73 15 (aR bs) 2), (702, .arr 37 10 (aQ ks) 2)] ++ ex)) (wH (fam 0 al))) (mkt el (oHl ks bs al ++ ex) (fam 0 al)) := by
 have hF : TF (fam 0 al) := fJ;have hn' : ((oHl ks bs al ++ ex).all fun p => Nat.blt p.1 800) = true := by rw [all_append, hn]; rfl
 have e1 : Sub kf (mkt el ([(703, .rarr 78 14 (aS 0 al)), (701, .arr 73 15 (aR bs) 2), (702, .arr 37 10 (aQ ks) 2)] ++ ex) (fam 0 al)) (mkt el (oHl ks bs al ++ ex) (fam 0 al)) := by
  refine Sub.trans ?_ (Sub.freeze (id := 701) (te := 73) (es := 15) (elems := aR bs) (fz := 0) rfl);refine Sub.trans ?_ (Sub.freeze (id := 702) (te := 37) (es := 10) (elems := aQ ks) (fz := 0) rfl);have hmem : ∀ p ∈ ex, 703 ≠ p.1 ∧ 701 ≠ p.1 ∧ 702 ≠ p.1 := fun p hp => by
   have hd' := dJ hd;simp only [oHl, cons_append, nil_append, map_cons, nodup_cons, mem_cons, not_or] at hd';have hm : p.1 ∈ ex.map (·.1) := mem_map.2 ⟨p, hp, rfl⟩;exact ⟨fun e => hd'.2.2.1 (e ▸ hm), fun e => hd'.1.2.2 (e ▸ hm), fun e => hd'.2.1.2 (e ▸ hm)⟩
  have hexn : (ex.map (·.1)).Nodup := by
   have hd' := dJ hd;simp only [oHl, cons_append, nil_append, map_cons, nodup_cons] at hd';exact hd'.2.2.2
  have hg : ∀ x ∈ dG (oHl ks bs al ++ ex), x ∈ keys (oHl ks bs al ++ ex) ∨ x ∈ keys (fam 0 al) := fun x hx => by
   rw [iF] at hx;rcases mem_append.1 hx with hx | hx
   ·exact .inr (cR x (by simpa [oHl, dG, AObj.refs] using hx))
   ·rcases y2 hex x hx with h | h | h
    ·exact .inl (gN.2 (.inl h))
    ·exact .inl (gN.2 (.inr h))
    ·exact .inr h
  have hkk : ∀ x, x ∈ keys (oHl ks bs al ++ ex) → x ∈ keys ([(703, AObj.rarr 78 14 (aS 0 al)), (701, .arr 73 15 (aR bs) 2), (702, .arr 37 10 (aQ ks) 2)] ++ ex) := fun x hx => by
   simp only [oHl, keys, cons_append, nil_append, map_cons, mem_cons] at hx ⊢;rcases hx with h | h | h | h
   ·exact .inr (.inl h)
   ·exact .inr (.inr (.inl h))
   ·exact .inl h
   ·exact .inr (.inr (.inr h))
  refine slT hF (FarEq.upd hF (FarEq.upd hF (FarEq.mkt hF hn'))) (fun x hx => ?_) (fun x hx => ?_) (fun i hi => (hkf i hi).imp (hkk i) id) (he := eQ.of fun p hp => ?_) (hh := ⟨⟨_, rfl, .rarrS rfl⟩, ⟨_, rfl, .arr⟩, ⟨_, rfl, .arr⟩, eQ.of fun p hp => ?_⟩) (h3 := ?_) (h3' := ?_)
  ·rcases hel x hx with h | h | h
   ·exact .inl (hkk x (gN.2 (.inl h)))
   ·exact .inl (hkk x (gN.2 (.inr h)))
   ·exact .inr h
  ·refine (hg x ?_).imp (hkk x) id;rw [iF] at hx ⊢;rcases mem_append.1 hx with hx | hx
   ·exact mem_append.2 (.inl (by simpa [oHl, dG, AObj.refs] using hx))
   ·exact mem_append.2 (.inr hx)
  ·rw [V.ren_id];exact oI hnd p hp
  ·obtain ⟨m1, m2, m3⟩ := hmem p hp;refine ⟨p.2, ?_, .refl_id (by intro e; have := hlv p hp; rw [e] at this; cases this)⟩;dsimp only;rw [b7 _ _ _ (Ne.symm m3), b7 _ _ _ (Ne.symm m2)];have hl : Go.AM.look (oHl ks bs al ++ ex) p.1 = some p.2 := oI (dJ hd) p (mem_append.2 (.inr hp));show (match Go.AM.look (oHl ks bs al ++ ex) p.1 with | some x => some x | none => _) = _;rw [hl]
  ·refine fM ?_;simp only [cons_append, nil_append, map_cons, nodup_cons, mem_cons, not_or];refine ⟨⟨by decide, by decide, fun h => ?_⟩, ⟨by decide, fun h => ?_⟩, fun h => ?_, hexn⟩
   all_goals
    obtain ⟨p, hp, e⟩ := mem_map.1 h;have := hmem p hp;omega
  ·rw [all_append, hn]; rfl
 have hnd3 : Go.AM.distinct (703 :: List.map (fun p : Nat × AObj => p.1) ([(701, AObj.arr 73 15 (aR bs) 2), (702, .arr 37 10 (aQ ks) 2)] ++ ex)) = true := by
  have hd' := dJ hd;simp only [oHl, cons_append, nil_append, map_cons, nodup_cons, mem_cons, not_or] at hd';refine fM ?_;simp only [cons_append, nil_append, map_cons, nodup_cons, mem_cons, not_or];exact ⟨⟨by decide, by decide, hd'.2.2.1⟩, ⟨by decide, hd'.1.2.2⟩, hd'.2.1.2, hd'.2.2.2⟩
 have e2 := Sub.fzAll (kf := kf) (el := el) (hl := [(703, .rarr 78 14 (aS 0 al)), (701, .arr 73 15 (aR bs) 2), (702, .arr 37 10 (aQ ks) 2)] ++ ex) hF (by rw [all_append, hn]; rfl);have e3 := Sub.fraT (kf := kf) (el := el) (id := 703) (te := 78) (es := 14) (rows := aS 0 al) (rest := [(701, .arr 73 15 (aR bs) 2), (702, .arr 37 10 (aQ ks) 2)] ++ ex) hF.frz h703 sL rfl hnd3;rw [eC] at e3;exact Sub.trans e3 (Sub.trans e2 e1)
theorem aJf {c : Core} (h : OwG c) : OwP c := by
 obtain ⟨f, n, s, t, ks, bs, al⟩ := c;refine aU.sub h ?_;have hF : TF (fam 0 al) := fJ;show Sub [] _ (mk [(0, .ma (eD f n s t ks.length bs.length al.length))] (oHl ks bs al ++ fam 0 al));rw [← aJm hF];have h1 := oD (kf := []) (el := [(0, .ma (eD f n s t ks.length bs.length al.length))]) (ex := []) (ks := ks) (bs := bs) (al := al) (by simp) (Kn.of rfl) trivial (fun _ h => by cases h) rfl rfl (by simp) (fun _ h => by cases h);rw [append_nil] at h1;refine Sub.trans ?_ h1;have e1 : fzE 703 (.ra al.length 14 (aS 0 al).flatten) [(0, .ma (eD f n s t ks.length bs.length al.length))] = [(0, .ma (j2 f n s t ks.length bs.length al))] := by
  unfold eD j2;simp only [fzE, V.fz, R.fzL, R.fz, beq_refl, if_true, Bool.and_self]
 rw [e1];have hF2 : TF (wH (fam 0 al)) := hF.frz;obtain ⟨ids, hp⟩ := r3 (h := (mkt [(0, V.ma (j2 f n s t ks.length bs.length al))] (fzH 703 (.ra al.length 14 (aS 0 al).flatten) ([(701, .arr 73 15 (aR bs) 2), (702, .arr 37 10 (aQ ks) 2)] ++ [])) (wH (fam 0 al))).h) (f := f) (n := n) (s := s) (t := t) (ks := ks) (bs := bs) (al := al) rfl rfl (FarEq.mkt hF2 rfl);refine Sub.trans ?_ (Sub.conv (t := 0) (v := .ma (j2 f n s t ks.length bs.length al)) (v' := .pa (aC (.mk f n s t ks bs al))) rfl (.agg hp));exact sl
theorem rS : ∀ (n : Nat) (c : Core), b6 c ≤ n → n ≤ 570000000000 → allT TyG c → OwP c
 | 0, c, h, _, _ => by have := eZ c; omega
 | n + 1, c, h, hn, hT => aJf (uE c (fun x hx hx' => rS n x (by omega) (by omega) hx') hT (by omega))
theorem aQt (c : Core) (h : b6 c ≤ 570000000000) (hT : allT TyG c) : OwG c := uE c (fun x hx hx' => rS (b6 x) x (le_refl _) (by omega) hx') hT h
end Go.Proofs.YtmoekkcdkjopgaaGreatDoor
