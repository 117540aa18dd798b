/-
  Texts Am13 to Am43 in one.
-/
import Derived.Test.YtmoekkcdkjopgaaGreatDoorM2
import Derived.RangeFuncRecord
import Derived.IntWalk
import Derived.Laws.StructEq
import Derived.ProofKit
import Derived.SizedLaws
import Derived.OpenShut
import Derived.Carry
open List (all_eq_true append_assoc append_nil cons_append drop_succ_cons flatten_cons length_append length_cons length_nil length_take mapM_cons map_cons map_nil map_toArray mem_cons mem_map mem_of_mem_take nil_append set_eq_take_append_cons_drop take_of_length_le take_succ_cons)
open Nat (add_assoc add_mul beq_refl le_of_lt le_refl min_eq_left mul_one zero_add zero_le)
namespace Go.AM
open Go
theorem Sim.freeze {G : Ctx} {n : Nat} {S : Sto} {μ : Mu} {a : Act} {w : World} {st : St} {id te es : Nat} {elems : List (List C)} {fz : Nat} (h : st.h id = some (.arr te es elems fz)) (hs : Sim G n S μ st a w) : ∃ S' μ', Sim G n S' μ' ⟨st.e, upd st.h id (some (.arr te es elems 2)), st.d⟩ a w := by
 have hO := hs.inv.obj id _ h
 have hE0 : ∀ S', S.le S' → Evolve S μ st.h S' μ (upd st.h id (some (.arr te es elems 2))) := fun S' hle => ⟨hle, fun j x hj => by
  by_cases hne : j = id
  ·subst hne;rw [h] at hj; cases hj;exact ⟨_, aI _ _ _, by simp [AObj.succ]⟩
  ·exact ⟨x, by rw [aS _ _ _ hne]; exact hj, x.succ_refl rfl⟩⟩
 have hold : ∀ j x, upd st.h id (some (.arr te es elems 2)) j = some x → ∃ x', st.h j = some x' := fun j x hj => by
  by_cases hne : j = id
  ·subst hne; exact ⟨_, h⟩
  ·rw [aS _ _ _ hne] at hj; exact ⟨_, hj⟩
 obtain ⟨h1, h2, h3, h4, h5, h6, h7, h8⟩ := hs.inv;obtain ⟨g0, ⟨g1, g2⟩ | ⟨b, base, cap, vs, g1, g2, g3, g4, g5, g6, g7, g8, g9⟩⟩ := hO
 ·-- no block yet
  have hE := hE0 S S.le_refl;refine ⟨S, μ, ⟨h1, fun j x hj => ?_, fun i j x x' b c c' hi hj hm hm' => ?_, fun i x b c hi hm => ?_, h5, h6, h7, h8.trans hE⟩, hs.size, hs.defers.evolve hE, fun t v e => aV.evolve hE v _ (hs.env t v e)⟩
  ·by_cases hne : j = id
   ·subst hne;have hj' : some (AObj.arr te es elems 2) = some x := by rw [← hj]; exact (aI _ _ _).symm
    cases hj';exact ⟨g0, .inl ⟨g1, g2⟩⟩
   ·have hj' : st.h j = some x := by rw [← hj]; exact (aS _ _ _ hne).symm
    exact (h2 j x hj').evolve hE rfl fun _ _ _ => ⟨rfl, fun _ => rfl, rfl⟩
  ·obtain ⟨_, hi'⟩ := hold _ _ hi;obtain ⟨_, hj'⟩ := hold _ _ hj;exact h3 i j _ _ b c c' hi' hj' hm hm'
  ·obtain ⟨_, hi'⟩ := hold _ _ hi;exact h4 i _ b c hi' hm
 ·let S' : Sto := ⟨fun b' o => if b' = b ∧ base ≤ o ∧ o < base + elems.length * es then vs[o]? else S.cell b' o, S.mapo⟩
  have hcell : ∀ o v, S.cell b o = some v → vs[o]? = some v := fun o v e => by
   obtain ⟨vs0, t0, fr0, p1, p2⟩ := h1.1 b o v e;rw [g2] at p1; cases p1;simpa using p2
  have hle : S.le S' := ⟨fun b' o v e => by
   show (if b' = b ∧ base ≤ o ∧ o < base + elems.length * es then vs[o]? else S.cell b' o) = some v;by_cases hc : b' = b ∧ base ≤ o ∧ o < base + elems.length * es
   ·rw [if_pos hc];obtain ⟨rfl, _⟩ := hc;exact hcell o v e
   ·rw [if_neg hc]; exact e, fun b' m e => ⟨m, e, m.le_refl⟩⟩
  have hE := hE0 S' hle;have hsame : ∀ b' o, b' ≠ b → S'.cell b' o = S.cell b' o := fun b' o hne => if_neg fun hc => hne hc.1
  refine ⟨S', μ, ⟨⟨fun b' o v e => ?_, h1.2⟩, fun j x hj => ?_, fun i j x x' b c c' hi hj hm hm' => ?_, fun i x b c hi hm => ?_, h5, Sto.le_trans h6 hle, fun b' hb hF => ?_, h8.trans hE⟩, hs.size, hs.defers.evolve hE, fun t v e => aV.evolve hE v _ (hs.env t v e)⟩
  ·by_cases hc : b' = b ∧ base ≤ o ∧ o < base + elems.length * es
   ·have e' : vs[o]? = some v := by rw [← e]; exact (if_pos hc).symm
    obtain ⟨rfl, _⟩ := hc;exact ⟨⟨vs⟩, te, (0, 0), g2, by simpa using e'⟩
   ·have e' : S.cell b' o = some v := by rw [← e]; exact (if_neg hc).symm
    exact h1.1 b' o v e'
  ·by_cases hne : j = id
   ·subst hne;have hj' : some (AObj.arr te es elems 2) = some x := by rw [← hj]; exact (aI _ _ _).symm
    cases hj';refine ⟨g0, .inr ⟨b, base, cap, vs, g1, g2, g3, g4, g5, c9.mono hle _ _ g6, (fun e => by cases e), fun o ho => ?_, fun _ i v hi => ?_⟩⟩
    ·show (if b = b ∧ base ≤ o ∧ o < base + elems.length * es then vs[o]? else S.cell b o) = none;rw [if_neg (by omega)];exact g8 o ho
    ·rw [List.getElem?_take] at hi;split at hi
     ·rw [List.getElem?_drop] at hi;show (if b = b ∧ base ≤ base + i ∧ base + i < base + elems.length * es then vs[base + i]? else S.cell b (base + i)) = some v;rw [if_pos ⟨rfl, by omega, by omega⟩];exact hi
     ·cases hi
   ·have hj' : st.h j = some x := by rw [← hj]; exact (aS _ _ _ hne).symm
    refine (h2 j x hj').evolve hE rfl fun b' c' hm => ⟨rfl, fun o => hsame b' o ?_, rfl⟩
    rintro rfl;exact hne (h3 j id x _ b' c' _ hj' h hm g1)
  ·obtain ⟨_, hi'⟩ := hold _ _ hi;obtain ⟨_, hj'⟩ := hold _ _ hj;exact h3 i j _ _ b c c' hi' hj' hm hm'
  ·obtain ⟨_, hi'⟩ := hold _ _ hi;exact h4 i _ b c hi' hm
  ·have hne : b' ≠ b := by
    rintro rfl;rcases h4 id _ b' _ h g1 with h9 | h9
    ·omega
    ·exact hF h9
   exact ⟨fun o => (hsame b' o hne).trans ((h7 b' hb hF).1 o), (h7 b' hb hF).2⟩
theorem Sub.freeze {kf : List Nat} {st : St} {id te es : Nat} {elems : List (List C)} {fz : Nat} (h : st.h id = some (.arr te es elems fz)) : Sub kf ⟨st.e, upd st.h id (some (.arr te es elems 2)), st.d⟩ st :=
 fun _ _ _ _ _ _ _ hs => hs.freeze h
theorem Inv.empty {G : Ctx} {S : Sto} {μ : Mu} {H : cF} {w : World} {id : Nat} (te es : Nat) (h : Inv G S μ H w) (hid : H id = none) : Inv G S (upd μ id none) (upd H id (some (.arr te es [] 0))) w ∧ Evolve S μ H S (upd μ id none) (upd H id (some (.arr te es [] 0))) := by
 have hE : Evolve S μ H S (upd μ id none) (upd H id (some (.arr te es [] 0))) := fG hid _ _;refine ⟨⟨h.holds, fun j x hj => ?_, fun i j x x' b c c' hi hj hm hm' => ?_, fun i x b c hi hm => ?_, h.frame, h.sle, h.sto, h.evo.trans hE⟩, hE⟩
 ·by_cases hne : j = id
  ·subst hne;rw [aI] at hj; cases hj;exact ⟨by simp, .inl ⟨aI _ _ _, rfl⟩⟩
  ·rw [aS _ _ _ hne] at hj;exact (h.obj j x hj).evolve hE (aS _ _ _ hne) fun _ _ _ => ⟨rfl, fun _ => rfl, rfl⟩
 ·have h1 : i ≠ id := fun e => by subst e; rw [aI] at hm; cases hm
  have h2 : j ≠ id := fun e => by subst e; rw [aI] at hm'; cases hm'
  rw [aS _ _ _ h1] at hi hm;rw [aS _ _ _ h2] at hj hm';exact h.inj i j x x' b c c' hi hj hm hm'
 ·have h1 : i ≠ id := fun e => by subst e; rw [aI] at hm; cases hm
  rw [aS _ _ _ h1] at hi hm;exact h.own i x b c hi hm
theorem Sub.own {kf : List Nat} {st : St} {t id : Nat} (te es : Nat) (h : st.e t = some (.one (.c .nl))) (hid : st.h id = none) : Sub kf ⟨upd st.e t (some (.one (.hs id 0 0 0))), upd st.h id (some (.arr te es [] 0)), st.d⟩ st := by
 intro G n S μ a w _ hs;obtain ⟨hi, hE⟩ := hs.inv.empty te es hid;refine ⟨S, upd μ id none, ⟨hi, hs.size, hs.defers.evolve hE, fun s v e => ?_⟩⟩;by_cases hst : s = t
 ·subst hst;have hv := hs.env s _ h;have e' : v = .one (.hs id 0 0 0) := by
   have : some v = some (V.one (.hs id 0 0 0)) := by rw [← e]; exact aI _ _ _
   cases this; rfl
  subst e';simp only [aV, b8, Rep] at hv ⊢;exact ⟨⟨_, _, _, hv⟩, .inr ⟨te, es, [], 0, aI _ _ _, le_refl _, fun _ => ⟨le_refl _, .inl ⟨aI _ _ _, rfl, hv⟩⟩⟩⟩
 ·have e' : st.e s = some v := by rw [← e]; exact (aS _ _ _ hst).symm
  exact aV.evolve hE v _ (hs.env s v e')
theorem Sub.ownCell {kf : List Nat} {st : St} {x k id tv : Nat} {cells : List R} (te es : Nat) (h : st.h x = some (.var tv cells)) (hk : cells[k]? = some (.c .nl)) (hid : st.h id = none) :
  Sub kf ⟨st.e, upd (upd st.h id (some (.arr te es [] 0))) x (some (.var tv (cells.set k (.hs id 0 0 0)))), st.d⟩ st := by
 intro G n S μ a w _ hs;obtain ⟨hi, hE⟩ := hs.inv.empty te es hid;have hne : x ≠ id := fun e => by subst e; rw [h] at hid; cases hid
 have hx : upd st.h id (some (.arr te es [] 0)) x = some (.var tv cells) := by rw [aS _ _ _ hne]; exact h
 obtain ⟨b, vs, g1, g2, g3, g4⟩ := hi.obj x _ hx
 have hE2 : Evolve S (upd μ id none) (upd st.h id (some (.arr te es [] 0))) S (upd μ id none) (upd (upd st.h id (some (.arr te es [] 0))) x (some (.var tv (cells.set k (.hs id 0 0 0))))) := ⟨S.le_refl, fun j y hj => by
  by_cases hjx : j = x
  ·subst hjx;rw [hx] at hj; cases hj;exact ⟨_, aI _ _ _, by simp [AObj.succ]⟩
  ·exact ⟨y, by rw [aS _ _ _ hjx]; exact hj, y.succ_refl rfl⟩⟩
 have hold : ∀ j y, upd (upd st.h id (some (.arr te es [] 0))) x (some (.var tv (cells.set k (.hs id 0 0 0)))) j = some y → ∃ y', upd st.h id (some (.arr te es [] 0)) j = some y' := fun j y hj => by
  by_cases hjx : j = x
  ·subst hjx; exact ⟨_, hx⟩
  ·rw [aS _ _ _ hjx] at hj; exact ⟨_, hj⟩
 refine ⟨S, upd μ id none, ⟨⟨hi.holds, fun j y hj => ?_, fun i j y y' b c c' hi' hj hm hm' => ?_, fun i y b c hi' hm => ?_, hi.frame, hi.sle, hi.sto, hi.evo.trans hE2⟩, hs.size, hs.defers.evolve (hE.trans hE2), fun s v e => aV.evolve (hE.trans hE2) v _ (hs.env s v e)⟩⟩
 ·by_cases hjx : j = x
  ·subst hjx;have hj' : some (AObj.var tv (cells.set k (.hs id 0 0 0))) = some y := by rw [← hj]; exact (aI _ _ _).symm
   cases hj';refine ⟨b, vs, g1, g2, ?_, g4⟩;have h3 := aU.evolve hE2 _ _ g3;obtain ⟨u, hu, hru⟩ := g3.get k _ hk;simp only [b8, Rep] at hru;have hkl : k < cells.length := (zq6.1 hk).1
   have hsplit : cells.set k (.hs id 0 0 0) = bV cells k [.hs id 0 0 0] := by
    unfold bV;rw [set_eq_take_append_cons_drop, if_pos hkl];simp
   have hvl := g3.length;have hvs : vs = bV vs k [u] := by
    unfold bV;apply List.ext_getElem?;intro i;simp only [List.getElem?_append, length_append, length_take, length_cons, length_nil, List.getElem?_take, List.getElem?_drop];have hm : min k vs.length = k := by omega
    rw [hm];by_cases c1 : i < k
    ·simp [c1, show i < k + 1 by omega]
    ·by_cases c2 : i = k
     ·subst c2; simp [hu]
     ·simp [show ¬ i < k + 1 by omega, show k + 1 + (i - (k + 1)) = i by omega]
   rw [hsplit] at h3 ⊢;rw [hvs];refine o4 h3 ?_;simp only [aU, b8];exact ⟨u, [], rfl, ⟨⟨_, _, _, hru⟩, .inr ⟨te, es, [], 0, by rw [aS _ _ _ hne.symm]; exact aI _ _ _, le_refl _, fun _ => ⟨le_refl _, .inl ⟨aI _ _ _, rfl, hru⟩⟩⟩⟩, rfl⟩
  ·have hj' : upd st.h id (some (.arr te es [] 0)) j = some y := by rw [← hj]; exact (aS _ _ _ hjx).symm
   exact (hi.obj j y hj').evolve hE2 rfl fun _ _ _ => ⟨rfl, fun _ => rfl, rfl⟩
 ·obtain ⟨_, h1⟩ := hold _ _ hi';obtain ⟨_, h2⟩ := hold _ _ hj;exact hi.inj i j _ _ b c c' h1 h2 hm hm'
 ·obtain ⟨_, h1⟩ := hold _ _ hi';exact hi.own i _ b c h1 hm
def aUv : Nat → List V → List (Nat × V)
 | _, [] => []
 | k, v :: vs => (k, v) :: aUv (k + 1) vs
inductive ResV (T : TT) (st : St) : List ResultVar → List V → Prop
 | nil : ResV T st [] []
 | tmp {t v rs vs} : st.e t = some v → ResV T st rs vs → ResV T st (.tmp t :: rs) (v :: vs)
 | cell {a t i id off tv cells v rs vs} : st.e a = some (.one (.vp id off)) → T[t]? = some (some i) → st.h id = some (.var tv cells) → Nat.ble (off + i.size) cells.length = true → oX i ((cells.drop off).take i.size) = some v → ResV T st rs vs →
   ResV T st (.cell a t :: rs) (v :: vs)
inductive Convs (h : cF) : List V → List V → Prop
 | nil : Convs h [] []
 | cons {ids v v' vs vs'} : Conv h ids v v' → Convs h vs vs' → Convs h (v :: vs) (v' :: vs')
def aPx : List Value → Value
 | [u] => u
 | us => .tuple ⟨us⟩
def aHj : List V → V
 | [v] => v
 | vs => .tup vs
theorem Convs.rel {S : Sto} {μ : Mu} {H : cF} {w : World} : ∀ {vs vs' : List V} {us : List Value}, Convs H vs vs' → (∀ id o, H id = some o → l4 S μ H w id o) → bT S μ H vs us → bT S μ H vs' us := by
 intro vs vs' us h
 induction h generalizing us with
 | nil => intro _ hv; exact hv
 | cons hc _ ih =>
  intro hO hv;simp only [bT] at hv ⊢;obtain ⟨v, us', rfl, h1, h2⟩ := hv;exact ⟨v, us', rfl, hc.rel (fun _ _ => rfl) hO h1, ih hO h2⟩
section
variable {P : Program} {T : TT}
theorem oW {G : Ctx} {n : Nat} {S : Sto} {μ : Mu} {st : St} {a : Act} {w : World} (hT : Tok P T) (hs : Sim G n S μ st a w) : ∀ {rs : List ResultVar} {vs : List V}, ResV T st rs vs →
  ∃ us, (rs.mapM fun (x : ResultVar) => (match x with | .tmp t => pure (a.tmps.getD t undef) | .cell p t => do loadVar t (← asAddr (a.tmps.getD p undef)) : Sem Value)).run P w = .ok us w ∧ bT S μ st.h vs us := by
 intro rs vs h
 induction h with
 | nil => exact ⟨[], by simp, by simp [bT]⟩
 | @tmp t v rs vs ht _ ih =>
  obtain ⟨us, h1, h2⟩ := ih;refine ⟨a.tmps.getD t undef :: us, ?_, ?_⟩
  ·simp only [mapM_cons, Sem.run_bind, Sem.run_pure, Result.andThen_ok, h1]
  ·simp only [bT];exact ⟨_, _, rfl, hs.env _ _ ht, h2⟩
 | @cell p t i id off tv cells v rs vs ht hi hh hb hl _ ih =>
  obtain ⟨us, h1, h2⟩ := ih;have hv := hs.env _ _ ht;simp only [aV, b8] at hv;obtain ⟨t', cells', b, c, g1, g2, g3⟩ := hv;obtain ⟨b', ws, q1, q2, q3, q4⟩ := hs.inv.obj id _ hh;rw [q1] at g2; cases g2;have hlen := zq5 hb;have hvl := q3.length;have hld := run_load (hT.get hi) w b off _ (jH q2 off i.size) (aZ8 (by omega));have hres := kN ((q3.drop off).take i.size) hl;generalize (if i.k.agg then Value.agg ⟨(ws.drop off).take i.size⟩ else ((ws.drop off).take i.size).headD undef) = u at hld hres;refine ⟨u :: us, ?_, by simp only [bT]; exact ⟨_, _, rfl, hres, h2⟩⟩
  ·simp only [Instr.loadAt, Instr.sureAddr, Sem.run_bind, Sem.run_pure, Result.andThen_ok] at hld;have hA : (asAddr (a.tmps.getD p undef)).run P w = .ok ⟨b, off, none⟩ w := by rw [g3]; rfl
   simp only [mapM_cons, Sem.run_bind, Sem.run_pure, Result.andThen_ok, hA, hld, h1]
theorem aAw {G : Ctx} {n : Nat} {S : Sto} {μ : Mu} {st : St} {a : Act} {w : World} {fn : Func} {vs : List V} (hT : Tok P T) (hs : Sim G n S μ st a w) (h : ResV T st fn.results.toList vs) :
  ∃ us, (results fn a.tmps).run P w = .ok (aPx us) w ∧ bT S μ st.h vs us := by
 obtain ⟨us, h1, h2⟩ := oW hT hs h;refine ⟨us, ?_, h2⟩;unfold results;rw [Array.mapM_eq_mapM_toList, Sem.run_bind, Sem.run_map]
 erw [h1]
 simp only [Result.andThen_ok, Sem.run_pure];congr 1
 match us with
 | [] => simp [aPx]
 | [u] => simp [aPx]
 | u :: u' :: us => simp [aPx]
def AObj.plain : AObj → Bool
 | .dfr => false
 | _ => true
theorem aM3 {o : AObj} {p : Prop} (h : o.succ p .dfr) : o = .dfr := by cases o <;> simp only [AObj.succ] at h; rfl
theorem Sim.take {P : Program} {G : Ctx} {n : Nat} {S : Sto} {μ : Mu} {st : St} {a : Act} {w : World} {id : Nat} {ids : List Nat} (hs : Sim G n S μ st a w) (hd : st.d = id :: ids) (hG : ∀ id, G.h0 id ≠ some .dfr) :
  ∃ b ds w', a.defers = { target := .collected b, args := #[] } :: ds ∧ (Instr.takeDeferred b).run P w = .ok [] w' ∧ Sim G n S μ ⟨st.e, upd st.h id none, ids⟩ { a with defers := ds } w' := by
 have hm := hs.defers;rw [hd] at hm;obtain ⟨b, c, ds, h1, h2, h3, h4, h5, h6⟩ := hm;obtain ⟨b', g1, g2, g3, g4⟩ := hs.inv.obj _ _ h3;rw [h2] at g1; cases g1;have hlt : b < w.heap.size := (Array.getElem?_eq_some_iff.1 g2).1
 have hne : ∀ j, upd st.h id none j = none ∨ j ≠ id := fun j => by
  by_cases hj : j = id
  ·exact .inl (by rw [hj, aI])
  ·exact .inr hj
 have aMm : ∀ {j o}, upd st.h id none j = some o → j ≠ id ∧ st.h j = some o := by
  intro j o hj;rcases hne j with h | h
  ·rw [h] at hj; cases hj
  ·exact ⟨h, by rwa [aS _ _ _ h] at hj⟩
 have hE : Evo0 S μ st.h S μ (upd st.h id none) := ⟨S.le_refl, fun j o hj ho => by
  have hji : j ≠ id := by rintro rfl; rw [h3] at hj; cases hj; exact ho rfl
  exact ⟨o, by rw [aS _ _ _ hji]; exact hj, o.succ_refl rfl⟩⟩
 refine ⟨b, ds, w.putObj b (.deferred none), h1, run_takeDeferred g2, ⟨⟨⟨fun b' o v e => ?_, fun b' mk e => ?_⟩, fun j o hj => ?_, fun i j o o' b1 c1 c2 hi hj m1 m2 => ?_, fun i o b1 c1 hi m1 => ?_, ?_, hs.inv.sle, hs.inv.sto, ⟨hs.inv.evo.le, fun j o hj => ?_⟩⟩, hs.size, ?_, fun t v e => aV.evolve0 hE _ _ (hs.env t v e)⟩⟩
 ·obtain ⟨vs, t, fr, k1, k2⟩ := hs.inv.holds.1 b' o v e;have : b' ≠ b := by rintro rfl; rw [g3] at e; cases e
  exact ⟨vs, t, fr, by rw [World.putObj_heap_other this]; exact k1, k2⟩
 ·have : b' ≠ b := by rintro rfl; rw [g4] at e; cases e
  rw [World.putObj_heap_other this]; exact hs.inv.holds.2 b' mk e
 ·obtain ⟨k1, k2⟩ := aMm hj;refine (hs.inv.obj j o k2).evolve0 hE rfl fun b1 c1 m1 => ⟨World.putObj_heap_other ?_, fun _ => rfl, rfl⟩
  rintro rfl;exact k1 (hs.inv.inj j id o .dfr b1 c1 _ k2 h3 m1 h2)
 ·exact hs.inv.inj i j o o' b1 c1 c2 (aMm hi).2 (aMm hj).2 m1 m2
 ·exact hs.inv.own i o b1 c1 (aMm hi).2 m1
 ·obtain ⟨f1, f2, f3, f4, f5, f6⟩ := hs.inv.frame;refine ⟨f1, f2, f3, by simpa using f4, fun k hk hF => ?_, f6⟩;rw [World.putObj_heap_other (by omega)];exact f5 k hk hF
 ·obtain ⟨o', k1, k2⟩ := hs.inv.evo.obj j o hj;have hji : j ≠ id := by
   rintro rfl;rw [h3] at k1; cases k1;rw [aM3 k2] at hj;exact hG _ hj
  exact ⟨o', by show upd st.h id none j = some o'; rw [aS _ _ _ hji]; exact k1, k2⟩
 ·exact h6.go fun j hj hjd => ⟨rfl, by
   have hji : j ≠ id := by rintro rfl; exact h5 hj
   show upd st.h id none j = some .dfr
   rw [aS _ _ _ hji]; exact hjd⟩
theorem Sim.leave {P : Program} {fn : Func} {R : Ending → World → Prop} {G : Ctx} {n : Nat} {S : Sto} {μ : Mu} (hG : ∀ id, G.h0 id ≠ some .dfr) : ∀ (ids : List Nat) {e : Nat → Option V} {h : cF} {a : Act} {w : World}, Sim G n S μ ⟨e, h, ids⟩ a w →
  (∀ h' w', (∀ id o, h id = some o → o ≠ .dfr → h' id = some o) → Sim G n S μ ⟨e, h', []⟩ { a with defers := [] } w' → ∃ v, (results fn a.tmps).run P w' = .ok v w' ∧ R (.returned v) w') →
  LeavesInM (Wd none) 0 P fn a.tmps R a.defers .returning w
 | [], e, h, a, w, hs, hk => by
  have hd : a.defers = [] := hs.defers;rw [hd];refine hk h w (fun _ _ h _ => h) ?_;obtain ⟨h1, h2, h3, h4⟩ := hs;exact ⟨h1, h2, rfl, h4⟩
 | id :: ids, e, h, a, w, hs, hk => by
  have h3 : h id = some .dfr := by
   obtain ⟨b, c, ds', q1, q2, q3, _⟩ := hs.defers;exact q3
  obtain ⟨b, ds, w', h1, h2, hs'⟩ := hs.take (P := P) rfl hG;rw [h1];refine ⟨by simp, .inl ⟨b, w', rfl, h2, ?_⟩⟩;refine Sim.leave hG ids (a := { a with defers := ds }) hs' fun h' w'' hh hs'' => hk h' w'' (fun j o hj ho => hh j o ?_ ho) hs''
  have hji : j ≠ id := by rintro rfl; rw [h3] at hj; cases hj; exact ho rfl
  rw [aS _ _ _ hji]; exact hj
structure Fin (T : TT) (fn : Func) (st : St) (hin : List (Nat × AObj)) (res : V) (hout : List (Nat × AObj)) : Prop where
 ex : ∃ vs vs', ResV T st fn.results.toList vs ∧ Convs st.h vs vs' ∧ aHj vs' = res
 out : dP (fun p => ∃ o, st.h p.1 = some o ∧ Ole (fun i => i) o p.2) hout
 ok : (subset res.refs (keys hout) && subset (cQ hout) (keys hout) && distinct (keys hout) && subset (keys hin) (keys hout) && (hin.all fun p => p.2.plain) && (hout.all fun p => p.2.plain)) = true
theorem ResV.keep {st : St} {h' : cF} {d : List Nat} (hh : ∀ id o, st.h id = some o → o ≠ .dfr → h' id = some o) : ∀ {rs : List ResultVar} {vs : List V}, ResV T st rs vs → ResV T ⟨st.e, h', d⟩ rs vs := by
 intro rs vs h
 induction h with
 | nil => exact .nil
 | tmp h1 _ ih => exact .tmp h1 ih
 | cell h1 h2 h3 h4 h5 _ ih => exact .cell h1 h2 (hh _ _ h3 (by simp)) h4 h5 ih
theorem PureL.keep {h h' : cF} (hh : ∀ id o, h id = some o → o ≠ .dfr → h' id = some o) : ∀ {ids : List Nat} {rs : List R} {cs : List C}, PureL h ids rs cs → PureL h' ids rs cs := by
 intro ids rs cs k
 induction k with
 | nil => exact .nil
 | c h1 _ ih => exact .c h1 ih
 | hs h1 h2 h3 _ ih => exact .hs (hh _ _ h1 (by simp)) h2 h3 ih
 | any _ ih => exact .any ih
 | fn _ ih => exact .fn ih
 | ras h0 _ h1 h2 h3 _ ih' ih => exact .ras h0 ih' h1 h2 h3 ih
theorem Convs.keep {h h' : cF} (hh : ∀ id o, h id = some o → o ≠ .dfr → h' id = some o) : ∀ {vs vs' : List V}, Convs h vs vs' → Convs h' vs vs' := by
 intro vs vs' k
 induction k with
 | nil => exact .nil
 | @cons ids v v' vs vs' h1 _ ih =>
  refine .cons (ids := ids) ?_ ih;cases h1 with
  | refl => exact .refl
  | one h => exact .one (h.keep hh)
  | agg h => exact .agg (h.keep hh)
  | pa h => exact .pa (h.keep hh)
theorem c8 {f : FuncId} {fn : Func} {c : Code} {n : Nat} {args : List V} {hin hout : List (Nat × AObj)} {res : V} (hT : Tok P T) (hf : P.funcs[f]? = some fn) (hb : fn.body = some c) (hn : fn.ntmps = n) (hle : Nat.ble args.length n = true)
  (h : AWp none P n (keys hin) c (mk (aUv 0 args) hin) (fun ex st => (ex = .normal ∨ ex = .ret) ∧ Fin T fn st hin res hout)) : aY P f args hin res hout := by
 intro S μ w vals hI hv;refine (Wd.calls (ro := none) (n := 0)).1 (callsIn_of_wp_marks hf hb trivial ?_);have hvl : ∀ (l : List V) (us : List Value), bT S μ (look hin) l us → us.length = l.length := by
  intro l
  induction l with
  | nil => intro us h; simp only [bT] at h; subst h; rfl
  | cons x l ih =>
   intro us h;simp only [bT] at h;obtain ⟨v, vs', rfl, _, h2⟩ := h;simp [ih _ h2]
 have hvals := hvl _ _ hv;have hle' := zq5 hle;have hkeep : Ctx.keeps ⟨w, S, wX μ (look hin), μ, look hin⟩ (keys hin) := fun id o ho => mem_map.2 ⟨_, c6 ho, rfl⟩
 refine h ⟨w, S, wX μ (look hin), μ, look hin⟩ S μ _ w _ ⟨hkeep, trivial⟩ ⟨hI, by simp; omega, rfl, fun t v ht => ?_⟩ ?_
 ·have key : ∀ (l : List V) (us : List Value) (k : Nat), bT S μ (look hin) l us → look (aUv k l) t = some v → ∃ j, t = k + j ∧ ∃ u, us[j]? = some u ∧ aV S μ (look hin) v u := by
   intro l
   induction l with
   | nil => intro us k _ h; simp [aUv, look] at h
   | cons x l ih =>
    intro us k hr hl;simp only [bT] at hr;obtain ⟨u, us', rfl, h1, h2⟩ := hr;simp only [aUv, look] at hl;split at hl
    ·rename_i hbq;cases hl;exact ⟨0, by rw [zq4 hbq]; rfl, u, rfl, h1⟩
    ·obtain ⟨j, h3, u', h4, h5⟩ := ih us' (k + 1) h2 hl;exact ⟨j + 1, by omega, u', by simpa using h4, h5⟩
  obtain ⟨j, h1, u, h2, h3⟩ := key args vals 0 hv ht;rw [zero_add] at h1;subst h1;have hj : t < vals.length := (zq6.1 h2).1
  have : ((⟨vals⟩ : Array Value) ++ Array.replicate (fn.ntmps - (⟨vals⟩ : Array Value).size) undef).getD t undef = u := by
   rw [Array.getD_eq_getD_getElem?, Array.getElem?_append_left (by simpa using hj)];simp [h2]
  show aV S μ (look hin) v (((⟨vals⟩ : Array Value) ++ Array.replicate (fn.ntmps - (⟨vals⟩ : Array Value).size) undef).getD t undef);rw [this];exact h3
 ·intro ex st' S' μ' a' w' ⟨hex, hfin⟩ hs;obtain ⟨⟨vs, vs', hr, hc, hres⟩, hout', hok⟩ := hfin;simp only [Bool.and_eq_true] at hok;obtain ⟨⟨⟨⟨⟨k1, k2⟩, k3⟩, k4⟩, k5⟩, k6⟩ := hok;have hleave : LeavesInM (Wd none) 0 P fn a'.tmps (fun e w' => ∃ S' μ' v, e = .returned v ∧ Inv ⟨w, S, wX μ (look hin), μ, look hin⟩ S' μ' (look hout) w' ∧ aV S' μ' (look hout) res v) a'.defers .returning w' := by
   refine Sim.leave (G := ⟨w, S, wX μ (look hin), μ, look hin⟩) (n := n) (S := S') (μ := μ') (fun id e => ?_) st'.d (e := st'.e) (h := st'.h) hs fun h' w'' hh hs => ?_
   ·have := (all_eq_true.1 k5) _ (c6 (show look hin id = some .dfr from e));cases this
   have hr : ResV T ⟨st'.e, h', []⟩ fn.results.toList vs := ResV.keep (fun id o ho hne => hh id o ho hne) hr;have hc : Convs h' vs vs' := hc.keep fun id o ho hne => hh id o ho hne
   have hout' : dP (fun p => ∃ o, h' p.1 = some o ∧ Ole (fun i => i) o p.2) hout := by
    have hk : ∀ l : List (Nat × AObj), (∀ p ∈ l, p ∈ hout) → dP (fun p => ∃ o, h' p.1 = some o ∧ Ole (fun i => i) o p.2) l := by
     intro l
     induction l with
     | nil => intro _; trivial
     | cons p l ih =>
      intro hl;refine ⟨?_, ih fun q hq => hl q (by simp [hq])⟩;obtain ⟨o, g1, g2⟩ := hout'.mem p (hl p (by simp));refine ⟨o, hh _ _ g1 ?_, g2⟩;rintro rfl;have hp := (all_eq_true.1 k6) p (hl p (by simp));cases hq : p.2 <;> rw [hq] at g2 hp <;> cases g2;cases hp
    exact hk hout fun p hp => hp
   obtain ⟨us, h1, h2⟩ := aAw hT hs hr;refine ⟨_, h1, ?_⟩;have h3 := hc.rel hs.inv.obj h2;have hgood : ∀ i ∈ keys hout, Good h' (look hout) (fun i => i) i := by
    intro i hi;obtain ⟨o', ho'⟩ := gI hi;obtain ⟨o, g1, g2⟩ := hout'.mem _ (c6 ho');exact ⟨o, o', g1, ho', g2⟩
   have hv4 : aV S' μ' h' res (aPx us) := by
    rw [← hres]
    match vs', us, h3 with
    | [], us, h3 => simp only [bT] at h3; subst h3; simp [aHj, aPx, aV, bT]
    | [v], us, h3 =>
     simp only [bT] at h3;obtain ⟨u, us', rfl, h5, rfl⟩ := h3;exact h5
    | v :: v' :: l, us, h3 =>
     have h3' := h3;simp only [bT] at h3';obtain ⟨u, us', rfl, _, u', us'', rfl, _, _⟩ := h3';simp only [aHj, aPx, aV];exact ⟨_, rfl, h3⟩
   have hI' : Inv ⟨w, S, wX μ (look hin), μ, look hin⟩ S' μ' (look hout) w'' := by
    refine ⟨hs.inv.holds, fun id o ho => ?_, fun i j o o' b c c' hi hj hm hm' => ?_, fun i o b c hi hm => ?_, hs.inv.frame, hs.inv.sle, hs.inv.sto, ⟨hs.inv.evo.le, fun id o ho => ?_⟩⟩
    ·obtain ⟨o1, g1, g2⟩ := hout'.mem _ (c6 ho);exact (hs.inv.obj _ _ g1).ren g2 fun i hi => hgood i (bM k2 i (iX (c6 ho) i hi))
    ·obtain ⟨o1, g1, g2⟩ := hout'.mem _ (c6 hi);obtain ⟨o2, g3, g4⟩ := hout'.mem _ (c6 hj);exact hs.inv.inj _ _ _ _ b c c' g1 g3 hm hm'
    ·obtain ⟨o1, g1, g2⟩ := hout'.mem _ (c6 hi);exact hs.inv.own _ _ b c g1 hm
    ·obtain ⟨o', (g1 : h' id = some o'), g2⟩ := hs.inv.evo.obj id o ho;have hk : id ∈ keys hin := mem_map.2 ⟨_, c6 (show look hin id = some o from ho), rfl⟩;obtain ⟨o1, o2, g3, g4, g5⟩ := hgood id (bM k4 id hk);rw [g1] at g3; cases g3;exact ⟨o2, g4, AObj.succ_trans g2 g5.succ fun e _ => e⟩
   have hR : aV S' μ' (look hout) res (aPx us) := by
    have := aV.ren (H := h') (H' := look hout) (σ := fun i => i) res _ (fun i hi => hgood i (bM k1 i hi)) (by rw [V.ren_id]; exact hv4);exact this
   exact ⟨S', μ', _, rfl, hI', hR⟩
  rcases hex with rfl | rfl
  ·exact hleave
  ·exact hleave
end
def jV (P : Program) (n : Nat) (ops : Array Oper) (draw : Bool) (k : Nat) (st : St) (pre : REs) (Q : St → Prop) : Prop :=
 ∃ xs st', Run P n ops k st xs st' ∧ Nat.beq (k + xs.length) ops.size = true ∧ (!draw || (fY (rQ ops) (pre.reverse ++ xs) [] && jR ops)) = true ∧ Q st'
section
variable {ro : Option Nat} {P : Program} {n : Nat} {ops : Array Oper} {draw : Bool} {k : Nat} {st : St} {pre : REs} {Q : St → Prop}
theorem k_ {rd : Rd} {f : Eff} (h : GStep P n ops k st rd f) (hk : jV P n ops draw (k + 1) (f.apply st) ((rd, f) :: pre) Q) : jV P n ops draw k st pre Q := by
 obtain ⟨xs, st', h1, h2, h3, h4⟩ := hk;refine ⟨(rd, f) :: xs, st', .cons h h1, ?_, ?_, h4⟩
 ·rw [length_cons, show k + (xs.length + 1) = k + 1 + xs.length by omega];exact h2
 ·rw [List.reverse_cons, append_assoc] at h3;exact h3
theorem z_ (h1 : Nat.beq k ops.size = true) (h2 : (!draw || (fY (rQ ops) pre.reverse [] && jR ops)) = true) (hq : Q st) : jV P n ops draw k st pre Q :=
 ⟨[], st, .nil, h1, by rw [append_nil]; exact h2, hq⟩
theorem aF {kf : List Nat} {id : Nat} {Q : Exit → St → Prop} (hm : P.follows .mixedOrders = true) (h : jV P n ops draw 0 st [] (fun st' => Q .normal st')) : AWp ro P n kf (.region id ops draw) st Q := by
 obtain ⟨xs, st', h1, h2, h4, h3⟩ := h;rw [zero_add] at h2;exact tU hm h1 h2 h4 h3
theorem aT9 {kf : List Nat} {id : Nat} {Q : Exit → St → Prop} (st2 : St) (hm : P.follows .mixedOrders = true) (h : jV P n ops draw 0 st [] (fun st' => Sub kf st2 st')) (hq : Q .normal st2) : AWp ro P n kf (.region id ops draw) st Q := by
 obtain ⟨xs, st', h1, h2, h4, h3⟩ := h;rw [zero_add] at h2;refine AWp.post (Q := fun ex s => ex = .normal ∧ Sub kf st2 s) (tU hm h1 h2 h4 ⟨rfl, h3⟩) ?_;rintro ex s ⟨rfl, hs⟩;exact ⟨st2, hs, hq⟩
theorem g_ {i : Nat} {o : Oper} {rd : Rd} {f : Eff} (ho : ops[i]? = some o) (hg : o.guard = none) (h : Step P n o st rd f) : GStep P n ops i st rd f := GStep.plain ho hg h
theorem AWp.cut {kf : List Nat} {c : Code} {Q : Exit → St → Prop} (st2 : St) (h : AWp ro P n kf c st (fun ex s => match ex with | .normal => Sub kf st2 s | ex => Q ex s)) (hq : Q .normal st2) : AWp ro P n kf c st Q := by
 refine AWp.post h ?_;intro ex s hs;cases ex with
 | normal => exact ⟨st2, hs, hq⟩
 | _ => exact ⟨s, Sub.refl _ _, hs⟩
end
section
variable {P : Program} {n : Nat} {o : Oper} {st : St} {d : Nat} {T : TT}
theorem aWf {tx ty : TypeId} {x y : Operand} {a b : Int} (ho : o.op = .binOp .add tx x y ty) (hd : o.dst = some d) (hdn : d < n) (hx : opv st x = some (I .i64 a)) (hy : opv st y = some (I .i64 b)) (hr : -9223372036854775808 ≤ a + b ∧ a + b ≤ 9223372036854775807) :
  Step P n o st ⟨opr x ++ opr y, []⟩ ⟨some (d, some (I .i64 (a + b))), []⟩ := aNl ho hd hdn hx hy (IntWalk.i64_in _ hr)
theorem aVw {tx ty : TypeId} {x y : Operand} {a b : Int} (ho : o.op = .binOp .sub tx x y ty) (hd : o.dst = some d) (hdn : d < n) (hx : opv st x = some (I .i64 a)) (hy : opv st y = some (I .i64 b)) (hr : -9223372036854775808 ≤ a - b ∧ a - b ≤ 9223372036854775807) :
  Step P n o st ⟨opr x ++ opr y, []⟩ ⟨some (d, some (I .i64 (a - b))), []⟩ := aNb ho hd hdn hx hy (IntWalk.i64_in _ hr)
theorem aV9 {tx ty : TypeId} {x y : Operand} {a b : Int} (ho : o.op = .binOp .mul tx x y ty) (hd : o.dst = some d) (hdn : d < n) (hx : opv st x = some (I .i64 a)) (hy : opv st y = some (I .i64 b)) (hr : -9223372036854775808 ≤ a * b ∧ a * b ≤ 9223372036854775807) :
  Step P n o st ⟨opr x ++ opr y, []⟩ ⟨some (d, some (I .i64 (a * b))), []⟩ := aNg ho hd hdn hx hy (IntWalk.i64_in _ hr)
theorem aQb {tx ty : TypeId} {x y : Operand} {a b : Int} (ho : o.op = .binOp .quo tx x y ty) (hd : o.dst = some d) (hdn : d < n) (hx : opv st x = some (I .i64 a)) (hy : opv st y = some (I .i64 b)) (hr : 0 ≤ a ∧ a ≤ 9223372036854775807 ∧ 1 ≤ b) :
  Step P n o st ⟨opr x ++ opr y, []⟩ ⟨some (d, some (I .i64 (a / b))), []⟩ := aV5 ho hd hdn hx hy (by omega) (by
   have h1 : a.tdiv b = a / b := Int.tdiv_eq_ediv_of_nonneg hr.1;rw [h1];refine IntWalk.i64_in _ ⟨?_, ?_⟩
   ·have := Int.ediv_nonneg hr.1 (show (0 : Int) ≤ b by omega); omega
   ·have := Int.ediv_le_self b hr.1; omega)
theorem aQa {tx ty : TypeId} {x y : Operand} {k : IntKind} {a b : Int} (ho : o.op = .binOp .rem tx x y ty) (hd : o.dst = some d) (hdn : d < n) (hx : opv st x = some (I k a)) (hy : opv st y = some (I k b)) (hr : 0 ≤ a ∧ 1 ≤ b) :
  Step P n o st ⟨opr x ++ opr y, []⟩ ⟨some (d, some (I k (a % b))), []⟩ := aV3 ho hd hdn hx hy (by omega) (Int.tmod_eq_emod_of_nonneg hr.1)
theorem fB (op : BinOp) (t : TypeId) (x y : Operand) (u v : Value) (w : World) (h1 : (match u with | .agg _ => true | .nilIface => true | _ => false) = false) : (eqGuard op t x y u v).run P w = .ok () w := by
 unfold eqGuard;cases u <;> simp at h1 <;> (split <;> rfl)
theorem s7 {t : TypeId} (hu : P.underlying t = some .bool) (d : Nat) (a b : Bool) (w : World) : (Op.equalIn (d + 1) t (.bool a) (.bool b)).run P w = .ok (a == b) w := by
 simp only [Op.equalIn, Sem.run_bind, run_underlying hu w, Result.andThen_ok, Sem.run_pure]
theorem xG {t e : TypeId} (hu : P.underlying t = some (.pointer e)) (d : Nat) (p : Option Addr) (w : World) : (Op.equalIn (d + 1) t (.pointer p) (.pointer none)).run P w = .ok p.isNone w := by
 cases p <;> simp only [Op.equalIn, Sem.run_bind, run_underlying hu w, Result.andThen_ok, Sem.run_pure] <;> rfl
theorem aM7 {t e : TypeId} (hu : P.underlying t = some (.slice e)) (d : Nat) (p : Option Addr) (l c : Nat) (w : World) : (Op.equalIn (d + 1) t (.slice p l c) (.slice none 0 0)).run P w = .ok p.isNone w := by
 cases p <;> simp only [Op.equalIn, Sem.run_bind, run_underlying hu w, Result.andThen_ok, Sem.run_pure] <;> rfl
theorem aAx {tx ty : TypeId} {x y : Operand} {a : Act} {w : World} {u v : Value} {b : Bool} (ho : o.op = .binOp .eql tx x y ty) (hx : a.eval x = u) (hy : a.eval y = v) (hg : (eqGuard .eql tx x y u v).run P w = .ok () w)
  (hb : binOp .eql tx u v = (do pure (.bool (← Op.equal tx u v)))) (hr : (Op.equalIn (9999 + 1) tx u v).run P w = .ok b w) : (execOp a.eval o).run P w = .ok (.value (.bool b)) w := by
 have hr' : (Op.equal tx u v).run P w = .ok b w := hr;simp only [execOp, ho, hx, hy, Sem.run_bind, hg, Result.andThen_ok, hb, hr', Sem.run_pure]
theorem uS {tx ty : TypeId} {x y : Operand} {a : Act} {w : World} {u v : Value} {b : Bool} (ho : o.op = .binOp .neq tx x y ty) (hx : a.eval x = u) (hy : a.eval y = v) (hg : (eqGuard .neq tx x y u v).run P w = .ok () w)
  (hb : binOp .neq tx u v = (do pure (.bool (!(← Op.equal tx u v))))) (hr : (Op.equalIn (9999 + 1) tx u v).run P w = .ok b w) : (execOp a.eval o).run P w = .ok (.value (.bool (!b))) w := by
 have hr' : (Op.equal tx u v).run P w = .ok b w := hr;simp only [execOp, ho, hx, hy, Sem.run_bind, hg, Result.andThen_ok, hb, hr', Sem.run_pure]
theorem aWd {tx ty : TypeId} {i : TI} {x y : Operand} {a b : Bool} (hT : Tok P T) (ho : o.op = .binOp .eql tx x y ty) (hd : o.dst = some d) (hdn : d < n) (hi : T[tx]? = some (some i)) (hk : i.k = .bool) (hx : opv st x = some (B a)) (hy : opv st y = some (B b)) :
  Step P n o st ⟨opr x ++ opr y, []⟩ ⟨some (d, some (B (a == b))), []⟩ := by
 refine Step.value hd hdn fun _ ha _ _ _ ac w hs => ?_
 have h1 := iI (aM hs hx (dR ha).1);have h2 := iI (aM hs hy (dR ha).2);exact ⟨.bool (a == b), aAx ho h1 h2 (fB _ _ _ _ _ _ _ rfl) rfl (s7 ((hT.get hi).bool hk) _ _ _ _), by simp [aV, b8, Rep]⟩
theorem aWc {tx ty : TypeId} {i : TI} {x y : Operand} {a b : Bool} (hT : Tok P T) (ho : o.op = .binOp .neq tx x y ty) (hd : o.dst = some d) (hdn : d < n) (hi : T[tx]? = some (some i)) (hk : i.k = .bool) (hx : opv st x = some (B a)) (hy : opv st y = some (B b)) :
  Step P n o st ⟨opr x ++ opr y, []⟩ ⟨some (d, some (B (!(a == b)))), []⟩ := by
 refine Step.value hd hdn fun _ ha _ _ _ ac w hs => ?_
 have h1 := iI (aM hs hx (dR ha).1);have h2 := iI (aM hs hy (dR ha).2);exact ⟨.bool (!(a == b)), uS ho h1 h2 (fB _ _ _ _ _ _ _ rfl) rfl (s7 ((hT.get hi).bool hk) _ _ _ _), by simp [aV, b8, Rep]⟩
def xX : V → Option Bool
 | .one (.c .np) => some true
 | .one (.c (.pt _)) => some false
 | .one (.vp _ _) => some false
 | _ => none
theorem sH {S : Sto} {μ : Mu} {H : cF} {v : V} {u : Value} {b : Bool} (h : aV S μ H v u) (hb : xX v = some b) : ∃ p, u = .pointer p ∧ p.isNone = b := by
 unfold xX at hb;split at hb
 ·cases hb; simp only [aV, b8, Rep] at h; exact ⟨none, h, rfl⟩
 ·cases hb; simp only [aV, b8, Rep] at h; obtain ⟨b, o, h, _⟩ := h; exact ⟨_, h, rfl⟩
 ·cases hb; simp only [aV, b8] at h; obtain ⟨t, cells, b, c, _, _, h⟩ := h; exact ⟨_, h, rfl⟩
 ·cases hb
theorem aV7 {tx ty e : TypeId} {i : TI} {x y : Operand} {v : V} {b : Bool} (hT : Tok P T) (ho : o.op = .binOp .eql tx x y ty) (hd : o.dst = some d) (hdn : d < n) (hi : T[tx]? = some (some i)) (hk : i.k = .pt e) (hx : opv st x = some v) (hv : xX v = some b) (hy : opv st y = some (.one (.c .np))) :
  Step P n o st ⟨opr x ++ opr y, []⟩ ⟨some (d, some (B b)), []⟩ := by
 refine Step.value hd hdn fun _ ha _ _ _ ac w hs => ?_
 obtain ⟨p, h1, hp⟩ := sH (aM hs hx (dR ha).1) hv;have h2 := aM hs hy (dR ha).2;simp only [aV, b8, Rep] at h2;subst hp;exact ⟨.bool p.isNone, aAx ho h1 h2 (fB _ _ _ _ _ _ _ rfl) (by cases p <;> rfl) (xG ((hT.get hi).ptr hk) _ _ _), by simp [aV, b8, Rep]⟩
theorem aV6 {tx ty e : TypeId} {i : TI} {x y : Operand} {v : V} {b : Bool} (hT : Tok P T) (ho : o.op = .binOp .neq tx x y ty) (hd : o.dst = some d) (hdn : d < n) (hi : T[tx]? = some (some i)) (hk : i.k = .pt e) (hx : opv st x = some v) (hv : xX v = some b) (hy : opv st y = some (.one (.c .np))) :
  Step P n o st ⟨opr x ++ opr y, []⟩ ⟨some (d, some (B (!b))), []⟩ := by
 refine Step.value hd hdn fun _ ha _ _ _ ac w hs => ?_
 obtain ⟨p, h1, hp⟩ := sH (aM hs hx (dR ha).1) hv;have h2 := aM hs hy (dR ha).2;simp only [aV, b8, Rep] at h2;subst hp;exact ⟨.bool (!p.isNone), uS ho h1 h2 (fB _ _ _ _ _ _ _ rfl) (by cases p <;> rfl) (xG ((hT.get hi).ptr hk) _ _ _), by simp [aV, b8, Rep]⟩
def aM5 : V → Option Bool
 | .one (.c .nl) => some true
 | .one (.c (.sn _ _)) => some false
 | _ => none
theorem aH2 {S : Sto} {μ : Mu} {H : cF} {v : V} {u : Value} {b : Bool} (h : aV S μ H v u) (hb : aM5 v = some b) : ∃ p l c, u = .slice p l c ∧ p.isNone = b := by
 unfold aM5 at hb;split at hb
 ·cases hb; simp only [aV, b8, Rep] at h; exact ⟨none, _, _, h, rfl⟩
 ·cases hb; simp only [aV, b8, Rep] at h; obtain ⟨b, o, sp, l, c, h, _⟩ := h; exact ⟨_, _, _, h, rfl⟩
 ·cases hb
theorem aSj {tx ty e : TypeId} {i : TI} {x y : Operand} {v : V} {b : Bool} (hT : Tok P T) (ho : o.op = .binOp .eql tx x y ty) (hd : o.dst = some d) (hdn : d < n) (hi : T[tx]? = some (some i)) (hk : i.k = .sl e) (hx : opv st x = some v) (hv : aM5 v = some b) (hy : opv st y = some (.one (.c .nl))) :
  Step P n o st ⟨opr x ++ opr y, []⟩ ⟨some (d, some (B b)), []⟩ := by
 refine Step.value hd hdn fun _ ha _ _ _ ac w hs => ?_
 obtain ⟨p, l, c, h1, hp⟩ := aH2 (aM hs hx (dR ha).1) hv;have h2 := aM hs hy (dR ha).2;simp only [aV, b8, Rep] at h2;subst hp;exact ⟨.bool p.isNone, aAx ho h1 h2 (fB _ _ _ _ _ _ _ rfl) (by cases p <;> rfl) (aM7 ((hT.get hi).slice hk) _ _ _ _ _), by simp [aV, b8, Rep]⟩
end
theorem take_map {α β : Type} {f : α → β} {l : List α} : (l.map f).take l.length = l.map f := take_of_length_le (by simp)
theorem Ole.arrE {σ : Nat → Nat} {te es fz : Nat} {e e' : List (List C)} (h : e = e') : Ole σ (.arr te es e fz) (.arr te es e' 1) := by subst h; exact .arr1
section
variable {P : Program} {n : Nat} {o : Oper} {st : St} {d : Nat} {T : TT}
def yW (st : St) : List Operand → Option (List R)
 | [] => some []
 | x :: xs => match opv st x with
  | some (.one r) => match yW st xs with | some l => some (r :: l) | none => none
  | _ => none
theorem yV {G : Ctx} {S : Sto} {μ : Mu} {st' : St} {a : Act} {w : World} (hs : Sim G n S μ st' a w) : ∀ (xs : List Operand) (l : List R), yW st xs = some l → (∀ t ∈ cN xs, st'.e t = st.e t) → aU S μ st'.h l (xs.map a.eval)
 | [], l, h, _ => by simp [yW] at h; subst h; simp [aU]
 | x :: xs, l, h, ht => by
  simp only [yW] at h;split at h
  ·rename_i r hr;split at h
   ·rename_i l' hl';cases h;have h1 := aM hs hr fun t h => ht t (by simp [cN, h])
    simp only [aV] at h1;simp only [map_cons, aU];exact ⟨_, _, rfl, h1, yV hs xs l' hl' fun t h => ht t (by simp [cN, h])⟩
   ·cases h
  ·cases h
theorem aFv {f : FuncId} {caps : Array Operand} {l : List R} (ho : o.op = .makeFunc (.func f) #[] caps) (hd : o.dst = some d) (hdn : d < n) (hc : yW st caps.toList = some l) : Step P n o st ⟨cN caps.toList, []⟩ ⟨some (d, some (.one (.clo f l))), []⟩ := by
 refine Step.value hd hdn fun st' ha _ S μ ac w hs => ?_
 have h := yV hs _ _ hc ha.1;refine ⟨.func (.func f) #[] (caps.map ac.eval), by simp [execOp, ho, Instr.makeFunc], ?_⟩;simp only [aV, b8];refine ⟨caps.toList.map ac.eval, ?_, h⟩;congr 1;apply Array.ext';simp
theorem xU {f : FuncId} {x : Operand} {c : R} (ho : o.op = .makeFunc (.func f) #[x] #[]) (hd : o.dst = some d) (hdn : d < n) (hx : opv st x = some (.one c)) : Step P n o st ⟨opr x, []⟩ ⟨some (d, some (.one (.mth f c))), []⟩ := by
 refine Step.value hd hdn fun st' ha _ S μ ac w hs => ?_
 have h := aM hs hx ha.1;refine ⟨.func (.func f) #[ac.eval x] #[], by simp [execOp, ho, Instr.makeFunc], ?_⟩;simp only [aV, b8] at h ⊢;exact ⟨_, rfl, h⟩
def eV (k : List UInt8) : List (List C) → Option (List C)
 | [] => none
 | (.str s :: vs) :: r => if s = k then some vs else eV k r
 | _ :: r => eV k r
def oP (k : List UInt8) (vs : List C) : List (List C) → List (List C)
 | [] => [.str k :: vs]
 | (.str s :: us) :: r => if s = k then (.str k :: vs) :: r else (.str s :: us) :: oP k vs r
 | x :: r => x :: oP k vs r
theorem aE6 (a b : List UInt8) : ((ByteArray.mk ⟨a⟩) == (ByteArray.mk ⟨b⟩)) = decide (b = a) := by
 rw [beq_toListBytes, kH, kH, Bool.beq_eq_decide_eq];by_cases h : a = b
 ·subst h; simp
 ·have h' : ¬ b = a := fun e => h e.symm
  simp [h, h']
theorem jO {S : Sto} {agg : Bool} {k : List UInt8} : ∀ (l : List (List C)) (es : List MapEntry) (i : Nat), b7 S agg l es → fP l →
  (∀ vs, eV k l = some vs → ∃ j e, Instr.findNow .string (.string ⟨⟨k⟩⟩) es i = some (some (i + j, e.val)) ∧ es[j]? = some e ∧ (∃ us, c9 S vs us ∧ e.val = (if agg then .agg ⟨us⟩ else us.headD undef) ∧ (agg = false → us.length = 1)) ∧ e.key = .string ⟨⟨k⟩⟩ ∧ j < es.length ∧
   ∀ ws, oP k ws l = (l.take j) ++ (.str k :: ws) :: l.drop (j + 1)) ∧
  (eV k l = none → Instr.findNow .string (.string ⟨⟨k⟩⟩) es i = some none ∧ ∀ ws, oP k ws l = l ++ [.str k :: ws])
 | [], es, i, h, _ => by
  simp only [b7] at h;subst h;exact ⟨fun vs hv => by simp [eV] at hv, fun _ => ⟨rfl, fun ws => rfl⟩⟩
 | r :: l, es, i, h, hm => by
  simp only [b7] at h;obtain ⟨e, es', rfl, ⟨vs, h1, h2, h3⟩, h4⟩ := h
  match r, h1, hm with
  | .str s :: us, h1, hm =>
   simp only [fP] at hm;simp only [c9] at h1;obtain ⟨v, vs', hv, h5, h6⟩ := h1;simp only [Rep] at h5;injection hv with hv1 hv2;subst hv2;have hkey : e.key = .string ⟨⟨s⟩⟩ := by rw [hv1, h5]
   have ih := jO (k := k) l es' (i + 1) h4 hm;by_cases hs : s = k
   ·subst hs;refine ⟨fun ws hw => ?_, fun hn => by simp [eV] at hn⟩;simp only [eV, if_true, Option.some.injEq] at hw;subst hw;refine ⟨0, e, ?_, rfl, ⟨vs, h6, h2, h3⟩, hkey, by simp, fun ws => by simp [oP]⟩;simp only [Instr.findNow, hkey, Instr.sameNow];rw [aE6];simp
   ·have hfn : Instr.findNow .string (.string ⟨⟨k⟩⟩) (e :: es') i = Instr.findNow .string (.string ⟨⟨k⟩⟩) es' (i + 1) := by
     simp only [Instr.findNow, hkey, Instr.sameNow];rw [aE6];simp [hs]
    refine ⟨fun ws hw => ?_, fun hn => ?_⟩
    ·simp only [eV, hs, if_false] at hw;obtain ⟨j, e', q1, q2, q3, q4, q5, q6⟩ := ih.1 ws hw;refine ⟨j + 1, e', ?_, by simpa using q2, q3, q4, by simpa using q5, fun ws => ?_⟩
     ·rw [hfn, q1, show i + 1 + j = i + (j + 1) by omega]
     ·simp only [oP, hs, if_false, q6 ws];simp
    ·simp only [eV, hs, if_false] at hn;obtain ⟨q1, q2⟩ := ih.2 hn;exact ⟨by rw [hfn, q1], fun ws => by simp only [oP, hs, if_false, q2 ws]; simp⟩
  | [], h1, _ => simp only [c9] at h1; cases h1
  | .int _ _ :: _, _, hm => simp [fP] at hm
  | .bool _ :: _, _, hm => simp [fP] at hm
  | .nl :: _, _, hm => simp [fP] at hm
  | .sl _ _ :: _, _, hm => simp [fP] at hm
  | .sn _ _ :: _, _, hm => simp [fP] at hm
  | .np :: _, _, hm => simp [fP] at hm
  | .pt _ :: _, _, hm => simp [fP] at hm
  | .mp _ _ :: _, _, hm => simp [fP] at hm
  | .zv _ :: _, _, hm => simp [fP] at hm
theorem kV {t : TypeId} (hu : P.underlying t = some .string) (b : Bool) (d : Nat) (s : ByteArray) (w : World) : (Instr.checkKey b (d + 1) t (.string s)).run P w = .ok () w := by
 simp only [Instr.checkKey, Sem.run_bind, run_underlying hu w, Result.andThen_ok, Sem.run_pure]
inductive MapE (st : St) : List Nat → V → Bool → List (List C) → Prop
 | mr {id agg ents} : st.h id = some (.map agg ents) → MapE st [id] (.one (.mr id)) agg ents
 | mp {agg ents} : MapE st [] (.one (.c (.mp agg ents))) agg ents
 | nil {agg} : MapE st [] (.one (.c (.zv 0))) agg []
theorem MapE.rel {G : Ctx} {S : Sto} {μ : Mu} {st' : St} {a : Act} {w : World} {ids : List Nat} {v : V} {agg : Bool} {ents : List (List C)} {u : Value} (hs : Sim G n S μ st' a w) (h : MapE st ids v agg ents) (hms : fP ents) (hi : ∀ i ∈ ids, st'.h i = st.h i) (hv : aV S μ st'.h v u) :
  ∃ es : Array MapEntry, b7 S agg ents es.toList ∧ ((u = .map none ∧ es = #[]) ∨ ∃ b clk, u = .map (some b) ∧ w.heap[b]? = some (.map es clk)) := by
 cases h with
 | mr hh =>
  have hh' := (hi _ (by simp)).trans hh;simp only [aV, b8] at hv;obtain ⟨agg', ents', b, c, h1, h2, h3⟩ := hv;rw [hh'] at h1; cases h1;obtain ⟨b', es, clk, g1, g2, g3, g4⟩ := hs.inv.obj _ _ hh';rw [h2] at g1; cases g1;exact ⟨es, g3.rep hms, .inr ⟨_, clk, h3, g2⟩⟩
 | mp =>
  simp only [aV, b8, Rep] at hv;obtain ⟨b, es, clk, h1, h2, h3⟩ := hv;refine ⟨es, h3.elim id fun h3 => ?_, .inr ⟨b, clk, h1, hs.inv.holds.2 _ _ h2⟩⟩;cases ents with
  | nil => simp only [aGz] at h3
  | cons r l => simp only [aGz] at h3; rw [h3.1] at hms; simp [fP] at hms
 | nil =>
  simp only [aV, b8, Rep, aRz] at hv;exact ⟨#[], by simp [b7], .inl ⟨hv, rfl⟩⟩
def n7 (i : TI) (r : Option (List C)) : V := match r with
 | some vs => if i.k.agg then .pa vs else match vs with | [c] => .one (.c c) | _ => .tup []
 | none => if i.k.agg then .pa i.zero else match i.zero with | [c] => .one (.c c) | _ => .tup []
def vV (r : Option (List C)) : Bool := r.isSome
def aKi (r : Option (Nat × Value)) (z : Value) : Value := match r with | some p => p.2 | none => z
theorem iV (w : World) (b : Nat) (es : Array MapEntry) (clk : Nat) (h : w.heap[b]? = some (.map es clk)) : (getObj b).run P w = .ok (.map es clk) w := by
 exact MapKept.run_getObj_map h
theorem xV {t kt et : TypeId} {i ki ei : TI} {x y : Operand} {ok : Bool} {ids : List Nat} {agg : Bool} {k : List UInt8} {r : Option (List C)} (hT : Tok P T) (ho : o.op = .lookup t x y ok) (hd : o.dst = some d) (hdn : d < n) (hi : T[t]? = some (some i)) (hk : i.k = .mp kt et)
  (hki : T[kt]? = some (some ki)) (hkk : ki.k = .str) (hei : T[et]? = some (some ei)) (hag : ei.k.agg = agg) (hy : opv st y = some (Go.AM.T k))
  (hrel : ∀ (st' : St), oI ⟨opr x ++ opr y, ids⟩ st st' → ∀ (G : Ctx) (S : Sto) (μ : Mu) (a : Act) (w : World), Sim G n S μ st' a w → ∃ (es : Array MapEntry) (ents : List (List C)), fP ents ∧ eV k ents = r ∧ b7 S agg ents es.toList ∧ ((a.eval x = .map none ∧ es = #[]) ∨ ∃ b clk, a.eval x = .map (some b) ∧ w.heap[b]? = some (.map es clk))) :
  Step P n o st ⟨opr x ++ opr y, ids⟩ ⟨some (d, some (if ok then .tup [n7 ei r, B (vV r)] else n7 ei r)), []⟩ := by
 refine Step.value hd hdn fun st' ha G S μ a w hs => ?_
 obtain ⟨es, ents, hms, hr, h1, h2⟩ := hrel st' ha G S μ a w hs;have h3 := jK (aM hs hy fun t h => ha.1 t (by simp [h]));have hu := run_underlying ((hT.get hi).map hk) w;have hks := (hT.get hki).str hkk;obtain ⟨z, hz, hzr, hz1, hz2⟩ := (hT.get hei).zero_run;have hfind := jO (k := k) ents es.toList 0 h1 hms;have key : ∃ r0 : Option (Nat × Value), (Instr.findKey kt (.string ⟨⟨k⟩⟩) es.toList).run P w = .ok r0 w ∧ aV S μ st'.h (n7 ei r) (aKi r0 z) ∧ vV r = r0.isSome := by
  cases hq : eV k ents with
  | some vs =>
   obtain ⟨j, e, q1, q2, ⟨us, q3, q4, q5⟩, q6, q7, q8⟩ := hfind.1 vs hq;refine ⟨some (0 + j, e.val), ?_, ?_, by rw [← hr, hq]; rfl⟩
   ·simp only [Instr.findKey, Sem.run_bind, run_underlying hks w, Result.andThen_ok, q1, Sem.run_pure]
   ·rw [← hr, hq];simp only [n7, hag];cases agg with
    | true =>
     simp only [if_true, aV] at q4 ⊢;exact ⟨us, q4, q3⟩
    | false =>
     simp only [Bool.false_eq_true, if_false] at q4 ⊢;have hl := q5 rfl;have hl2 := q3.length
     match vs, us, q3, hl, hl2 with
     | [c], [u], q3, _, _ =>
      simp only [c9] at q3;obtain ⟨v, vs', hv, hc, _⟩ := q3;cases hv;rw [q4];simp only [aV, b8];exact hc
  | none =>
   obtain ⟨q1, _⟩ := hfind.2 hq;refine ⟨none, ?_, ?_, by rw [← hr, hq]; rfl⟩
   ·simp only [Instr.findKey, Sem.run_bind, run_underlying hks w, Result.andThen_ok, q1, Sem.run_pure]
   ·rw [← hr, hq];simp only [n7, hag];have hzr' := hzr S;cases agg with
    | true =>
     rw [hag, if_pos rfl] at hz1;simp only [if_true, aV];exact ⟨z.cells.toList, hz1, hzr'⟩
    | false =>
     obtain ⟨u, hu1, hu2⟩ := hz2 hag;simp only [Bool.false_eq_true, if_false];have hl := (hT.get hei).len;rw [(hT.get hei).one hag] at hl
     match hzz : ei.zero, hl with
     | [c], _ =>
      rw [hzz, hu1] at hzr';simp only [c9] at hzr';obtain ⟨v, vs', hv, hc, _⟩ := hzr';cases hv;rw [hu2];simp only [aV, b8];exact hc
 obtain ⟨r0, hf, hv, hb⟩ := key;have hck := fun b => kV (P := P) hks b 9999 ⟨⟨k⟩⟩ w
 have fin : aV S μ st'.h (if ok then .tup [n7 ei r, B (vV r)] else n7 ei r) (if ok then .tuple #[(aKi r0 z), .bool r0.isSome] else (aKi r0 z)) := by
  cases ok with
  | false => exact hv
  | true =>
   simp only [if_true, aV, bT];exact ⟨[_, .bool r0.isSome], rfl, _, [.bool r0.isSome], rfl, hv, .bool r0.isSome, [], rfl, by rw [hb]; simp [b8, Rep], rfl⟩
 refine ⟨_, ?_, fin⟩;rcases h2 with ⟨h2, rfl⟩ | ⟨b, clk, h2, h4⟩
 ·simp only [execOp, ho, h2, h3, Sem.run_bind, Instr.lookup, hu, Result.andThen_ok, Sem.run_pure];rw [show (10000 : Nat) = 9999 + 1 from rfl, hck];simp only [Result.andThen_ok, hf];cases r0 with
  | none => simp only [Sem.run_bind, hz w, Result.andThen_ok, Sem.run_pure]; rfl
  | some p => rfl
 ·simp only [execOp, ho, h2, h3, Sem.run_bind, Instr.lookup, hu, Result.andThen_ok, Sem.run_pure, iV w b es clk h4];rw [show (10000 : Nat) = 9999 + 1 from rfl, hck];simp only [Result.andThen_ok, hf];cases r0 with
  | none => simp only [Sem.run_bind, hz w, Result.andThen_ok, Sem.run_pure]; rfl
  | some p => rfl
theorem uY {t kt et : TypeId} {i ki ei : TI} {x y : Operand} {ok : Bool} {v : V} {ids : List Nat} {agg : Bool} {ents : List (List C)} {k : List UInt8} {r : Option (List C)} (hT : Tok P T) (ho : o.op = .lookup t x y ok) (hd : o.dst = some d) (hdn : d < n) (hi : T[t]? = some (some i)) (hk : i.k = .mp kt et)
  (hki : T[kt]? = some (some ki)) (hkk : ki.k = .str) (hei : T[et]? = some (some ei)) (hag : ei.k.agg = agg) (hx : opv st x = some v) (hm : MapE st ids v agg ents) (hms : fP ents) (hy : opv st y = some (Go.AM.T k)) (hr : eV k ents = r) :
  Step P n o st ⟨opr x ++ opr y, ids⟩ ⟨some (d, some (if ok then .tup [n7 ei r, B (vV r)] else n7 ei r)), []⟩ :=
 xV hT ho hd hdn hi hk hki hkk hei hag hy fun _ ha _ _ _ _ _ hs => by
  obtain ⟨es, h1, h2⟩ := hm.rel hs hms ha.2 (aM hs hx fun t h => ha.1 t (by simp [h]));exact ⟨es, ents, hms, hr, h1, h2⟩
theorem dG {S : Sto} {agg : Bool} : ∀ {a : List (List C)} {x : List MapEntry} {b : List (List C)} {y : List MapEntry}, b7 S agg a x → b7 S agg b y → b7 S agg (a ++ b) (x ++ y)
 | [], _, _, _, h, k => by simp only [b7] at h; subst h; simpa using k
 | _ :: _, _, _, _, h, k => by
  simp only [b7, cons_append] at h ⊢;obtain ⟨v, vs', rfl, h1, h2⟩ := h;exact ⟨v, vs' ++ _, rfl, h1, dG h2 k⟩
theorem kD {S : Sto} {agg : Bool} : ∀ {a : List (List C)} {x : List MapEntry} (n : Nat), b7 S agg a x → b7 S agg (a.take n) (x.take n)
 | _, _, 0, _ => by simp [b7]
 | [], _, n + 1, h => by simp only [b7] at h; subst h; simp [b7]
 | _ :: _, _, n + 1, h => by
  simp only [b7, take_succ_cons] at h ⊢;obtain ⟨v, vs', rfl, h1, h2⟩ := h;exact ⟨v, vs'.take n, by simp, h1, kD n h2⟩
theorem kE {S : Sto} {agg : Bool} : ∀ {a : List (List C)} {x : List MapEntry} (n : Nat), b7 S agg a x → b7 S agg (a.drop n) (x.drop n)
 | _, _, 0, h => by simpa using h
 | [], _, n + 1, h => by simp only [b7] at h; subst h; simp [b7]
 | _ :: _, _, n + 1, h => by
  simp only [b7, drop_succ_cons] at h ⊢;obtain ⟨v, vs', rfl, h1, h2⟩ := h;simpa using kE n h2
theorem aA1 {t kt et : TypeId} {i ki : TI} {x y z : Operand} {id : Nat} {agg : Bool} {ents : List (List C)} {k : List UInt8} {v : V} {rs : List R} {cs : List C} {ids : List Nat} (hT : Tok P T) (ho : o.op = .mapUpdate t x y z) (hd : o.dst = none) (hi : T[t]? = some (some i)) (hk : i.k = .mp kt et)
  (hki : T[kt]? = some (some ki)) (hkk : ki.k = .str) (hx : opv st x = some (.one (.mr id))) (hh : st.h id = some (.map agg ents)) (hms : fP ents) (hy : opv st y = some (Go.AM.T k))
  (hz : opv st z = some v) (hva : (match v with | .one _ => !agg | .pa _ => agg | .ma _ => agg | _ => false) = true) (hc : fT v = some rs) (hp : PureL st.h ids rs cs) :
  Step P n o st ⟨opr x ++ opr y ++ opr z, id :: ids⟩ ⟨none, [(id, some (.map agg (oP k cs ents)))]⟩ := by
 refine Step.turn hd hh (by simp) (by simp [AObj.succ]) fun st' ha hh' G S μ a w hs => ?_
 have h1 := aM hs hx fun t h => ha.1 t (by simp [h])
 have h3 := jK (aM hs hy fun t h => ha.1 t (by simp [h]));have hv := aM hs hz fun t h => ha.1 t (by simp [h])
 simp only [aV, b8] at h1;obtain ⟨agg', ents', b, c, q1, q2, q3⟩ := h1;obtain ⟨b', es, clk, g1, g2, g3, g4⟩ := hs.inv.obj id _ hh';rw [g1] at q2; cases q2;have g3 := g3.rep hms;have hrep := hp.rel (fun i h => ha.2 i (by simp [h])) hs.inv.obj (dN hv hc);have hval : a.eval z = (if agg then .agg ⟨(a.eval z).cells.toList⟩ else (a.eval z).cells.toList.headD undef) ∧ (agg = false → (a.eval z).cells.toList.length = 1) := by
  cases v with
  | one r =>
   simp at hva;subst hva;simp only [aV] at hv;rw [hv.one.1];simp
  | pa l =>
   simp at hva;subst hva;simp only [aV] at hv;obtain ⟨vs, hv, _⟩ := hv;rw [hv];simp [Value.cells]
  | ma l =>
   simp at hva;subst hva;simp only [aV] at hv;obtain ⟨vs, hv, _⟩ := hv;rw [hv];simp [Value.cells]
  | tup l => simp at hva
 have hks := (hT.get hki).str hkk;have hu := run_underlying ((hT.get hi).map hk) w;have hfind := jO (k := k) ents es.toList 0 g3 hms;have hck := fun b => kV (P := P) hks b 9999 ⟨⟨k⟩⟩ w
 have hone : ∀ e : MapEntry, e.key = .string ⟨⟨k⟩⟩ → e.val = a.eval z → b7 S agg [.str k :: cs] [e] := by
  intro e he1 he2;simp only [b7];refine ⟨e, [], rfl, ⟨(a.eval z).cells.toList, ?_, by rw [he2]; exact hval.1, hval.2⟩, rfl⟩;simp only [c9];exact ⟨e.key, _, rfl, by simp [Rep, he1], hrep⟩
 have hset : ∀ (ob : Obj), (setObj b ob).run P w = .ok () { w with heap := w.heap.setIfInBounds b ob } := by
  intro ob;exact MapKept.run_setObj_map _ g2
 have hW : ∀ ob, WChg w { w with heap := w.heap.setIfInBounds b ob } b ob := fun ob => by
  have hlt := dC g2;refine ⟨rfl, rfl, rfl, by simp, by simp [hlt], fun k _ hne => ?_⟩;show (w.heap.setIfInBounds b ob)[k]? = _;rw [Array.getElem?_setIfInBounds, if_neg (fun e => hne e.symm)]
 have hSc : ∀ (ob : Obj) (o : Nat) (v : Value), S.cell b o = some v → ∃ vs t fr, ob = .cells vs t fr ∧ vs[o]? = some v := fun ob o v e => by
  obtain ⟨vs, t, fr, p1, _⟩ := hs.inv.holds.1 b o v e;rw [g2] at p1; cases p1
 have g4 := g4.kn0 hms;have hSm : ∀ m, S.mapo b = some m → w.heap.size ≤ b := fun m e => by rw [g4] at e; cases e
 cases hq : eV k ents with
 | some vs =>
  obtain ⟨j, e, p1, p2, _, p4, p5, p6⟩ := hfind.1 vs hq;refine ⟨_, .map (es.modify j fun e => { e with key := .string ⟨⟨k⟩⟩, val := a.eval z }) clk, b, (0, 0), ?_, g1, hW _, ⟨b, _, clk, aI _ _ _, (hW _).new, .inr (.inl ?_), .inl g4⟩, hSc _, hSm⟩
  ·have hkey : ((es[j]?).map (·.key)).getD (.string ⟨⟨k⟩⟩) = .string ⟨⟨k⟩⟩ := by
    rw [← Array.getElem?_toList, p2];simpa using p4
   have hkt : (Instr.keyThatStays (.string ⟨⟨k⟩⟩) (.string ⟨⟨k⟩⟩)).run P w = .ok (.string ⟨⟨k⟩⟩) w := by
    have hsb : Instr.sameBits 10000 (.string ⟨⟨k⟩⟩) (.string ⟨⟨k⟩⟩) = true := by simp [Instr.sameBits, aE6]
    simp only [Instr.keyThatStays, hsb, if_true, Sem.run_pure]
   simp only [execOp, ho, q3, h3, Sem.run_bind, Instr.mapUpdate, hu, Result.andThen_ok, iV w b es clk g2];rw [show (10000 : Nat) = 9999 + 1 from rfl, hck];simp only [Result.andThen_ok, Instr.findKey, Sem.run_bind, run_underlying hks w, p1, Sem.run_pure, zero_add, hkey, hkt, hset]
  ·rw [p6 cs, Array.toList_modify];have hmod : es.toList.modify j (fun e => { e with key := .string ⟨⟨k⟩⟩, val := a.eval z }) = es.toList.take j ++ { e with key := .string ⟨⟨k⟩⟩, val := a.eval z } :: es.toList.drop (j + 1) := by
    apply List.ext_getElem?;intro i;rw [List.getElem?_modify];have p5' : j < es.size := by simpa using p5
    by_cases c1 : i < j
    ·rw [List.getElem?_append_left (by simp; omega), List.getElem?_take, if_pos c1];simp [show ¬ j = i by omega]
    ·rw [List.getElem?_append_right (by simp; omega)];simp only [length_take];by_cases c2 : j = i
     ·subst c2;rw [p2];have hm : min j es.toList.length = j := by simp; omega
      rw [hm];simp
     ·rw [min_eq_left (le_of_lt p5), show i - j = (i - j - 1) + 1 by omega, List.getElem?_cons_succ, List.getElem?_drop];simp [c2, show j + 1 + (i - j - 1) = i by omega]
   rw [hmod];have := dG (kD j g3) (dG (hone { e with key := .string ⟨⟨k⟩⟩, val := a.eval z } rfl rfl) (kE (j + 1) g3));exact this
 | none =>
  obtain ⟨p1, p2⟩ := hfind.2 hq;refine ⟨_, .map (es.push { key := .string ⟨⟨k⟩⟩, val := a.eval z, born := clk }) (clk + 1), b, (0, 0), ?_, g1, hW _, ⟨b, _, clk + 1, aI _ _ _, (hW _).new, .inr (.inl ?_), .inl g4⟩, hSc _, hSm⟩
  ·simp only [execOp, ho, q3, h3, Sem.run_bind, Instr.mapUpdate, hu, Result.andThen_ok, iV w b es clk g2];rw [show (10000 : Nat) = 9999 + 1 from rfl, hck];simp only [Result.andThen_ok, Instr.findKey, Sem.run_bind, run_underlying hks w, p1, Sem.run_pure, hset]
  ·rw [p2 cs, Array.toList_push];exact dG g3 (hone _ rfl rfl)
theorem aH6 {P : Program} {T : TT} {o : Oper} {t kt et : TypeId} {i ki : TI} {x y z : Operand} {agg : Bool} {ents : List (List C)} {k : List UInt8} {cs : List C} {S : Sto} {a : Act} {w : World} {b : Nat} {es : Array MapEntry} {clk : Nat} (hT : Tok P T) (ho : o.op = .insert t x y z) (hi : T[t]? = some (some i)) (hk : i.k = .mp kt et)
  (hki : T[kt]? = some (some ki)) (hkk : ki.k = .str) (q3 : a.eval x = .map (some b)) (h3 : a.eval y = .string ⟨⟨k⟩⟩) (g2 : w.heap[b]? = some (.map es clk)) (g3 : b7 S agg ents es.toList) (hms : fP ents)
  (hrep : c9 S cs (a.eval z).cells.toList) (hval : a.eval z = (if agg then .agg ⟨(a.eval z).cells.toList⟩ else (a.eval z).cells.toList.headD undef) ∧ (agg = false → (a.eval z).cells.toList.length = 1)) :
  ∃ es' clk', (execOp a.eval o).run P w = .ok .skip { w with heap := w.heap.setIfInBounds b (.map es' clk') } ∧ b7 S agg (oP k cs ents) es'.toList := by
 have hks := (hT.get hki).str hkk;have hu := run_underlying ((hT.get hi).map hk) w;have hfind := jO (k := k) ents es.toList 0 g3 hms;have hck := fun b => kV (P := P) hks b 9999 ⟨⟨k⟩⟩ w
 have hone : ∀ e : MapEntry, e.key = .string ⟨⟨k⟩⟩ → e.val = a.eval z → b7 S agg [.str k :: cs] [e] := by
  intro e he1 he2;simp only [b7];refine ⟨e, [], rfl, ⟨(a.eval z).cells.toList, ?_, by rw [he2]; exact hval.1, hval.2⟩, rfl⟩;simp only [c9];exact ⟨e.key, _, rfl, by simp [Rep, he1], hrep⟩
 have hset : ∀ (ob : Obj), (setObj b ob).run P w = .ok () { w with heap := w.heap.setIfInBounds b ob } := by
  intro ob;exact MapKept.run_setObj_map _ g2
 cases hq : eV k ents with
 | some vs =>
  obtain ⟨j, e, p1, p2, _, p4, p5, p6⟩ := hfind.1 vs hq;refine ⟨es.modify j fun e => { e with key := .string ⟨⟨k⟩⟩, val := a.eval z }, clk, ?_, ?_⟩
  ·have hkey : ((es[j]?).map (·.key)).getD (.string ⟨⟨k⟩⟩) = .string ⟨⟨k⟩⟩ := by
    rw [← Array.getElem?_toList, p2];simpa using p4
   have hkt : (Instr.keyThatStays (.string ⟨⟨k⟩⟩) (.string ⟨⟨k⟩⟩)).run P w = .ok (.string ⟨⟨k⟩⟩) w := by
    have hsb : Instr.sameBits 10000 (.string ⟨⟨k⟩⟩) (.string ⟨⟨k⟩⟩) = true := by simp [Instr.sameBits, aE6]
    simp only [Instr.keyThatStays, hsb, if_true, Sem.run_pure]
   simp only [execOp, ho, q3, h3, Sem.run_bind, Instr.mapUpdate, hu, Result.andThen_ok, iV w b es clk g2];rw [show (10000 : Nat) = 9999 + 1 from rfl, hck];simp only [Result.andThen_ok, Instr.findKey, Sem.run_bind, run_underlying hks w, p1, Sem.run_pure, zero_add, hkey, hkt, hset]
  ·rw [p6 cs, Array.toList_modify];have hmod : es.toList.modify j (fun e => { e with key := .string ⟨⟨k⟩⟩, val := a.eval z }) = es.toList.take j ++ { e with key := .string ⟨⟨k⟩⟩, val := a.eval z } :: es.toList.drop (j + 1) := by
    apply List.ext_getElem?;intro i;rw [List.getElem?_modify];have p5' : j < es.size := by simpa using p5
    by_cases c1 : i < j
    ·rw [List.getElem?_append_left (by simp; omega), List.getElem?_take, if_pos c1];simp [show ¬ j = i by omega]
    ·rw [List.getElem?_append_right (by simp; omega)];simp only [length_take];by_cases c2 : j = i
     ·subst c2;rw [p2];have hm : min j es.toList.length = j := by simp; omega
      rw [hm];simp
     ·rw [min_eq_left (le_of_lt p5), show i - j = (i - j - 1) + 1 by omega, List.getElem?_cons_succ, List.getElem?_drop];simp [c2, show j + 1 + (i - j - 1) = i by omega]
   rw [hmod];have := dG (kD j g3) (dG (hone { e with key := .string ⟨⟨k⟩⟩, val := a.eval z } rfl rfl) (kE (j + 1) g3));exact this
 | none =>
  obtain ⟨p1, p2⟩ := hfind.2 hq;refine ⟨es.push { key := .string ⟨⟨k⟩⟩, val := a.eval z, born := clk }, clk + 1, ?_, ?_⟩
  ·simp only [execOp, ho, q3, h3, Sem.run_bind, Instr.mapUpdate, hu, Result.andThen_ok, iV w b es clk g2];rw [show (10000 : Nat) = 9999 + 1 from rfl, hck];simp only [Result.andThen_ok, Instr.findKey, Sem.run_bind, run_underlying hks w, p1, Sem.run_pure, hset]
  ·rw [p2 cs, Array.toList_push];exact dG g3 (hone _ rfl rfl)
theorem aDu {t kt et : TypeId} {i ki : TI} {x y z : Operand} {id : Nat} {agg : Bool} {ents : List (List C)} {k : List UInt8} {v : V} {rs : List R} {cs : List C} {ids : List Nat} (hT : Tok P T) (ho : o.op = .insert t x y z) (hd : o.dst = none) (hi : T[t]? = some (some i)) (hk : i.k = .mp kt et)
  (hki : T[kt]? = some (some ki)) (hkk : ki.k = .str) (hx : opv st x = some (.one (.mr id))) (hh : st.h id = some (.map agg ents)) (hms : fP ents) (hy : opv st y = some (Go.AM.T k))
  (hz : opv st z = some v) (hva : (match v with | .one _ => !agg | .pa _ => agg | .ma _ => agg | _ => false) = true) (hc : fT v = some rs) (hp : PureL st.h ids rs cs) :
  Step P n o st ⟨opr x ++ opr y ++ opr z, id :: ids⟩ ⟨none, [(id, some (.map agg (oP k cs ents)))]⟩ := by
 refine Step.turn hd hh (by simp) (by simp [AObj.succ]) fun st' ha hh' G S μ a w hs => ?_
 have h1 := aM hs hx fun t h => ha.1 t (by simp [h])
 have h3 := jK (aM hs hy fun t h => ha.1 t (by simp [h]));have hv := aM hs hz fun t h => ha.1 t (by simp [h])
 simp only [aV, b8] at h1;obtain ⟨agg', ents', b, c, q1, q2, q3⟩ := h1;obtain ⟨b', es, clk, g1, g2, g3, g4⟩ := hs.inv.obj id _ hh';rw [g1] at q2; cases q2;have g3 := g3.rep hms;have hrep := hp.rel (fun i h => ha.2 i (by simp [h])) hs.inv.obj (dN hv hc);have hval : a.eval z = (if agg then .agg ⟨(a.eval z).cells.toList⟩ else (a.eval z).cells.toList.headD undef) ∧ (agg = false → (a.eval z).cells.toList.length = 1) := by
  cases v with
  | one r =>
   simp at hva;subst hva;simp only [aV] at hv;rw [hv.one.1];simp
  | pa l =>
   simp at hva;subst hva;simp only [aV] at hv;obtain ⟨vs, hv, _⟩ := hv;rw [hv];simp [Value.cells]
  | ma l =>
   simp at hva;subst hva;simp only [aV] at hv;obtain ⟨vs, hv, _⟩ := hv;rw [hv];simp [Value.cells]
  | tup l => simp at hva
 obtain ⟨es', clk', hrun, hnew⟩ := aH6 (P := P) hT ho hi hk hki hkk q3 h3 g2 g3 hms hrep hval;have hW : ∀ ob, WChg w { w with heap := w.heap.setIfInBounds b ob } b ob := fun ob => by
  have hlt := dC g2;refine ⟨rfl, rfl, rfl, by simp, by simp [hlt], fun k _ hne => ?_⟩;show (w.heap.setIfInBounds b ob)[k]? = _;rw [Array.getElem?_setIfInBounds, if_neg (fun e => hne e.symm)]
 have hSc : ∀ (ob : Obj) (o : Nat) (v : Value), S.cell b o = some v → ∃ vs t fr, ob = .cells vs t fr ∧ vs[o]? = some v := fun ob o v e => by
  obtain ⟨vs, t, fr, p1, _⟩ := hs.inv.holds.1 b o v e;rw [g2] at p1; cases p1
 have g4 := g4.kn0 hms;have hSm : ∀ m, S.mapo b = some m → w.heap.size ≤ b := fun m e => by rw [g4] at e; cases e
 exact ⟨_, .map es' clk', b, (0, 0), hrun, g1, hW _, ⟨b, _, clk', aI _ _ _, (hW _).new, .inr (.inl hnew), .inl g4⟩, hSc _, hSm⟩
end
section
variable {P : Program} {n : Nat} {o : Oper} {st : St} {d : Nat} {T : TT}
theorem k7 {α : Type} (f : Nat → Option α) (k : Nat) (x y : Option α) : upd (upd f k x) k y = upd f k y := by
 funext i;simp only [upd];split <;> rfl
theorem aIu {t e : TypeId} {i ei : TI} {x y : Operand} {rows : List (List C)} {vy : V} {ids : List Nat} (id : Nat) (hT : Tok P T) (ho : o.op = .call { callee := .builtin .append, args := #[x, y], argTypes := #[t, t] }) (hd : o.dst = some d) (hdn : d < n)
  (hi : T[t]? = some (some i)) (hk : i.k = .sl e) (hei : T[e]? = some (some ei)) (hes : Nat.ble 1 ei.size = true) (heb : Nat.ble 1 ei.bytes = true)
  (hx : opv st x = some (.one (.c .nl))) (hid : st.h id = none) (hy : opv st y = some vy) (hsrc : Src st ei.size ids vy rows)
  (hroom : rows.length * ei.bytes ≤ 140737488355328) :
  Step P n o st ⟨opr x ++ opr y, id :: ids⟩ ⟨some (d, some (.one (.hs id 0 rows.length rows.length))), [(id, some (.arr e ei.size rows 0))]⟩ := by
 intro st' ha G S μ a w K Q hs hk';have hid' : st'.h id = none := by rw [ha.2 id (by simp), hid]
 obtain ⟨hi', hE⟩ := hs.inv.empty e ei.size hid';have hs2 : Sim G n S (upd μ id none) ⟨st'.e, upd st'.h id (some (.arr e ei.size [] 0)), st'.d⟩ a w := ⟨hi', hs.size, hs.defers.evolve hE, fun t v e => aV.evolve hE v _ (hs.env t v e)⟩
 have hvx := aM hs hx fun t ht => ha.1 t (by simp [ht])
 have hvy := aM hs hy fun t ht => ha.1 t (by simp [ht])
 simp only [aV, b8, Rep] at hvx;have hvx' : aV S (upd μ id none) (upd st'.h id (some (.arr e ei.size [] 0))) (.one (.hs id 0 0 0)) (a.eval x) := by
  simp only [aV, b8];exact ⟨⟨_, _, _, hvx⟩, .inr ⟨e, ei.size, [], 0, aI _ _ _, le_refl _, fun _ => ⟨le_refl _, .inl ⟨aI _ _ _, rfl, hvx⟩⟩⟩⟩
 have hne : ∀ j ∈ ids, j ≠ id := by
  intro j hj e;subst e;cases hsrc with
  | hs h1 _ _ => simp at hj; subst hj; rw [hid] at h1; cases h1
  | all h1 _ => simp at hj; subst hj; rw [hid] at h1; cases h1
  | sl => simp at hj
  | nl => simp at hj
  | sn => simp at hj
 have := zU (fz := 0) (elems := []) (id := id) hT ho hi hk hei hes heb rfl (by simpa using hroom) (aI _ _ _) hs2 hvx' (aV.evolve hE _ _ hvy) hsrc fun j hj => by
  show upd st'.h id (some (.arr e ei.size [] 0)) j = _;rw [aS _ _ _ (hne j hj)];exact ha.2 j (by simp [hj])
 refine aJ3 hd hdn (by simp) _ (aI _ _ _) hs2 (fun S' μ' a' w' h => hk' S' μ' a' w' ?_) this;have e1 : Eff.apply ⟨some (d, some (.one (.hs id 0 (([] : List (List C)).length + rows.length) (([] : List (List C)).length + rows.length)))), [(id, some (.arr e ei.size ([] ++ rows) (if 0 = 0 then 0 else 1)))]⟩ ⟨st'.e, upd st'.h id (some (.arr e ei.size [] 0)), st'.d⟩
   = Eff.apply ⟨some (d, some (.one (.hs id 0 rows.length rows.length))), [(id, some (.arr e ei.size rows 0))]⟩ st' := by
  unfold Eff.apply;rw [bQ, bQ, k7];simp
 rw [e1] at h;exact h
theorem Sub.conv {kf ids : List Nat} {t : Nat} {v v' : V} (h : st.e t = some v) (hc : Conv st.h ids v v') : Sub kf ⟨upd st.e t (some v'), st.h, st.d⟩ st := by
 intro G n S μ a w _ hs;refine ⟨S, μ, ⟨hs.inv, hs.size, hs.defers, fun s u e => ?_⟩⟩;by_cases hst : s = t
 ·subst hst;have : some v' = some u := by rw [← e]; exact (aI _ _ _).symm
  cases this;exact hc.rel (fun _ _ => rfl) hs.inv.obj (hs.env s _ h)
 ·exact hs.env s u (by rw [← e]; exact (aS _ _ _ hst).symm)
theorem aNd {t e : TypeId} {i ei : TI} {len : Nat} {parts : Array (Nat × Operand)} {ids : List Nat} {rows : List (List C)} (id : Nat) (hT : Tok P T) (ho : o.op = .buildSlice t len parts) (hd : o.dst = some d) (hdn : d < n) (hi : T[t]? = some (some i)) (hk : i.k = .sl e) (hei : T[e]? = some (some ei)) (hrows : RowsV st ei.size 0 ids parts.toList rows) (hlen : Nat.beq len parts.size = true) (hsmall : Nat.ble (len * ei.size) 16777216 = true) (hsm1 : Nat.ble len 16777216 = true) (hid : st.h id = none) :
  Step P n o st ⟨fS parts.toList, id :: ids⟩ ⟨some (d, some (.one (.c (.sl ei.size rows)))), [(id, some (.arr e ei.size rows 2))]⟩ := by
 intro st' ha G S μ a w K Q hs hk';refine aIk id hT ho hd hdn hi hk hei hrows hlen hsmall hsm1 hid st' ha G S μ a w K Q hs fun S1 μ1 a1 w1 h1 => ?_
 have hlen' : len = rows.length := by rw [hrows.lengths]; simpa using zq4 hlen
 have hh : (Eff.apply ⟨some (d, some (.one (.hs id 0 len len))), [(id, some (.arr e ei.size rows 0))]⟩ st').h id = some (.arr e ei.size rows 0) := by
  show updL st'.h [(id, some (.arr e ei.size rows 0))] id = _;rw [bQ, aI]
 obtain ⟨S2, μ2, h2⟩ := h1.freeze hh;refine hk' S2 μ2 a1 w1 ⟨?_, h2.size, ?_, fun s u e1 => ?_⟩
 ·have := h2.inv;show Inv G S2 μ2 (updL st'.h [(id, some (.arr e ei.size rows 2))]) w1;rw [bQ];have e2 : upd (Eff.apply ⟨some (d, some (.one (.hs id 0 len len))), [(id, some (.arr e ei.size rows 0))]⟩ st').h id (some (.arr e ei.size rows 2)) = upd st'.h id (some (.arr e ei.size rows 2)) := by
   show upd (updL st'.h [(id, some (.arr e ei.size rows 0))]) id _ = _;rw [bQ, k7]
  rw [← e2]; exact this
 ·have := h2.defers;show Marks _ μ2 (updL st'.h [(id, some (.arr e ei.size rows 2))]) st'.d a1.defers;rw [bQ];have e2 : upd (Eff.apply ⟨some (d, some (.one (.hs id 0 len len))), [(id, some (.arr e ei.size rows 0))]⟩ st').h id (some (.arr e ei.size rows 2)) = upd st'.h id (some (.arr e ei.size rows 2)) := by
   show upd (updL st'.h [(id, some (.arr e ei.size rows 0))]) id _ = _;rw [bQ, k7]
  rw [← e2]; exact this
 ·have e2 : upd (Eff.apply ⟨some (d, some (.one (.hs id 0 len len))), [(id, some (.arr e ei.size rows 0))]⟩ st').h id (some (.arr e ei.size rows 2)) = updL st'.h [(id, some (.arr e ei.size rows 2))] := by
   show upd (updL st'.h [(id, some (.arr e ei.size rows 0))]) id _ = _;rw [bQ, bQ, k7]
  show aV S2 μ2 (updL st'.h [(id, some (.arr e ei.size rows 2))]) u (a1.tmps.getD s undef);by_cases hsd : s = d
  ·subst hsd;have hu : u = .one (.c (.sl ei.size rows)) := by
    have : upd st'.e s (some (.one (.c (.sl ei.size rows)))) s = some u := e1;rw [aI] at this;cases this; rfl
   subst hu;have hv := h2.env s (.one (.hs id 0 len len)) (aI _ _ _);have hO := h2.inv.obj id _ (aI _ _ _);have := (Conv.one (h := upd (Eff.apply ⟨some (s, some (.one (.hs id 0 len len))), [(id, some (.arr e ei.size rows 0))]⟩ st').h id (some (.arr e ei.size rows 2))) (PureL.hs (e := rows) (aI _ _ _) hlen' (by rw [hlen']; simp) .nil)).rel (fun _ _ => rfl) h2.inv.obj hv;rw [← e2];exact this
  ·have : upd st'.e d (some (.one (.c (.sl ei.size rows)))) s = some u := e1;rw [aS _ _ _ hsd] at this;have hv := h2.env s u (by show upd st'.e d _ s = some u; rw [aS _ _ _ hsd]; exact this);rw [← e2];exact hv
theorem aWe {tx ty : TypeId} {x y : Operand} {a b : Nat} (ho : o.op = .binOp .add tx x y ty) (hd : o.dst = some d) (hdn : d < n) (hx : opv st x = some (I .i64 (a : Nat))) (hy : opv st y = some (I .i64 (b : Nat))) (hr : a + b ≤ 9223372036854775807) :
  Step P n o st ⟨opr x ++ opr y, []⟩ ⟨some (d, some (I .i64 ((a + b : Nat) : Int))), []⟩ := aNl ho hd hdn hx hy (by rw [← Int.natCast_add]; exact IntWalk.i64_in _ (by omega))
theorem aV8 {tx ty : TypeId} {x y : Operand} {a b : Nat} (ho : o.op = .binOp .mul tx x y ty) (hd : o.dst = some d) (hdn : d < n) (hx : opv st x = some (I .i64 (a : Nat))) (hy : opv st y = some (I .i64 (b : Nat))) (hr : a * b ≤ 9223372036854775807) :
  Step P n o st ⟨opr x ++ opr y, []⟩ ⟨some (d, some (I .i64 ((a * b : Nat) : Int))), []⟩ := aNg ho hd hdn hx hy (by rw [← Int.natCast_mul]; exact IntWalk.i64_in _ (by omega))
theorem aVv {tx ty : TypeId} {x y : Operand} {a b : Nat} (ho : o.op = .binOp .sub tx x y ty) (hd : o.dst = some d) (hdn : d < n) (hx : opv st x = some (I .i64 (a : Nat))) (hy : opv st y = some (I .i64 (b : Nat))) (hr : b ≤ a ∧ a ≤ 9223372036854775807) :
  Step P n o st ⟨opr x ++ opr y, []⟩ ⟨some (d, some (I .i64 ((a - b : Nat) : Int))), []⟩ := aNb ho hd hdn hx hy (by rw [show (a : Int) - b = ((a - b : Nat) : Int) by omega]; exact IntWalk.i64_in _ (by omega))
theorem aV4 {tx ty : TypeId} {x y : Operand} {a b : Nat} (ho : o.op = .binOp .quo tx x y ty) (hd : o.dst = some d) (hdn : d < n) (hx : opv st x = some (I .i64 (a : Nat))) (hy : opv st y = some (I .i64 (b : Nat))) (hr : a ≤ 9223372036854775807 ∧ 1 ≤ b) :
  Step P n o st ⟨opr x ++ opr y, []⟩ ⟨some (d, some (I .i64 ((a / b : Nat) : Int))), []⟩ := by
 have := aQb (P := P) (n := n) ho hd hdn hx hy (by omega);rwa [← Int.natCast_ediv] at this
theorem aV2 {tx ty : TypeId} {x y : Operand} {a b : Nat} (ho : o.op = .binOp .rem tx x y ty) (hd : o.dst = some d) (hdn : d < n) (hx : opv st x = some (I .i64 (a : Nat))) (hy : opv st y = some (I .i64 (b : Nat))) (hr : 1 ≤ b) :
  Step P n o st ⟨opr x ++ opr y, []⟩ ⟨some (d, some (I .i64 ((a % b : Nat) : Int))), []⟩ := by
 have := aQa (P := P) (n := n) ho hd hdn hx hy (by omega);rwa [← Int.natCast_emod] at this
theorem aZl {t1 t2 : TypeId} {x y : Operand} {k : IntKind} {a b r : Int} (ho : o.op = .call { callee := .builtin .max, args := #[x, y], argTypes := #[t1, t2] }) (hd : o.dst = some d) (hdn : d < n) (hx : opv st x = some (I k a)) (hy : opv st y = some (I k b)) (hr : (if b > a then b else a) = r) :
  Step P n o st ⟨opr x ++ opr y, []⟩ ⟨some (d, some (I k r)), []⟩ := by
 refine Step.value hd hdn fun st' ha G S μ ac w hs => ?_
 have h1 := eS (aM hs hx fun t h => ha.1 t (by simp [h]));have h2 := eS (aM hs hy fun t h => ha.1 t (by simp [h]));refine ⟨.int k r, ?_, by simp [aV, b8, Rep]⟩;simp only [execOp, ho, resolve, map_toArray, map_cons, map_nil, h1, h2, Sem.run_bind, Sem.run_pure, Result.andThen_ok, invoke, builtin, Builtin.max_, List.foldlM_cons, List.foldlM_nil, Builtin.max2, hr]
end
inductive Fz where
 | map (agg : Bool) (ents : List (List C))
 | var (l : List C)
 | ra (n es : Nat) (l : List R)
mutual
def R.fz (id : Nat) (z : Fz) : R → R
 | .mr j => match z with
  | .map agg ents => if Nat.beq j id then .c (.mp agg ents) else .mr j
  | _ => .mr j
 | .vp j off => match z with
  | .var l => if Nat.beq j id then .c (.pt (l.drop off)) else .vp j off
  | _ => .vp j off
 | .ra j off len sz => match z with
  | .ra n es l => if Nat.beq j id then (if Nat.beq off 0 && Nat.beq len n && Nat.beq sz n then .ras n es l else .c .any) else .ra j off len sz
  | _ => .ra j off len sz
 | .rp j i fo sz => match z with
  | .ra _ _ _ => if Nat.beq j id then .c .any else .rp j i fo sz
  | _ => .rp j i fo sz
 | .ras n es l => .ras n es (R.fzL id z l)
 | .pas l => .pas (R.fzL id z l)
 | .clo f caps => .clo f (R.fzL id z caps)
 | .mth f x => .mth f (R.fz id z x)
 | r => r
def R.fzL (id : Nat) (z : Fz) : List R → List R
 | [] => []
 | r :: rs => R.fz id z r :: R.fzL id z rs
end
mutual
def V.fz (id : Nat) (z : Fz) : V → V
 | .one r => .one (r.fz id z)
 | .pa l => .pa l
 | .ma l => .ma (R.fzL id z l)
 | .tup l => .tup (V.fzL id z l)
def V.fzL (id : Nat) (z : Fz) : List V → List V
 | [] => []
 | r :: rs => V.fz id z r :: V.fzL id z rs
end
def fzE (id : Nat) (z : Fz) : List (Nat × V) → List (Nat × V)
 | [] => []
 | (t, v) :: l => (t, v.fz id z) :: fzE id z l
def fzR (id : Nat) (z : Fz) : List (List R) → List (List R)
 | [] => []
 | r :: l => R.fzL id z r :: fzR id z l
theorem aKe {id : Nat} {z : Fz} : ∀ {l : List (Nat × V)} {t : Nat} {v : V}, (t, v) ∈ fzE id z l → ∃ v0, (t, v0) ∈ l ∧ v = v0.fz id z
 | (k, u) :: l, t, v, h => by
  simp only [fzE, mem_cons] at h;rcases h with h | h
  ·cases h; exact ⟨u, by simp, rfl⟩
  ·obtain ⟨v0, h1, h2⟩ := aKe h;exact ⟨v0, by simp [h1], h2⟩
theorem R.fzL_length {id : Nat} {z : Fz} : ∀ {l : List R}, (R.fzL id z l).length = l.length
 | [] => rfl
 | _ :: l => by simp [R.fzL, R.fzL_length (l := l)]
theorem R.fzL_append {id : Nat} {z : Fz} : ∀ {l m : List R}, R.fzL id z (l ++ m) = R.fzL id z l ++ R.fzL id z m
 | [], _ => rfl
 | _ :: l, m => by simp [R.fzL, R.fzL_append (l := l)]
theorem fF {id : Nat} {z : Fz} : ∀ {l : List (List R)}, (fzR id z l).length = l.length
 | [] => rfl
 | _ :: l => by simp [fzR, fF (l := l)]
theorem aEm {id : Nat} {z : Fz} : ∀ {l : List (List R)}, (fzR id z l).flatten = R.fzL id z l.flatten
 | [] => rfl
 | _ :: l => by simp [fzR, aEm (l := l), R.fzL_append]
theorem mJ {id : Nat} {z : Fz} {es : Nat} : ∀ {l : List (List R)}, (∀ r ∈ l, r.length = es) → ∀ r ∈ fzR id z l, r.length = es
 | [], _, r, h => by simp [fzR] at h
 | x :: l, k, r, h => by
  simp only [fzR, mem_cons] at h;rcases h with rfl | h
  ·rw [R.fzL_length]; exact k _ (by simp)
  ·exact mJ (l := l) (fun r hr => k r (by simp [hr])) r h
def AObj.fz (id : Nat) (z : Fz) : AObj → AObj
 | .var t cells => .var t (R.fzL id z cells)
 | .lp st j i e => .lp st j i (fzE id z e)
 | .rarr te es l => .rarr te es (fzR id z l)
 | .tok r k => .tok (r.fz id z) k
 | o => o
def Fz.of : Fz → AObj → Prop
 | .map agg ents, o => o = .map agg ents
 | .var l, o => ∃ t, o = .var t (l.map R.c)
 | .ra n es l, o => ∃ te elems, o = .rarr te es elems ∧ l = elems.flatten ∧ n = elems.length
def hfz (id : Nat) (z : Fz) (H : cF) : cF := fun j => if Nat.beq j id then none else (H j).map (AObj.fz id z)
section
variable {S S' : Sto} {μ : Mu} {H : cF} {id : Nat} {z : Fz}
theorem j4 {j : Nat} (h : j ≠ id) : hfz id z H j = (H j).map (AObj.fz id z) := by
 have : Nat.beq j id = false := by
  cases hb : Nat.beq j id with
  | false => rfl
  | true => exact absurd (zq4 hb) h
 simp [hfz, this]
theorem aQs : hfz id z H id = none := by simp [hfz]
theorem aBe {j te es fz : Nat} {l : List (List C)} {o : AObj} (hid : H id = some o) (hz : z.of o) (h : H j = some (.arr te es l fz)) : hfz id z H j = some (.arr te es l fz) := by
 have hne : j ≠ id := by
  rintro rfl;rw [h] at hid; cases hid;cases z with
  | map agg ents => cases hz
  | var l => obtain ⟨t, h⟩ := hz; cases h
  | ra n es l => obtain ⟨_, _, h, _⟩ := hz; cases h
 rw [j4 hne, h]; rfl
theorem vW {j : Nat} {o : AObj} (hid : H id = some o) (hz : z.of o) (h : H j = some .dead) : hfz id z H j = some .dead := by
 have hne : j ≠ id := by
  rintro rfl;rw [h] at hid; cases hid;cases z with
  | map agg ents => cases hz
  | var l => obtain ⟨t, h⟩ := hz; cases h
  | ra n es l => obtain ⟨_, _, h, _⟩ := hz; cases h
 rw [j4 hne, h]; rfl
def aUx (S' : Sto) (μ : Mu) (H : cF) (id : Nat) : Fz → Prop
 | .map agg ents => ∀ b c, μ id = some (b, c) → ∃ es clk, S'.mapo b = some (.all es clk) ∧ (b7 S' agg ents es.toList ∨ aGz S' agg ents es)
 | .var l => ∀ b c, μ id = some (b, c) → ∃ vs, c9 S' l vs ∧ fD S' b 0 vs
 | .ra n es l => n * es = l.length ∧ ∀ b base cap, μ id = some (b, base, cap) → n ≤ cap ∧ cap ≤ maxLen ∧ ∃ vs, aU S' μ (hfz id (.ra n es l) H) l vs ∧ fD S' b base vs
mutual
theorem b8.fz (hle : S.le S') {o : AObj} (hid : H id = some o) (hz : z.of o) : ∀ (r : R) (v : Value), (id ∈ r.refs → aUx S' μ H id z) → b8 S μ H r v → b8 S' μ (hfz id z H) (r.fz id z) v
 | .c x, v, _, k => by simp only [b8, R.fz] at k ⊢; exact Rep.mono hle x v k
 | .hs j off len sz, v, _, k => by
  simp only [b8, R.fz] at k ⊢;obtain ⟨k0, k | ⟨te, es, elems, fz, h1, h2⟩⟩ := k
  ·exact ⟨k0, .inl (vW hid hz k)⟩
  ·exact ⟨k0, .inr ⟨te, es, elems, fz, aBe hid hz h1, h2⟩⟩
 | .tl j off len sz, v, _, k => by
  simp only [b8, R.fz] at k ⊢;obtain ⟨k0, k | ⟨te, es, elems, fz, h1, h2⟩⟩ := k
  ·exact ⟨k0, .inl (vW hid hz k)⟩
  ·exact ⟨k0, .inr ⟨te, es, elems, fz, aBe hid hz h1, h2⟩⟩
 | .ep j i fo sz, v, _, k => by
  simp only [b8, R.fz] at k ⊢;obtain ⟨k0, k | ⟨te, es, elems, fz, h1, h2⟩⟩ := k
  ·exact ⟨k0, .inl (vW hid hz k)⟩
  ·exact ⟨k0, .inr ⟨te, es, elems, fz, aBe hid hz h1, h2⟩⟩
 | .vp j off, v, hk, k => by
  simp only [b8] at k;obtain ⟨t, cells, b, c, h1, h2, h3⟩ := k;by_cases hj : j = id
  ·subst hj;rw [h1] at hid; cases hid;cases z with
   | map agg ents => cases hz
   | ra n es l => obtain ⟨_, _, h, _⟩ := hz; cases h
   | var l =>
    simp only [R.fz, beq_refl, if_true, b8, Rep];obtain ⟨vs, g1, g2⟩ := hk (by simp [R.refs]) b c h2;refine ⟨b, off, h3, vs.drop off, g1.drop off, fun i u hu => ?_⟩;rw [List.getElem?_drop] at hu;have := g2 _ u hu;rwa [zero_add] at this
  ·have hb : Nat.beq j id = false := by
    cases hb : Nat.beq j id with
    | false => rfl
    | true => exact absurd (zq4 hb) hj
   have e : (R.vp j off).fz id z = .vp j off := by cases z <;> simp [R.fz, hb]
   rw [e];simp only [b8];exact ⟨t, _, b, c, by rw [j4 hj, h1]; rfl, h2, h3⟩
 | .mr j, v, hk, k => by
  simp only [b8] at k;obtain ⟨agg, ents, b, c, h1, h2, h3⟩ := k;by_cases hj : j = id
  ·subst hj;rw [h1] at hid; cases hid;cases z with
   | var l => obtain ⟨t, h⟩ := hz; cases h
   | ra n es l => obtain ⟨_, _, h, _⟩ := hz; cases h
   | map agg' ents' =>
    cases hz;simp only [R.fz, beq_refl, if_true, b8, Rep];obtain ⟨es, clk, g1, g2⟩ := hk (by simp [R.refs]) b c h2;exact ⟨b, es, clk, h3, g1, g2⟩
  ·have hb : Nat.beq j id = false := by
    cases hb : Nat.beq j id with
    | false => rfl
    | true => exact absurd (zq4 hb) hj
   have e : (R.mr j).fz id z = .mr j := by cases z <;> simp [R.fz, hb]
   rw [e];simp only [b8];exact ⟨agg, ents, b, c, by rw [j4 hj, h1]; rfl, h2, h3⟩
 | .clo f caps, v, hk, k => by
  simp only [b8, R.fz] at k ⊢;obtain ⟨vs, h1, h2⟩ := k;exact ⟨vs, h1, aU.fz hle hid hz caps vs (by simpa only [R.refs] using hk) h2⟩
 | .ras n es l, v, hk, k => by
  simp only [b8, R.fz] at k ⊢;obtain ⟨a, cap, h1, h2, h3, h4, h5, h6, b, o, h7, vs, h8, h9⟩ := k;exact ⟨a, cap, h1, by rw [R.fzL_length]; exact h2, h3, h4, h5, h6, b, o, h7, vs, aU.fz hle hid hz l vs (by simpa only [R.refs] using hk) h8, h9.mono hle⟩
 | .pas l, v, hk, k => by
  simp only [b8, R.fz] at k ⊢;obtain ⟨b, o, h1, vs, h8, h9⟩ := k;exact ⟨b, o, h1, vs, aU.fz hle hid hz l vs (by simpa only [R.refs] using hk) h8, h9.mono hle⟩
 | .mth f recv, v, hk, k => by
  simp only [b8, R.fz] at k ⊢;obtain ⟨u, h1, h2⟩ := k;exact ⟨u, h1, b8.fz hle hid hz recv u (by simpa only [R.refs] using hk) h2⟩
 | .rp j i fo sz, v, hk, k => by
  simp only [b8] at k;obtain ⟨k0, k⟩ := k;by_cases hj : j = id
  ·subst hj;have key : b8 S' μ (hfz j z H) (.c .any) v := by
    obtain ⟨a, rfl⟩ := k0;simp only [b8, Rep];exact ⟨rfl, rfl⟩
   rcases k with k | ⟨te, es, elems, h1, h2, h3⟩
   ·rw [k] at hid; cases hid;cases z with
    | map agg ents => cases hz
    | var l => obtain ⟨t, h⟩ := hz; cases h
    | ra n es l => obtain ⟨_, _, h, _⟩ := hz; cases h
   ·rw [h1] at hid; cases hid;cases z with
    | map agg ents => cases hz
    | var l => obtain ⟨t, h⟩ := hz; cases h
    | ra n es l => simpa only [R.fz, beq_refl, if_true] using key
  ·have hb : Nat.beq j id = false := by
    cases hb : Nat.beq j id with
    | false => rfl
    | true => exact absurd (zq4 hb) hj
   have e : (R.rp j i fo sz).fz id z = .rp j i fo sz := by cases z <;> simp [R.fz, hb]
   rw [e];simp only [b8];rcases k with k | ⟨te, es, elems, h1, h2, h3⟩
   ·exact ⟨k0, .inl (by rw [j4 hj, k]; rfl)⟩
   ·exact ⟨k0, .inr ⟨te, es, fzR id z elems, by rw [j4 hj, h1]; rfl, by rw [fF]; exact h2, fun e => h3 (by rw [fF] at e; exact e)⟩⟩
 | .yl j, v, _, k => by
  simp only [b8, R.fz] at k ⊢;obtain ⟨st, jp, i, e, b, c, h1, h2, h3⟩ := k;have hne : j ≠ id := by
   rintro rfl;rw [h1] at hid; cases hid;cases z with
   | map agg ents => cases hz
   | var l => obtain ⟨t, h⟩ := hz; cases h
   | ra n es l => obtain ⟨_, _, h, _⟩ := hz; cases h
  exact ⟨st, jp, i, _, b, c, by rw [j4 hne, h1]; rfl, h2, h3⟩
 | .ra j off len sz, v, hk, k => by
  simp only [b8] at k;obtain ⟨k0, k⟩ := k;by_cases hj : j = id
  ·subst hj;have key : b8 S' μ (hfz j z H) (.c .any) v := by
    obtain ⟨a, l, c, rfl⟩ := k0;simp only [b8, Rep];exact ⟨rfl, rfl⟩
   rcases k with k | ⟨te, es, elems, h1, h2, h3⟩
   ·rw [k] at hid; cases hid;cases z with
    | map agg ents => cases hz
    | var l => obtain ⟨t, h⟩ := hz; cases h
    | ra n es l => obtain ⟨_, _, h, _⟩ := hz; cases h
   ·rw [h1] at hid; cases hid;cases z with
    | map agg ents => cases hz
    | var l => obtain ⟨t, h⟩ := hz; cases h
    | ra n es' l =>
     obtain ⟨te', elems', q1, q2, q3⟩ := hz;cases q1;simp only [R.fz, beq_refl, if_true];split
     ·rename_i hc;simp only [Bool.and_eq_true] at hc;obtain ⟨⟨c1, c2⟩, c3⟩ := hc;have c1 := zq4 c1;have c2 := zq4 c2;have c3 := zq4 c3;subst c1; subst c2; subst c3;obtain ⟨f1, f2⟩ := hk (by simp [R.refs]);obtain ⟨_, ⟨m1, m2, m3⟩ | ⟨b, base, cap, m1, m2⟩⟩ := h3 q3
      ·subst m2;simp only [length_nil] at q3;subst q3;subst q2;simp only [b8];exact ⟨none, 0, m3, by simp, le_refl _, zero_le _, (fun _ => ⟨by first | rfl | simp, rfl⟩), (by simp), 0, 0, (by simp), [], (by simp [aU]), (by intro i v e; simp at e)⟩
      ·obtain ⟨f3, f4, vs, f5, f6⟩ := f2 b base cap m1;simp only [b8];exact ⟨some ⟨b, base, none⟩, cap, by rw [m2]; simp, f1, f3, f4, by simp, (fun ad h => by cases h; rfl), b, base, (fun ad h => by cases h; exact ⟨rfl, rfl⟩), vs, f5, f6⟩
     ·exact key
  ·have hb : Nat.beq j id = false := by
    cases hb : Nat.beq j id with
    | false => rfl
    | true => exact absurd (zq4 hb) hj
   have e : (R.ra j off len sz).fz id z = .ra j off len sz := by cases z <;> simp [R.fz, hb]
   rw [e];simp only [b8];rcases k with k | ⟨te, es, elems, h1, h2, h3⟩
   ·exact ⟨k0, .inl (by rw [j4 hj, k]; rfl)⟩
   ·refine ⟨k0, .inr ⟨te, es, fzR id z elems, by rw [j4 hj, h1]; rfl, by rw [fF]; exact h2, fun e => ?_⟩⟩;rw [fF] at e;obtain ⟨q1, q2⟩ := h3 e;refine ⟨q1, ?_⟩;rcases q2 with ⟨q2, q3, q4⟩ | q2
    ·exact .inl ⟨q2, by rw [q3]; rfl, q4⟩
    ·exact .inr q2
theorem aU.fz (hle : S.le S') {o : AObj} (hid : H id = some o) (hz : z.of o) : ∀ (r : List R) (v : List Value), (id ∈ R.refsL r → aUx S' μ H id z) → aU S μ H r v → aU S' μ (hfz id z H) (R.fzL id z r) v
 | [], _, _, k => by simpa only [aU, R.fzL] using k
 | r :: rs, vs, hk, k => by
  simp only [aU, R.fzL] at k ⊢;obtain ⟨v, vs', h1, h2, h3⟩ := k;exact ⟨v, vs', h1, b8.fz hle hid hz r v (fun h => hk (by simp [R.refsL, h])) h2, aU.fz hle hid hz rs vs' (fun h => hk (by simp [R.refsL, h])) h3⟩
end
mutual
theorem aV.fz (hle : S.le S') {o : AObj} (hid : H id = some o) (hz : z.of o) (hk : aUx S' μ H id z) : ∀ (r : V) (v : Value), aV S μ H r v → aV S' μ (hfz id z H) (r.fz id z) v
 | .one r, v, k => by simp only [aV, V.fz] at k ⊢; exact b8.fz hle hid hz r v (fun _ => hk) k
 | .pa l, v, k => by
  simp only [aV, V.fz] at k ⊢;obtain ⟨vs, h1, h2⟩ := k;exact ⟨vs, h1, c9.mono hle l vs h2⟩
 | .ma l, v, k => by
  simp only [aV, V.fz] at k ⊢;obtain ⟨vs, h1, h2⟩ := k;exact ⟨vs, h1, aU.fz hle hid hz l vs (fun _ => hk) h2⟩
 | .tup l, v, k => by
  simp only [aV, V.fz] at k ⊢;obtain ⟨vs, h1, h2⟩ := k;exact ⟨vs, h1, bT.fz hle hid hz hk l vs h2⟩
theorem bT.fz (hle : S.le S') {o : AObj} (hid : H id = some o) (hz : z.of o) (hk : aUx S' μ H id z) : ∀ (r : List V) (v : List Value), bT S μ H r v → bT S' μ (hfz id z H) (V.fzL id z r) v
 | [], _, k => by simpa only [bT, V.fzL] using k
 | r :: rs, vs, k => by
  simp only [bT, V.fzL] at k ⊢;obtain ⟨v, vs', h1, h2, h3⟩ := k;exact ⟨v, vs', h1, aV.fz hle hid hz hk r v h2, bT.fz hle hid hz hk rs vs' h3⟩
end
theorem AObj.succ_fz {p : Prop} {o o' : AObj} (h : o.succ p o') : o.succ p (o'.fz id z) := by
 cases o <;> cases o' <;> simp only [AObj.succ, AObj.fz, fF] at h ⊢ <;> exact h
theorem l4.fz {w : World} {j : Nat} {x : AObj} (hle : S.le S') {o : AObj} (hid : H id = some o) (hz : z.of o) (hk : aUx S' μ H id z) (h : l4 S μ H w j x) (hb : ∀ b c, μ j = some (b, c) → (∀ o, S'.cell b o = S.cell b o) ∧ S'.mapo b = S.mapo b) : l4 S' μ (hfz id z H) w j (x.fz id z) := by
 cases x with
 | var t cells =>
  obtain ⟨b, vs, h1, h2, h3, h4⟩ := h;exact ⟨b, vs, h1, h2, aU.fz hle hid hz _ _ (fun _ => hk) h3, fun o => by rw [(hb b _ h1).1, h4]⟩
 | arr te es elems fz =>
  obtain ⟨h0, h1 | ⟨b, base, cap, vs, h1, h2, h3, h4, h5, h6, h7, h8, h9⟩⟩ := h
  ·exact ⟨h0, .inl h1⟩
  ·exact ⟨h0, .inr ⟨b, base, cap, vs, h1, h2, h3, h4, h5, c9.mono hle _ _ h6, fun e o ho => by rw [(hb b _ h1).1, h7 e o ho], fun o e => by rw [(hb b _ h1).1, h8 o e], fun e => (h9 e).mono hle⟩⟩
 | map agg ents =>
  obtain ⟨b, es, clk, h1, h2, h3, h4⟩ := h;exact ⟨b, es, clk, h1, h2, wV.mono hle h3, h4.of_eq (hb b _ h1).2⟩
 | dead => exact h
 | lp st jp i e =>
  obtain ⟨b, r, fn, tmps, h1, h2, h3, h4, h5, h6⟩ := h;refine ⟨b, r, fn, tmps, h1, h2, h3, fun t v ht => ?_, fun o => by rw [(hb b _ h1).1, h5], by rw [(hb b _ h1).2, h6]⟩;obtain ⟨v0, q1, rfl⟩ := aKe ht;exact aV.fz hle hid hz hk _ _ (h4 t v0 q1)
 | dfr =>
  obtain ⟨b, h1, h2, h3, h4⟩ := h;exact ⟨b, h1, h2, fun o => by rw [(hb b _ h1).1, h3], by rw [(hb b _ h1).2, h4]⟩
 | rarr te es elems =>
  obtain ⟨h0, h1 | ⟨b, base, cap, vs, h1, h2, h3, h4, h5, h6, h7⟩⟩ := h
  ·exact ⟨mJ h0, .inl ⟨h1.1, by rw [h1.2]; rfl⟩⟩
  ·refine ⟨mJ h0, .inr ⟨b, base, cap, vs, h1, h2, h3, by rw [fF]; exact h4, h5, ?_, fun o ho => by rw [(hb b _ h1).1, h7 o ho]⟩⟩;rw [aEm, fF];exact aU.fz hle hid hz _ _ (fun _ => hk) h6
 | tok r k =>
  obtain ⟨h1, b, h2, m, h3, h4⟩ := h;obtain ⟨m', h5, h6⟩ := hle.2 b m h3;exact ⟨h1, b, b8.fz hle hid hz _ _ (fun _ => hk) h2, m', h5, MK.le_has h6 h4⟩
theorem pT {G : Ctx} {n : Nat} {kf : List Nat} {st : St} {a : Act} {w : World} {o : AObj} (hid : st.h id = some o) (hz : z.of o) (hkf : id ∉ kf) (hg : G.keeps kf) (hs : Sim G n S μ st a w) (hle : S.le S') (hh : Holds S' w) (hk : aUx S' μ st.h id z)
  (hb : ∀ b, (∀ c, μ id ≠ some (b, c)) → (∀ o, S'.cell b o = S.cell b o) ∧ S'.mapo b = S.mapo b) : Sim G n S' μ ⟨fun t => (st.e t).map (V.fz id z), hfz id z st.h, st.d⟩ a w := by
 have hold : ∀ j x, hfz id z st.h j = some x → j ≠ id ∧ ∃ x0, st.h j = some x0 ∧ x = x0.fz id z := by
  intro j x hj;have hne : j ≠ id := by rintro rfl; rw [aQs] at hj; cases hj
  rw [j4 hne] at hj;cases h : st.h j with
  | none => rw [h] at hj; cases hj
  | some x0 =>
   rw [h] at hj;cases hj;exact ⟨hne, x0, rfl, rfl⟩
 have hoth : ∀ j x0, st.h j = some x0 → j ≠ id → ∀ b c, μ j = some (b, c) → ∀ c', μ id ≠ some (b, c') := by
  intro j x0 hj hne b c hm c' hm';exact hne (hs.inv.inj j id x0 o b c c' hj hid hm hm')
 refine ⟨⟨hh, fun j x hj => ?_, fun i j x x' b c c' hi hj hm hm' => ?_, fun i x b c hi hm => ?_, hs.inv.frame, Sto.le_trans hs.inv.sle hle, fun b hb1 hF => ?_, ⟨Sto.le_trans hs.inv.evo.le hle, fun j x hj => ?_⟩⟩, hs.size, hs.defers.go fun j _ hj => ⟨rfl, ?_⟩, fun t v e => ?_⟩
 ·obtain ⟨hne, x0, h1, rfl⟩ := hold j x hj;exact (hs.inv.obj j x0 h1).fz hle hid hz hk fun b c hm => hb b (hoth j x0 h1 hne b c hm)
 ·obtain ⟨_, y, h1, _⟩ := hold i x hi;obtain ⟨_, y', h2, _⟩ := hold j x' hj;exact hs.inv.inj i j y y' b c c' h1 h2 hm hm'
 ·obtain ⟨_, y, h1, _⟩ := hold i x hi;exact hs.inv.own i y b c h1 hm
 ·have hno : ∀ c, μ id ≠ some (b, c) := by
   intro c hm;rcases hs.inv.own id o b c hid hm with h | h
   ·omega
   ·exact hF h
  obtain ⟨h1, h2⟩ := hb b hno;obtain ⟨h3, h4⟩ := hs.inv.sto b hb1 hF;exact ⟨fun o => (h1 o).trans (h3 o), h2.trans h4⟩
 ·obtain ⟨o', h1, h2⟩ := hs.inv.evo.obj j x hj;have hne : j ≠ id := fun e => hkf (e ▸ hg j x hj)
  exact ⟨o'.fz id z, by show hfz id z st.h j = _; rw [j4 hne, h1]; rfl, AObj.succ_fz h2⟩
 ·have hne : j ≠ id := by
   rintro rfl;rw [hj] at hid; cases hid;cases z with
   | map agg ents => cases hz
   | var l => obtain ⟨t, h⟩ := hz; cases h
   | ra n es l => obtain ⟨_, _, h, _⟩ := hz; cases h
  show hfz id z st.h j = _;rw [j4 hne, hj]; rfl
 ·cases h : st.e t with
  | none => simp [h] at e
  | some v0 =>
   simp only [h, Option.map_some, Option.some.injEq] at e;subst e;exact aV.fz hle hid hz hk v0 _ (hs.env t v0 h)
theorem aN3 {S : Sto} {w : World} {b : Nat} {es : Array MapEntry} {clk : Nat} (hh : Holds S w) (h : w.heap[b]? = some (.map es clk)) : ∃ S' : Sto, S'.cell = S.cell ∧ S'.mapo b = some (.all es clk) ∧ (∀ b', b' ≠ b → S'.mapo b' = S.mapo b') ∧ S.le S' ∧ Holds S' w := by
 have hif : ∀ b', b' ≠ b → (if b' = b then some (MK.all es clk) else S.mapo b') = S.mapo b' := fun b' e => if_neg e
 refine ⟨⟨S.cell, fun b' => if b' = b then some (.all es clk) else S.mapo b'⟩, rfl, if_pos rfl, hif, ⟨fun _ _ _ e => e, fun b' m e => ?_⟩, hh.1, fun b' m e => ?_⟩
 ·by_cases hb : b' = b
  ·subst hb;refine ⟨.all es clk, if_pos rfl, ?_⟩;have := hh.2 _ _ e;cases m with
   | all es' clk' => simp only [MK.holds] at this; rw [h] at this; cases this; rfl
   | part ks =>
    obtain ⟨es', clk', h1, h2⟩ := this;rw [h] at h1; cases h1;exact h2
  ·exact ⟨m, by rw [← e]; exact hif b' hb, m.le_refl⟩
 ·by_cases hb : b' = b
  ·subst hb;have e' : (if b' = b' then some (MK.all es clk) else S.mapo b') = some m := e;rw [if_pos rfl] at e';cases e';exact h
  ·have e' : (if b' = b then some (MK.all es clk) else S.mapo b') = some m := e;rw [if_neg hb] at e';exact hh.2 b' m e'
theorem Sub.fvar {kf : List Nat} {st : St} {id t : Nat} {l : List C} (hid : st.h id = some (.var t (l.map R.c))) (hkf : id ∉ kf) : Sub kf ⟨fun t => (st.e t).map (V.fz id (.var l)), hfz id (.var l) st.h, st.d⟩ st := by
 intro G n S μ a w hg hs;obtain ⟨b, vs, h1, h2, h3, h4⟩ := hs.inv.obj id _ hid;have h3' := h3.pure
 let S' : Sto := ⟨fun b' o => if b' = b then vs[o]? else S.cell b' o, S.mapo⟩
 have hle : S.le S' := ⟨fun b' o v e => by
  show (if b' = b then vs[o]? else S.cell b' o) = some v;by_cases hb : b' = b
  ·subst hb; rw [h4] at e; cases e
  ·rw [if_neg hb]; exact e, fun _ m e => ⟨m, e, m.le_refl⟩⟩
 refine ⟨S', μ, pT hid ⟨t, rfl⟩ hkf hg hs hle ⟨fun b' o v e => ?_, hs.inv.holds.2⟩ ?_ fun b' hb => ⟨fun o => ?_, rfl⟩⟩
 ·have e' : (if b' = b then vs[o]? else S.cell b' o) = some v := e;by_cases hb : b' = b
  ·subst hb;rw [if_pos rfl] at e';exact ⟨⟨vs⟩, t, (0, 0), h2, by simpa using e'⟩
  ·rw [if_neg hb] at e';exact hs.inv.holds.1 b' o v e'
 ·intro b' c hm;rw [h1] at hm; cases hm;refine ⟨vs, c9.mono hle _ _ h3', fun i u hu => ?_⟩;show (if b = b then vs[0 + i]? else S.cell b (0 + i)) = some u;rw [if_pos rfl, zero_add];exact hu
 ·have hne : b' ≠ b := fun e => hb (0, 0) (by rw [e]; exact h1)
  exact if_neg hne
theorem Sub.fra {kf : List Nat} {st : St} {id te es : Nat} {elems : List (List R)} (hid : st.h id = some (.rarr te es elems)) (hkf : id ∉ kf) (hself : R.fzL id (.ra elems.length es elems.flatten) elems.flatten = elems.flatten) (hs0 : id ∉ R.refsL elems.flatten) :
  Sub kf ⟨fun t => (st.e t).map (V.fz id (.ra elems.length es elems.flatten)), hfz id (.ra elems.length es elems.flatten) st.h, st.d⟩ st := by
 intro G n S μ a w hg hs;have hz : (Fz.ra elems.length es elems.flatten).of (.rarr te es elems) := ⟨te, elems, rfl, rfl, rfl⟩
 obtain ⟨h0, ⟨h1, h2⟩ | ⟨b, base, cap, vs, h1, h2, h3, h4, h5, h6, h7⟩⟩ := hs.inv.obj id _ hid
 ·refine ⟨S, μ, pT hid hz hkf hg hs S.le_refl hs.inv.holds ?_ fun b' _ => ⟨fun _ => rfl, rfl⟩⟩;refine ⟨?_, fun b base cap hm => ?_⟩
  ·rw [h2]; simp
  ·rw [h1] at hm; cases hm
 ·let S' : Sto := ⟨fun b' o => if b' = b then vs[o]? else S.cell b' o, S.mapo⟩
  have hle : S.le S' := ⟨fun b' o v e => by
   show (if b' = b then vs[o]? else S.cell b' o) = some v;by_cases hb : b' = b
   ·subst hb;rw [if_pos rfl];obtain ⟨vs', t', fr', q1, q2⟩ := hs.inv.holds.1 b' o v e;rw [h2] at q1; cases q1;simpa using q2
   ·rw [if_neg hb]; exact e, fun _ m e => ⟨m, e, m.le_refl⟩⟩
  have hlen : elems.length * es = elems.flatten.length := by
   have key : ∀ l : List (List R), (∀ r ∈ l, r.length = es) → l.length * es = l.flatten.length := by
    intro l
    induction l with
    | nil => intro _; simp
    | cons r l ih =>
     intro h;have := h r (by simp);have := ih fun q hq => h q (by simp [hq])
     simp only [length_cons, flatten_cons, length_append, add_mul];omega
   exact key elems h0
  refine ⟨S', μ, pT hid hz hkf hg hs hle ⟨fun b' o v e => ?_, hs.inv.holds.2⟩ ⟨hlen, fun b' base' cap' hm => ?_⟩ fun b' hb => ⟨fun o => ?_, rfl⟩⟩
  ·have e' : (if b' = b then vs[o]? else S.cell b' o) = some v := e;by_cases hb : b' = b
   ·subst hb;rw [if_pos rfl] at e';exact ⟨⟨vs⟩, te, (0, 0), h2, by simpa using e'⟩
   ·rw [if_neg hb] at e';exact hs.inv.holds.1 b' o v e'
  ·rw [h1] at hm; cases hm;refine ⟨h4, h5, (vs.drop base).take (elems.length * es), ?_, ?_⟩
   ·have := aU.fz hle hid hz _ _ (fun h => absurd h hs0) h6;rwa [hself] at this
   ·intro i u hu;show (if b = b then vs[base + i]? else S.cell b (base + i)) = some u;rw [if_pos rfl];rw [List.getElem?_take] at hu;split at hu
    ·rwa [List.getElem?_drop] at hu
    ·cases hu
  ·have hne : b' ≠ b := fun e => hb (base, cap) (by rw [e]; exact h1)
   exact if_neg hne
end
theorem dD {α : Type} {k i : Nat} {x : α} {l : List (Nat × α)} (h : i ≠ k) : look ((k, x) :: l) i = look l i := by
 have : Nat.beq i k = false := by
  cases hb : Nat.beq i k with
  | false => rfl
  | true => exact absurd (zq4 hb) h
 simp [look, this]
theorem cR {α : Type} {k : Nat} {x : α} {l : List (Nat × α)} : look ((k, x) :: l) k = some x := by simp [look]
section
variable {P : Program} {n : Nat} {o : Oper} {st : St} {d : Nat}
end
theorem dP.of {α : Type} {p : α → Prop} : ∀ {l : List α}, (∀ x ∈ l, p x) → dP p l
 | [], _ => trivial
 | x :: l, h => ⟨h x (by simp), dP.of fun y hy => h y (by simp [hy])⟩
def sQ (W : World) : Sto :=
 ⟨fun b o => match W.heap[b]? with | some (.cells vs _ _) => vs[o]? | _ => none, fun b => match W.heap[b]? with | some (.map es clk) => some (.all es clk) | _ => none⟩
theorem aGa (W : World) : Holds (sQ W) W := by
 refine ⟨fun b o v h => ?_, fun b mk h => ?_⟩
 ·simp only [sQ] at h;split at h
  ·rename_i vs t fr hq;exact ⟨vs, t, fr, hq, h⟩
  ·cases h
 ·simp only [sQ] at h;split at h
  ·rename_i hq;cases h;exact hq
  ·cases h
theorem y9 {W : World} {a : Addr} {v : Value} (h : W.cell? a = some v) : (sQ W).cell a.block a.off = some v := by
 unfold World.cell? at h;simp only [sQ];split at h
 ·rename_i hq;rw [hq];split at h
  ·cases h
  ·exact h
 ·cases h
theorem aJ0 {P : Program} {f : FuncId} {args : List V} {vals : List Value} {res : V} (h : aY P f args [] res []) (W : World) (hv : bT (sQ W) (fun _ => none) (look []) args vals) (ht : aPn W := by first | assumption | (intro g h; cases h)) :
  Calls P f ⟨vals⟩ W fun e W' => ∃ v S μ, e = .returned v ∧ RowKit.Below W.heap.size W W' ∧ aV S μ (look []) res v := by
 have hI : Inv ⟨W, sQ W, wX (fun _ => none) (look []), fun _ => none, look []⟩ (sQ W) (fun _ => none) (look []) W :=
  ⟨aGa W, (fun _ _ h => by cases h), (fun _ _ _ _ _ _ _ h => by cases h), (fun _ _ _ _ h => by cases h), FrameW.refl _ _ ⟨ht, fun g _ ⟨_, _, _, h, _⟩ => by cases h⟩, Sto.le_refl _, fun _ _ _ => ⟨fun _ => rfl, rfl⟩, Evolve.refl _ _ _⟩
 refine (h (sQ W) (fun _ => none) W vals hI hv).mono ?_;rintro e W' ⟨S', μ', v, he, hI', hr⟩;refine ⟨v, S', μ', he, ⟨hI'.frame.os, hI'.frame.tape, hI'.frame.output, hI'.frame.size, fun k hk => hI'.frame.block k hk ?_⟩, hr⟩;rintro ⟨id, o, c, h1, _⟩;cases h1
theorem aT3 {S : Sto} {μ : Mu} {H : cF} {b : Bool} {v : Value} (h : aV S μ H (B b) v) : v = .bool b := by simpa [aV, b8, Rep] using h
def iC (l : List Int) : List (List C) := l.map fun m => [.int .i64 m]
theorem aDq {W : World} {a : Addr} {len cap : Nat} {l : List Int} (hs : cap ≠ 0 → a.spot = none) (hl : l.length = len) (hc : len ≤ cap) (hm : cap ≤ maxLen) (hcell : ∀ i, i < len → W.cell? (a.add i) = some (.int .i64 (l.getD i 0))) :
  Rep (sQ W) (.sl 1 (iC l)) (.slice (some a) len cap) := by
 simp only [Rep];refine ⟨some a, len, cap, rfl, by simp [iC, hl], hc, hm, (by intro h; cases h), (by intro ad h; cases h; exact hs), a.block, a.off, (by intro ad h; cases h; exact ⟨rfl, rfl⟩), ?_⟩;have key : ∀ (r : List Int) (k : Nat), (∀ i, i < r.length → W.cell? (a.add (k + i)) = some (.int .i64 (r.getD i 0))) → bI (sQ W) 1 a.block (iC r) (a.off + k) := by
  intro r
  induction r with
  | nil => intro k _; simp [iC, bI]
  | cons x r ih =>
   intro k hr;simp only [iC, map_cons, bI];refine ⟨rfl, ⟨[.int .i64 x], by simp [c9, Rep], fun i v hi => ?_⟩, ?_⟩
   ·have h0 := y9 (hr 0 (by simp));have hb : (a.add (k + 0)).block = a.block := by unfold Addr.add; split <;> rfl
    have ho : (a.add (k + 0)).off = a.off + k := by
     unfold Addr.add;split
     ·rename_i h; omega
     ·rfl
    rw [hb, ho] at h0;cases i with
    | zero => simp at hi; subst hi; simpa using h0
    | succ i => simp at hi
   ·have := ih (k + 1) fun i hi => by
     have := hr (i + 1) (by simp; omega);rw [show k + (i + 1) = k + 1 + i by omega] at this;simpa using this
    rw [add_assoc];exact this
 have := key l 0 fun i hi => by rw [zero_add]; exact hcell i (by omega)
 simpa using this
theorem kC {W : World} : Rep (sQ W) (.sl 1 (iC [])) (.slice none 0 0) := by
 simp only [Rep];exact ⟨none, 0, 0, rfl, rfl, le_refl _, zero_le _, (fun _ => ⟨rfl, rfl⟩), (by intro ad h; cases h), 0, 0, (by intro ad h; cases h), by simp [iC, bI]⟩
theorem sL {H : Type} {enc : TypeId × Value → H} {P : Program} {W : World} {t e : TypeId} {v : Value} {d : DataW H} {ps : List MemPlace} {base : Nat} (ht : P.underlying t = some (.slice e)) (he : P.underlying e = some (.int .i64)) (hc : P.cellsOf e = 1)
  (hok : Value.okWide P W .any base t v) (h : DataW.Trod enc P W 0 (fun _ => true) true t v d ps) :
  ∃ l : List Int, Rep (sQ W) (.sl 1 (iC l)) v ∧ (∀ m ∈ l, -9223372036854775808 ≤ m ∧ m ≤ 9223372036854775807) ∧ (∃ x y, (d = .nil ∧ l = []) ∨ (d = .slice x y ∧ x.length = l.length)) := by
 obtain ⟨fuel, hf⟩ := h;obtain ⟨a0, len0, cap0, rfl⟩ := WideShapes.okWide_slice ht hok;rcases ChangeShapes.open_ints ht he hc hf with ⟨h1, h2⟩ | ⟨a, len, cap, zs, h1, _, h3, h4, h5, h6, h7, h8⟩
 ·have hv : Value.slice a0 len0 cap0 = .slice none 0 0 := by
   simp only [Value.cells] at h1;simpa using h1
  cases hv;refine ⟨[], kC, by simp, [], [], .inl ⟨?_, rfl⟩⟩;have := congrArg Prod.fst h2;simpa using this
 ·have hv : Value.slice a0 len0 cap0 = .slice (some a) len cap := by
   simp only [Value.cells] at h1;simpa using h1
  cases hv;have hs : a.spot = none := by
   simp only [Value.okWide, ht, Cell.okWide, Cell.ok] at hok;exact hok.2.2.2.1
  have hlen : len0 ≤ zs.length := by rw [h5]; split <;> omega
  refine ⟨zs.take len0, aDq (fun _ => hs) (by simp; omega) h3 h4 (fun i hi => ?_), fun m hm => ?_, ChangeShapes.lits .i64 (zs.take len0), ChangeShapes.lits .i64 (zs.drop len0), .inr ⟨?_, ?_⟩⟩
  ·rw [h7 i (by omega)];congr 2;simp [List.getD_eq_getElem?_getD, hi]
  ·have := h8 m (mem_of_mem_take hm);simp only [Lit.wf, Bool.and_eq_true, decide_eq_true_eq] at this;exact this
  ·have := congrArg Prod.fst h6;simpa using this
  ·simp [ChangeShapes.lits]
theorem aIh {W : World} {a : Addr} {len cap : Nat} {l : List C} (hs : cap ≠ 0 → a.spot = none) (hl : l.length = len) (hc : len ≤ cap) (hm : cap ≤ maxLen) (hcell : ∀ i c, l[i]? = some c → ∃ v, W.cell? (a.add i) = some v ∧ Rep (sQ W) c v) :
  Rep (sQ W) (.sl 1 (l.map fun c => [c])) (.slice (some a) len cap) := by
 simp only [Rep];refine ⟨some a, len, cap, rfl, by simp [hl], hc, hm, (by intro h; cases h), (by intro ad h; cases h; exact hs), a.block, a.off, (by intro ad h; cases h; exact ⟨rfl, rfl⟩), ?_⟩;have key : ∀ (r : List C) (k : Nat), (∀ i c, r[i]? = some c → ∃ v, W.cell? (a.add (k + i)) = some v ∧ Rep (sQ W) c v) → bI (sQ W) 1 a.block (r.map fun c => [c]) (a.off + k) := by
  intro r
  induction r with
  | nil => intro k _; simp [bI]
  | cons x r ih =>
   intro k hr;simp only [map_cons, bI];obtain ⟨v0, hv1, hv2⟩ := hr 0 x rfl;refine ⟨rfl, ⟨[v0], by simp [c9, hv2], fun i v hi => ?_⟩, ?_⟩
   ·have h0 := y9 hv1;have hb : (a.add (k + 0)).block = a.block := by unfold Addr.add; split <;> rfl
    have ho : (a.add (k + 0)).off = a.off + k := by
     unfold Addr.add;split
     ·rename_i h; omega
     ·rfl
    rw [hb, ho] at h0;cases i with
    | zero => simp at hi; subst hi; simpa using h0
    | succ i => simp at hi
   ·have := ih (k + 1) fun i c hi => by
     have := hr (i + 1) c (by simpa using hi);rw [show k + (i + 1) = k + 1 + i by omega] at this;exact this
    rw [add_assoc];exact this
 have := key l 0 fun i c hi => by rw [zero_add]; exact hcell i c hi
 simpa using this
theorem aF7 {H : Type} {enc : TypeId × Value → H} {P : Program} {W : World} {t e : TypeId} {v : Value} {fuel : Nat} {y : DataW H × List MemPlace} (ht : P.underlying t = some (.slice e)) (he : P.underlying e = some (.int .i64)) (hc : P.cellsOf e = 1)
  (hf : DataW.trod enc P W 0 (fun _ => true) true fuel t [v] = some y) :
  ∃ l : List Int, Rep (sQ W) (.sl 1 (iC l)) v ∧ (∀ m ∈ l, -9223372036854775808 ≤ m ∧ m ≤ 9223372036854775807) ∧ (∃ x z, (y.1 = .nil ∧ l = []) ∨ (y.1 = .slice x z ∧ x.length = l.length)) := by
 rcases ChangeShapes.open_ints ht he hc hf with ⟨h1, h2⟩ | ⟨a, len, cap, zs, h1, _, h3, h4, h5, h6, h7, h8⟩
 ·have hv : v = .slice none 0 0 := by simpa using h1
  subst hv;exact ⟨[], kC, by simp, [], [], .inl ⟨by rw [h2], rfl⟩⟩
 ·have hv : v = .slice (some a) len cap := by simpa using h1
  subst hv;have hzl : zs.length = cap := by simpa using h5
  have hs : cap ≠ 0 → a.spot = none := fun hcap => by
   have := h7 0 (by omega);have e0 : a.add 0 = a := by simp [Addr.add]
   rw [e0] at this;unfold World.cell? at this;split at this
   ·cases hsp : a.spot with
    | none => rfl
    | some s => simp [hsp] at this
   ·cases this
  refine ⟨zs.take len, aDq hs (by simp; omega) h3 h4 (fun i hi => ?_), fun m hm => ?_, ChangeShapes.lits .i64 (zs.take len), ChangeShapes.lits .i64 (zs.drop len), .inr ⟨by rw [h6], by simp [ChangeShapes.lits]⟩⟩
  ·rw [h7 i (by omega)];congr 2;simp [List.getD_eq_getElem?_getD, hi]
  ·have := h8 m (mem_of_mem_take hm);simp only [Lit.wf, Bool.and_eq_true, decide_eq_true_eq] at this;exact this
theorem aKr {α β : Type} {p : Nat → α → β → Prop} : ∀ (n : Nat) (f : Nat → Option β) (_ : ∀ i, i < n → ∃ y, f i = some y ∧ ∃ x, p i x y), ∃ l : List α, l.length = n ∧ ∀ i x, l[i]? = some x → ∃ y, f i = some y ∧ p i x y
 | 0, _, _ => ⟨[], rfl, fun i x h => by simp at h⟩
 | n + 1, f, h => by
  obtain ⟨l, h1, h2⟩ := aKr n f fun i hi => h i (by omega)
  obtain ⟨y, hy, x, hx⟩ := h n (by omega);refine ⟨l ++ [x], by simp [h1], fun i u hi => ?_⟩;by_cases hin : i < n
  ·rw [List.getElem?_append_left (by omega)] at hi;exact h2 i u hi
  ·rw [List.getElem?_append_right (by omega)] at hi;have : i = n := by
    have := (zq6.1 hi).1
    simp at this;omega
   subst this;rw [h1] at hi;simp at hi;subst hi;exact ⟨y, hy, hx⟩
def nF (l : List (List Int)) : List C := l.map fun x => .sl 1 (iC x)
theorem aF6 {H : Type} {enc : TypeId × Value → H} {P : Program} {W : World} {t e i : TypeId} {v : Value} {d : DataW H} {ps : List MemPlace} {base : Nat} (ht : P.underlying t = some (.slice e)) (he : P.underlying e = some (.slice i)) (hi : P.underlying i = some (.int .i64)) (hce : P.cellsOf e = 1) (hci : P.cellsOf i = 1)
  (hok : Value.okWide P W .any base t v) (h : DataW.Trod enc P W 0 (fun _ => true) true t v d ps) :
  ∃ l : List (List Int), Rep (sQ W) (.sl 1 ((nF l).map fun c => [c])) v ∧ (∀ x ∈ l, ∀ m ∈ x, -9223372036854775808 ≤ m ∧ m ≤ 9223372036854775807) ∧
   ∃ xs zs : List (DataW H), (d = .nil ∧ l = []) ∨ (d = .slice xs zs ∧ xs.length = l.length ∧ ∀ (k : Nat) (x : List Int), l[k]? = some x → ∃ y : DataW H, xs[k]? = some y ∧ ((y = .nil ∧ x = []) ∨ ∃ u z, y = .slice u z ∧ u.length = x.length)) := by
 obtain ⟨fuel, hf⟩ := h;obtain ⟨a0, len0, cap0, rfl⟩ := WideShapes.okWide_slice ht hok;rcases DataW.trod_slice ht hf with ⟨h1, h2⟩ | ⟨a, len, cap, elems, rest, n, _, hcs, hx, _, hl, hm, hlen, hel, _⟩
 ·have hv : Value.slice a0 len0 cap0 = .slice none 0 0 := by simpa [Value.cells] using h1
  cases hv;have hd : d = .nil := by simpa using congrArg Prod.fst h2
  exact ⟨[], kC, by simp, [], [], .inl ⟨hd, rfl⟩⟩
 ·have hv : Value.slice a0 len0 cap0 = .slice (some a) len cap := by simpa [Value.cells] using hcs
  cases hv;have hs : a.spot = none := by
   simp only [Value.okWide, ht, Cell.okWide, Cell.ok] at hok;exact hok.2.2.2.1
  have hd : d = .slice (elems.map (·.1)) (rest.map (·.1)) := by simpa using congrArg Prod.fst hx
  obtain ⟨l, hll, hlx⟩ := aKr (α := List Int) (β := DataW H × List MemPlace) (p := fun k x y => (∃ v, W.cell? (a.add k) = some v ∧ Rep (sQ W) (.sl 1 (iC x)) v) ∧ (∀ m ∈ x, -9223372036854775808 ≤ m ∧ m ≤ 9223372036854775807) ∧ ((y.1 = .nil ∧ x = []) ∨ ∃ u z, y.1 = .slice u z ∧ u.length = x.length)) len0 (fun k => elems[k]?) (fun k hk => by
   obtain ⟨y, hy⟩ : ∃ y, elems[k]? = some y := ⟨_, List.getElem?_eq_getElem (by omega)⟩
   refine ⟨y, hy, ?_⟩;have hE := hel k hk;rw [hce, mul_one, hy, Option.bind_eq_some_iff] at hE;obtain ⟨cs', hcs', hy'⟩ := hE;have hone : ∃ c, cs' = [c] ∧ W.cell? (a.add k) = some c := by
    unfold World.cells? at hcs';have e0 : (a.add k).add 0 = a.add k := by simp [Addr.add]
    split at hcs'
    ·simp only [List.range_succ, List.range_zero, nil_append, mapM_cons, List.mapM_nil, e0] at hcs';cases hcc : W.cell? (a.add k) with
     | none => simp [hcc] at hcs'
     | some c => simp [hcc] at hcs'; exact ⟨c, hcs'.symm, rfl⟩
    ·cases hcs'
   obtain ⟨c, rfl, hcc⟩ := hone;obtain ⟨x, g1, g2, u, z, g3⟩ := aF7 he hi hci hy'
   exact ⟨x, ⟨c, hcc, g1⟩, g2, g3.imp id fun g => ⟨u, z, g⟩⟩)
  refine ⟨l, aIh (fun _ => hs) (by simp [nF, hll]) hl hm (fun k c hk => ?_), fun x hx m hm => ?_, elems.map (·.1), rest.map (·.1), .inr ⟨hd, by simp; omega, fun k x hk => ?_⟩⟩
  ·unfold nF at hk;rw [List.getElem?_map] at hk;cases hx : l[k]? with
   | none => simp [hx] at hk
   | some x =>
    simp [hx] at hk;subst hk;obtain ⟨y, _, g, _, _⟩ := hlx k x hx;exact g
  ·obtain ⟨k, hk⟩ := List.getElem?_of_mem hx;obtain ⟨y, _, _, g, _⟩ := hlx k x hk;exact g m hm
  ·obtain ⟨y, hy, _, _, g⟩ := hlx k x hk;exact ⟨y.1, by rw [List.getElem?_map, hy]; rfl, g⟩
end Go.AM
