/-
  Texts Am12 to Am31 in one.
-/
import Derived.Test.YtlegeikmepnmcaaDoorM2
import Derived.RangeFuncRecord
import Derived.IntWalk
import Derived.Laws.StructEq
import Derived.ProofKit
import Derived.SizedLaws
open List (all_eq_true append_assoc append_nil cons_append drop_succ_cons length_append length_cons length_nil length_take mapM_cons map_cons map_nil map_toArray mem_append mem_map mem_of_mem_take nil_append range_succ set_eq_take_append_cons_drop take_of_length_le take_succ_cons)
open Nat (add_assoc eq_of_beq_eq_true le_of_ble_eq_true le_refl le_trans lt_of_lt_of_le min_eq_left zero_add zero_le)
namespace Go.AM
open Go
def nL (μ : Mu) (h : cH) : Nat → Prop := fun b => ∃ id o c, h id = some o ∧ μ id = some (b, c)
def bN (P : Program) (f : FuncId) (args : List V) (hin : List (Nat × AObj)) (res : V) (hout : List (Nat × AObj)) : Prop :=
 ∀ S μ w vals, Inv ⟨w, S, nL μ (look hin), μ, look hin⟩ S μ (look hin) w → bO S μ (look hin) args vals →
  Calls P f ⟨vals⟩ w fun e w' => ∃ S' μ' v, e = .returned v ∧ Inv ⟨w, S, nL μ (look hin), μ, look hin⟩ S' μ' (look hout) w' ∧ aQ S' μ' (look hout) res v
mutual
theorem R.ren_id : ∀ r : R, r.ren (fun i => i) = r
 | .c _ => rfl
 | .hs .. => rfl
 | .tl .. => rfl
 | .vp .. => rfl
 | .ep .. => rfl
 | .mr .. => rfl
 | .clo f caps => by simp only [R.ren, R.renL_id caps]
 | .mth f x => by simp only [R.ren, R.ren_id x]
 | .yl _ => rfl
 | .ra _ _ _ _ => rfl
 | .rp _ _ _ _ => rfl
 | .ras n es l => by simp only [R.ren, R.renL_id l]
 | .pas l => by simp only [R.ren, R.renL_id l]
theorem R.renL_id : ∀ r : List R, R.renL (fun i => i) r = r
 | [] => rfl
 | r :: rs => by simp only [R.renL, R.ren_id r, R.renL_id rs]
end
mutual
theorem V.ren_id : ∀ r : V, r.ren (fun i => i) = r
 | .one r => by simp only [V.ren, R.ren_id r]
 | .pa _ => rfl
 | .ma l => by simp only [V.ren, R.renL_id l]
 | .tup l => by simp only [V.ren, V.renL_id l]
theorem V.renL_id : ∀ r : List V, V.renL (fun i => i) r = r
 | [] => rfl
 | r :: rs => by simp only [V.renL, V.ren_id r, V.renL_id rs]
end
theorem z1 : ∀ l : List (Nat × V), yK (fun i => i) l = l
 | [] => rfl
 | (t, v) :: l => by simp only [yK, V.ren_id v, z1 l]
theorem tQ : ∀ l : List (List R), qN (fun i => i) l = l
 | [] => rfl
 | r :: l => by simp only [qN, R.renL_id r, tQ l]
theorem Ole.refl_id {o : AObj} (h : o ≠ .dead) : Ole (fun i => i) o o := by
 cases o with
 | var t cells => exact .var (R.renL_id cells).symm
 | arr => exact .arr
 | map => exact .map
 | dead => exact absurd rfl h
 | lp st j i e => exact .lp (z1 e).symm
 | dfr => exact .dfr
 | rarr te es l => exact .rarr (tQ l).symm
 | tok r k => exact .tok (R.ren_id r).symm
inductive Conv (h : cH) : List Nat → V → V → Prop
 | refl {v} : Conv h [] v v
 | one {ids r c} : PureL h ids [r] [c] → Conv h ids (.one r) (.one (.c c))
 | agg {ids rs cs} : PureL h ids rs cs → Conv h ids (.ma rs) (.pa cs)
 | pa {ids l cs} : PureL h ids (l.map R.c) cs → Conv h ids (.pa l) (.pa cs)
inductive ArgsV (st : St) : List Nat → List Operand → List V → Prop
 | nil : ArgsV st [] [] []
 | cons {ids ids' x xs v v' vs} : opv st x = some v → Conv st.h ids v v' → ArgsV st ids' xs vs → ArgsV st (ids ++ ids') (x :: xs) (v' :: vs)
theorem Conv.rel {S : Sto} {μ : Mu} {H H0 : cH} {w : World} {ids : List Nat} {v v' : V} {u : Value} (h : Conv H0 ids v v') (hi : ∀ i ∈ ids, H i = H0 i) (hO : ∀ id o, H id = some o → j6 S μ H w id o) (hv : aQ S μ H v u) : aQ S μ H v' u := by
 cases h with
 | refl => exact hv
 | @one _ r c h =>
  simp only [aQ, b5] at hv ⊢;have := h.rel hi hO (vs := [u]) (by simp only [aO]; exact ⟨u, [], rfl, hv, rfl⟩);simp only [bR] at this;obtain ⟨v, vs', h1, h2, h3⟩ := this;cases h1;exact h2
 | @agg _ rs cs h =>
  simp only [aQ] at hv ⊢;obtain ⟨vs, h1, h2⟩ := hv;exact ⟨vs, h1, h.rel hi hO h2⟩
 | @pa _ l cs h =>
  simp only [aQ] at hv ⊢;obtain ⟨vs, h1, h2⟩ := hv;exact ⟨vs, h1, h.rel hi hO h2.toR⟩
def cG : List Operand → List Nat
 | [] => []
 | x :: xs => opr x ++ cG xs
theorem ArgsV.rel {G : Ctx} {n : Nat} {S : Sto} {μ : Mu} {st st' : St} {a : Act} {w : World} (hs : Sim G n S μ st' a w) : ∀ {ids : List Nat} {xs : List Operand} {vs : List V}, ArgsV st ids xs vs → (∀ t ∈ cG xs, st'.e t = st.e t) → (∀ i ∈ ids, st'.h i = st.h i) → bO S μ st'.h vs (xs.map a.eval) := by
 intro ids xs vs h
 induction h with
 | nil => intro _ _; simp [bO]
 | cons hx hc _ ih =>
  intro ht hi;simp only [map_cons, bO];refine ⟨_, _, rfl, ?_, ih (fun t h => ht t (by simp [cG, h])) fun i h => hi i (by simp [h])⟩;exact hc.rel (fun i h => hi i (by simp [h])) hs.inv.obj (aH hs hx fun t h => ht t (by simp [cG, h]))
theorem Inv.hand {G : Ctx} {S : Sto} {μ : Mu} {H : cH} {w : World} {hin : List (Nat × AObj)} (h : Inv G S μ H w) (hh : ∀ id o, look hin id = some o → H id = some o ∧ o ≠ .dead) (hc : subset (eS hin) (hin.map (·.1)) = true) :
  Inv ⟨w, S, nL μ (look hin), μ, look hin⟩ S μ (look hin) w := by
 have hgood : ∀ i ∈ hin.map (·.1), Good H (look hin) (fun i => i) i := by
  intro i hi;obtain ⟨o, ho⟩ := dU hi;obtain ⟨h1, h2⟩ := hh i o ho;exact ⟨o, o, h1, ho, .refl_id h2⟩
 refine ⟨h.holds, fun id o ho => ?_, fun i j o o' b c c' hi hj hm hm' => h.inj i j o o' b c c' (hh _ _ hi).1 (hh _ _ hj).1 hm hm', fun i o b c hi hm => .inr ⟨i, o, c, hi, hm⟩, FrameW.refl _ _ ⟨h.frame.tabAt, fun g hg => ?_⟩, S.le_refl, fun b _ _ => ⟨fun _ => rfl, rfl⟩, Evolve.refl _ _ _, h.fre⟩
 ·obtain ⟨h1, h2⟩ := hh id o ho;exact (h.obj id o h1).ren (.refl_id h2) fun i hi => hgood i (c9 hc i (gI (bW ho) i hi))
 ·rintro ⟨i, o, c, h1, h2⟩;have h3 := (h.frame.tab.1 g hg).1
  rcases h.own i o g c (hh i o h1).1 h2 with h4 | h4
  ·omega
  ·exact h.frame.tab.2 g hg h4
def outs (l : List (Nat × AObj)) : List (Nat × Option AObj) := l.map fun p => (p.1, some p.2)
theorem rL : ∀ (l : List (Nat × AObj)) (i : Nat), look (outs l) i = (look l i).map some
 | [], _ => rfl
 | (k, o) :: l, i => by
  simp only [outs, map_cons, look];cases Nat.beq i k
  ·have := rL l i;unfold outs at this;simpa using this
  ·rfl
theorem mE (H : cH) (l : List (Nat × AObj)) (i : Nat) : jD H (outs l) i = match look l i with | some o => some o | none => H i := by
 simp only [jD, rL];cases look l i <;> rfl
theorem Inv.back {G : Ctx} {S S' : Sto} {μ μ' : Mu} {H : cH} {w w' : World} {hin hout : List (Nat × AObj)} (h : Inv G S μ H w) (hh : ∀ id o, look hin id = some o → H id = some o)
  (hnew : ∀ id o, look hout id = some o → (∃ o', look hin id = some o') ∨ H id = none)
  (h' : Inv ⟨w, S, nL μ (look hin), μ, look hin⟩ S' μ' (look hout) w') :
  ∃ μ2 : Mu, (∀ id o, look hout id = some o → μ2 id = μ' id) ∧ Inv G S' μ2 (jD H (outs hout)) w' ∧ Evolve S μ H S' μ2 (jD H (outs hout)) ∧ Evolve S' μ' (look hout) S' μ2 (jD H (outs hout)) := by
 have hE : Evolve S μ (look hin) S' μ' (look hout) := h'.evo
 let μ2 : Mu := fun id => match look hout id with | some _ => μ' id | none => μ id
 have hμ1 : ∀ id o, look hout id = some o → μ2 id = μ' id := fun id o ho => by simp only [μ2, ho]
 have hμ2 : ∀ id, look hout id = none → μ2 id = μ id := fun id ho => by simp only [μ2, ho]
 have hH1 : ∀ id o, look hout id = some o → jD H (outs hout) id = some o := fun id o ho => by rw [mE, ho]
 have hH2 : ∀ id, look hout id = none → jD H (outs hout) id = H id := fun id ho => by rw [mE, ho]
 have hin_out : ∀ id o, look hin id = some o → ∃ o', look hout id = some o' := fun id o ho => by
  obtain ⟨o', h1, _⟩ := hE.obj id o ho;exact ⟨o', h1⟩
 have hE1 : Evolve S μ H S' μ2 (jD H (outs hout)) := by
  refine ⟨hE.le, fun id o ho => ?_⟩;cases hq : look hout id with
  | none => exact ⟨o, by rw [hH2 id hq, ho], o.succ_refl (hμ2 id hq)⟩
  | some o2 =>
   rcases hnew id o2 hq with ⟨o', hi⟩ | hi
   ·have := hh id o' hi;rw [ho] at this; cases this;obtain ⟨o3, h1, h2⟩ := hE.obj id o hi;rw [hq] at h1; cases h1;exact ⟨o2, hH1 id o2 hq, by rw [hμ1 id o2 hq]; exact h2⟩
   ·rw [ho] at hi; cases hi
 have hE2 : Evolve S' μ' (look hout) S' μ2 (jD H (outs hout)) := ⟨S'.le_refl, fun id o ho => ⟨o, hH1 id o ho, o.succ_refl (hμ1 id o ho)⟩⟩
 have hrest : ∀ id o, H id = some o → look hout id = none → ∀ b c, μ id = some (b, c) → b < w.heap.size ∧ ¬ nL μ (look hin) b := by
  intro id o ho hq b c hm;refine ⟨(h.obj id o ho).lt hm, ?_⟩;rintro ⟨id', o', c', h1, h2⟩;have := h.inj id id' o o' b c c' ho (hh _ _ h1) hm h2;subst this;obtain ⟨o2, h3⟩ := hin_out id o' h1;rw [hq] at h3; cases h3
 have hblock : ∀ id o b c, look hout id = some o → μ' id = some (b, c) → w.heap.size ≤ b ∨ nL μ (look hin) b := fun id o b c ho hm => h'.own id o b c ho hm
 refine ⟨μ2, hμ1, ⟨h'.holds, fun id o ho => ?_, fun i j o o' b c c' hi hj hm hm' => ?_, fun i o b c hi hm => ?_, ?_, Sto.le_trans h.sle hE.le, fun b hb hF => ?_, h.evo.trans hE1, h'.fre⟩, hE1, hE2⟩
 ·cases hq : look hout id with
  | some o2 =>
   rw [hH1 id o2 hq] at ho; cases ho;exact (h'.obj id _ hq).evolve hE2 (hμ1 id _ hq) fun b c hm => ⟨rfl, fun _ => rfl, rfl⟩
  | none =>
   rw [hH2 id hq] at ho;refine (h.obj id o ho).evolve hE1 (hμ2 id hq) fun b c hm => ?_
   obtain ⟨h1, h2⟩ := hrest id o ho hq b c hm;exact ⟨h'.frame.block b h1 h2, (h'.sto b h1 h2).1, (h'.sto b h1 h2).2⟩
 ·cases hqi : look hout i with
  | some oi =>
   rw [hμ1 i oi hqi] at hm;cases hqj : look hout j with
   | some oj =>
    rw [hμ1 j oj hqj] at hm';exact h'.inj i j oi oj b c c' hqi hqj hm hm'
   | none =>
    rw [hμ2 j hqj] at hm';rw [hH2 j hqj] at hj;obtain ⟨h1, h2⟩ := hrest j o' hj hqj b c' hm';rcases hblock i oi b c hqi hm with h3 | h3
    ·omega
    ·exact absurd h3 h2
  | none =>
   rw [hμ2 i hqi] at hm;rw [hH2 i hqi] at hi;obtain ⟨h1, h2⟩ := hrest i o hi hqi b c hm;cases hqj : look hout j with
   | some oj =>
    rw [hμ1 j oj hqj] at hm';rcases hblock j oj b c' hqj hm' with h3 | h3
    ·omega
    ·exact absurd h3 h2
   | none =>
    rw [hμ2 j hqj] at hm';rw [hH2 j hqj] at hj;exact h.inj i j o o' b c c' hi hj hm hm'
 ·cases hq : look hout i with
  | some o2 =>
   rw [hμ1 i o2 hq] at hm;rcases hblock i o2 b c hq hm with h3 | ⟨id', o', c', h3, h4⟩
   ·exact .inl (le_trans h.frame.size h3)
   ·exact h.own id' o' b c' (hh _ _ h3) h4
  | none =>
   rw [hμ2 i hq] at hm;rw [hH2 i hq] at hi;exact h.own i o b c hi hm
 ·refine ⟨h'.frame.os.trans h.frame.os, h'.frame.tape.trans h.frame.tape, h'.frame.output.trans h.frame.output, le_trans h.frame.size h'.frame.size, fun k hk hF => ?_, h.frame.tab⟩;rw [h'.frame.block k (lt_of_lt_of_le hk h.frame.size) ?_, h.frame.block k hk hF];rintro ⟨id', o', c', h3, h4⟩;rcases h.own id' o' k c' (hh _ _ h3) h4 with h5 | h5
  ·omega
  ·exact hF h5
 ·have hnf : ¬ nL μ (look hin) b := by
   rintro ⟨id', o', c', h3, h4⟩;rcases h.own id' o' b c' (hh _ _ h3) h4 with h5 | h5
   ·omega
   ·exact hF h5
  have h1 := h'.sto b (lt_of_lt_of_le hb h.frame.size) hnf;have h2 := h.sto b hb hF;exact ⟨fun o => (h1.1 o).trans (h2.1 o), h1.2.trans h2.2⟩
section
variable {P : Program} {n : Nat} {o : Oper} {st : St} {d : Nat}
def keys {α : Type} (l : List (Nat × α)) : List Nat := l.map (·.1)
theorem rX {w : World} {S : Sto} {F : Nat → Prop} {μ : Mu} {hin : List (Nat × AObj)} : Ctx.keeps ⟨w, S, F, μ, look hin⟩ (keys hin) :=
 ⟨fun id o ho => mem_map.2 ⟨_, bW ho, rfl⟩, fun h1 h2 => by
  obtain ⟨o, ho⟩ := dU h1;rw [show look hin 997 = none from h2] at ho
  cases ho⟩
def AObj.live : AObj → Bool
 | .dead => false
 | _ => true
def callOk (args : List V) (hin : List (Nat × AObj)) : Bool := subset (V.refsL args) (keys hin) && subset (eS hin) (keys hin) && (hin.all fun p => p.2.live)
theorem Step.call {f : FuncId} {ids slots : List Nat} {args : List V} {hin hout : List (Nat × AObj)} {res : V} (hd : o.dst = some d) (hdn : d < n) (hf : bN P f args hin res hout)
  (hin' : fU (fun p => st.h p.1 = some p.2) hin) (hout' : fU (fun p => p.1 ∈ keys hin ∨ st.h p.1 = none) hout) (hok : callOk args hin = true)
  (hrun : ∀ st', lD ⟨slots, ids ++ keys hin ++ keys hout⟩ st st' → ∀ G S μ a w, Sim G n S μ st' a w → ∃ vals, (execOp a.eval o).run P w = .ok (.enter f ⟨vals⟩) w ∧ bO S μ st'.h args vals) :
  Step P n o st ⟨slots, ids ++ keys hin ++ keys hout⟩ ⟨some (d, some res), outs hout⟩ := by
 intro st' ha G S μ a w K Q hs hk;obtain ⟨vals, hr, hv⟩ := hrun st' ha G S μ a w hs;simp only [callOk, Bool.and_eq_true] at hok;obtain ⟨⟨k1, k2⟩, k3⟩ := hok;have hh : ∀ id o, look hin id = some o → st'.h id = some o ∧ o ≠ .dead := by
  intro id o ho;have hm := bW ho;have h1 := hin'.mem _ hm;refine ⟨by rw [ha.2 id (by simp only [mem_append]; exact .inl (.inr (mem_map.2 ⟨_, hm, rfl⟩)))]; exact h1, ?_⟩;have := (all_eq_true.1 k3) _ hm;rintro rfl;simp [AObj.live] at this
 have hnew : ∀ id o, look hout id = some o → (∃ o', look hin id = some o') ∨ st'.h id = none := by
  intro id o ho;have hm := bW ho;rcases hout'.mem _ hm with h1 | h1
  ·exact .inl (dU h1)
  ·exact .inr (by rw [ha.2 id (by simp only [mem_append]; exact .inr (mem_map.2 ⟨_, hm, rfl⟩))]; exact h1)
 have hI := hs.inv.hand hh k2;have hgood : ∀ i ∈ keys hin, Good st'.h (look hin) (fun i => i) i := by
  intro i hi;obtain ⟨o, ho⟩ := dU hi;obtain ⟨h1, h2⟩ := hh i o ho;exact ⟨o, o, h1, ho, .refl_id h2⟩
 have hv' : bO S μ (look hin) args vals := by
  have := bO.ren (H := st'.h) (H' := look hin) (σ := fun i => i) args vals (fun i hi => hgood i (c9 k1 i hi)) (by rw [V.renL_id]; exact hv);exact this
 have hc := hf S μ w vals hI hv';refine fun ro => oU hr ?_
 refine hc.mono fun e w' ⟨S', μ', v, he, hI', hres⟩ => ?_
 subst he;obtain ⟨μ2, q1, q2, q3, q4⟩ := hs.inv.back (fun id o ho => (hh id o ho).1) hnew hI';show K (a.put o.dst v) w';rw [hd];refine hk S' μ2 _ _ ?_;exact hs.put q2 q3 hdn (x := some res) fun z hz => by cases hz; exact aQ.evolve q4 _ _ hres
def kC (P : Program) (f : FuncId) : Prop := ∃ fn, P.funcs[f]? = some fn ∧ (fn.name == "runtime.NumGoroutine") = false ∧ fn.body.isNone = false
theorem i5 {f : FuncId} (hb : kC P f) (args : Array Value) (w : World) : (callFunc f args).run P w = .ok (.enter f args) w := by
 obtain ⟨fn, h1, h2, h3⟩ := hb;have hp : (program : Sem Program).run P w = .ok P w := rfl;simp only [callFunc, Sem.run_bind, hp, Result.andThen_ok, h1, h2, h3, Bool.false_eq_true, if_false, Sem.run_pure]
theorem zF {f : FuncId} {xs : Array Operand} {ts : Array TypeId} {ids : List Nat} {args : List V} {res : V} (hin hout : List (Nat × AObj)) (hb : kC P f) (ho : o.op = .call { callee := .value (.func f), args := xs, argTypes := ts }) (hd : o.dst = some d) (hdn : d < n)
  (hf : bN P f args hin res hout) (ha : ArgsV st ids xs.toList args) (hin' : fU (fun p => st.h p.1 = some p.2) hin) (hout' : fU (fun p => p.1 ∈ keys hin ∨ st.h p.1 = none) hout) (hok : callOk args hin = true) :
  Step P n o st ⟨cG xs.toList, ids ++ keys hin ++ keys hout⟩ ⟨some (d, some res), outs hout⟩ := by
 refine Step.call hd hdn hf hin' hout' hok fun st' hag G S μ a w hs => ⟨xs.toList.map a.eval, ?_, ha.rel hs hag.1 fun i h => hag.2 i (by simp [h])⟩
 simp only [execOp, ho, resolve, Deferred.ofValue, Act.eval, Sem.run_bind, Sem.run_pure, Result.andThen_ok, invoke, i5 hb];congr 2;apply Array.ext';simp
theorem aE9 {f : FuncId} {x : Operand} {caps : List R} {xs : Array Operand} {ts : Array TypeId} {ids : List Nat} {args : List V} {res : V} (hin hout : List (Nat × AObj)) (hb : kC P f) (ho : o.op = .call { callee := .value x, args := xs, argTypes := ts }) (hd : o.dst = some d) (hdn : d < n)
  (hx : opv st x = some (.one (.clo f caps))) (hf : bN P f (args ++ caps.map V.one) hin res hout) (ha : ArgsV st ids xs.toList args) (hin' : fU (fun p => st.h p.1 = some p.2) hin) (hout' : fU (fun p => p.1 ∈ keys hin ∨ st.h p.1 = none) hout) (hok : callOk (args ++ caps.map V.one) hin = true) :
  Step P n o st ⟨opr x ++ cG xs.toList, ids ++ keys hin ++ keys hout⟩ ⟨some (d, some res), outs hout⟩ := by
 refine Step.call hd hdn hf hin' hout' hok fun st' hag G S μ a w hs => ?_
 have hv := aH hs hx fun t ht => hag.1 t (by simp [ht])
 simp only [aQ, b5] at hv;obtain ⟨vs, h1, h2⟩ := hv;refine ⟨xs.toList.map a.eval ++ vs, ?_, ?_⟩
 ·simp only [execOp, ho, resolve, h1, Deferred.ofValue, Sem.run_bind, Sem.run_pure, Result.andThen_ok, invoke, i5 hb];congr 2;apply Array.ext';simp
 ·have hap : ∀ (l : List V) (us : List Value) (rs : List R) (vs : List Value), bO S μ st'.h l us → aO S μ st'.h rs vs → bO S μ st'.h (l ++ rs.map V.one) (us ++ vs) := by
   intro l
   induction l with
   | nil =>
    intro us rs vs h k;simp only [bO] at h;subst h;simp only [nil_append]
    induction rs generalizing vs with
    | nil => simp only [aO] at k; subst k; simp [bO]
    | cons r rs ih =>
     simp only [aO] at k;obtain ⟨v, vs', rfl, k1, k2⟩ := k;simp only [map_cons, bO];exact ⟨v, vs', rfl, by simpa [aQ] using k1, ih vs' k2⟩
   | cons x l ih =>
    intro us rs vs h k;simp only [bO] at h;obtain ⟨v, vs', rfl, k1, k2⟩ := h;simp only [cons_append, bO];exact ⟨v, _, rfl, k1, ih vs' rs vs k2 k⟩
  exact hap _ _ _ _ (ha.rel hs (fun t ht => hag.1 t (by simp [ht])) fun i h => hag.2 i (by simp [h])) h2
theorem aFa {f : FuncId} {x : Operand} {recv : R} {xs : Array Operand} {ts : Array TypeId} {ids : List Nat} {args : List V} {res : V} (hin hout : List (Nat × AObj)) (hb : kC P f) (ho : o.op = .call { callee := .value x, args := xs, argTypes := ts }) (hd : o.dst = some d) (hdn : d < n)
  (hx : opv st x = some (.one (.mth f recv))) (hf : bN P f (.one recv :: args) hin res hout) (ha : ArgsV st ids xs.toList args) (hin' : fU (fun p => st.h p.1 = some p.2) hin) (hout' : fU (fun p => p.1 ∈ keys hin ∨ st.h p.1 = none) hout) (hok : callOk (.one recv :: args) hin = true) :
  Step P n o st ⟨opr x ++ cG xs.toList, ids ++ keys hin ++ keys hout⟩ ⟨some (d, some res), outs hout⟩ := by
 refine Step.call hd hdn hf hin' hout' hok fun st' hag G S μ a w hs => ?_
 have hv := aH hs hx fun t ht => hag.1 t (by simp [ht])
 simp only [aQ, b5] at hv;obtain ⟨u, h1, h2⟩ := hv;refine ⟨u :: xs.toList.map a.eval, ?_, ?_⟩
 ·simp only [execOp, ho, resolve, h1, Deferred.ofValue, Sem.run_bind, Sem.run_pure, Result.andThen_ok, invoke, i5 hb];congr 2;apply Array.ext';simp
 ·simp only [bO, aQ];exact ⟨u, _, rfl, h2, ha.rel hs (fun t ht => hag.1 t (by simp [ht])) fun i h => hag.2 i (by simp [h])⟩
end
theorem Sim.freeze {G : Ctx} {n : Nat} {S : Sto} {μ : Mu} {a : Act} {w : World} {st : St} {id te es : Nat} {elems : List (List C)} {fz : Nat} (h : st.h id = some (.arr te es elems fz)) (hs : Sim G n S μ st a w) : ∃ S' μ', Sim G n S' μ' ⟨st.e, upd st.h id (some (.arr te es elems 2)), st.d⟩ a w := by
 have hO := hs.inv.obj id _ h
 have hE0 : ∀ S', S.le S' → Evolve S μ st.h S' μ (upd st.h id (some (.arr te es elems 2))) := fun S' hle => ⟨hle, fun j x hj => by
  by_cases hne : j = id
  ·subst hne;rw [h] at hj; cases hj;exact ⟨_, aC _ _ _, by simp [AObj.succ]⟩
  ·exact ⟨x, by rw [aT _ _ _ hne]; exact hj, x.succ_refl rfl⟩⟩
 have hold : ∀ j x, upd st.h id (some (.arr te es elems 2)) j = some x → ∃ x', st.h j = some x' := fun j x hj => by
  by_cases hne : j = id
  ·subst hne; exact ⟨_, h⟩
  ·rw [aT _ _ _ hne] at hj; exact ⟨_, hj⟩
 obtain ⟨h1, h2, h3, h4, h5, h6, h7, h8, hfr⟩ := hs.inv;obtain ⟨g0, ⟨g1, g2⟩ | ⟨b, base, cap, vs, g1, g2, g3, g4, g5, g6, g7, g8, g9⟩⟩ := hO
 ·-- no block yet
  have hE := hE0 S S.le_refl;refine ⟨S, μ, ⟨h1, fun j x hj => ?_, fun i j x x' b c c' hi hj hm hm' => ?_, fun i x b c hi hm => ?_, h5, h6, h7, h8.trans hE, hfr⟩, hs.size, hs.defers.evolve hE, fun t v e => aQ.evolve hE v _ (hs.env t v e)⟩
  ·by_cases hne : j = id
   ·subst hne;have hj' : some (AObj.arr te es elems 2) = some x := by rw [← hj]; exact (aC _ _ _).symm
    cases hj';exact ⟨g0, .inl ⟨g1, g2⟩⟩
   ·have hj' : st.h j = some x := by rw [← hj]; exact (aT _ _ _ hne).symm
    exact (h2 j x hj').evolve hE rfl fun _ _ _ => ⟨rfl, fun _ => rfl, rfl⟩
  ·obtain ⟨_, hi'⟩ := hold _ _ hi;obtain ⟨_, hj'⟩ := hold _ _ hj;exact h3 i j _ _ b c c' hi' hj' hm hm'
  ·obtain ⟨_, hi'⟩ := hold _ _ hi;exact h4 i _ b c hi' hm
 ·let S' : Sto := ⟨fun b' o => if b' = b ∧ base ≤ o ∧ o < base + elems.length * es then vs[o]? else S.cell b' o, S.mapo⟩
  have hcell : ∀ o v, S.cell b o = some v → vs[o]? = some v := fun o v e => by
   obtain ⟨vs0, t0, fr0, p1, p2⟩ := h1.1 b o v e;rw [g2] at p1; cases p1;simpa using p2
  have hle : S.le S' := ⟨fun b' o v e => by
   show (if b' = b ∧ base ≤ o ∧ o < base + elems.length * es then vs[o]? else S.cell b' o) = some v;by_cases hc : b' = b ∧ base ≤ o ∧ o < base + elems.length * es
   ·rw [if_pos hc];obtain ⟨rfl, _⟩ := hc;exact hcell o v e
   ·rw [if_neg hc]; exact e, fun b' m e => ⟨m, e, m.le_refl⟩⟩
  have hE := hE0 S' hle;have hsame : ∀ b' o, b' ≠ b → S'.cell b' o = S.cell b' o := fun b' o hne => if_neg fun hc => hne hc.1
  refine ⟨S', μ, ⟨⟨fun b' o v e => ?_, h1.2⟩, fun j x hj => ?_, fun i j x x' b c c' hi hj hm hm' => ?_, fun i x b c hi hm => ?_, h5, Sto.le_trans h6 hle, fun b' hb hF => ?_, h8.trans hE, fun b' te' lo hi e o ho => (hsame b' o fun eb => by rw [eb] at e; have e : S.mapo b = _ := e; rw [g5.2] at e; cases e).trans (hfr b' te' lo hi e o ho)⟩, hs.size, hs.defers.evolve hE, fun t v e => aQ.evolve hE v _ (hs.env t v e)⟩
  ·by_cases hc : b' = b ∧ base ≤ o ∧ o < base + elems.length * es
   ·have e' : vs[o]? = some v := by rw [← e]; exact (if_pos hc).symm
    obtain ⟨rfl, _⟩ := hc;exact ⟨⟨vs⟩, te, (0, 0), g2, by simpa using e'⟩
   ·have e' : S.cell b' o = some v := by rw [← e]; exact (if_neg hc).symm
    exact h1.1 b' o v e'
  ·by_cases hne : j = id
   ·subst hne;have hj' : some (AObj.arr te es elems 2) = some x := by rw [← hj]; exact (aC _ _ _).symm
    cases hj';refine ⟨g0, .inr ⟨b, base, cap, vs, g1, g2, g3, g4, g5, bR.mono hle _ _ g6, (fun e => by cases e), fun o ho => ?_, fun _ i v hi => ?_⟩⟩
    ·show (if b = b ∧ base ≤ o ∧ o < base + elems.length * es then vs[o]? else S.cell b o) = none;rw [if_neg (by omega)];exact g8 o ho
    ·rw [List.getElem?_take] at hi;split at hi
     ·rw [List.getElem?_drop] at hi;show (if b = b ∧ base ≤ base + i ∧ base + i < base + elems.length * es then vs[base + i]? else S.cell b (base + i)) = some v;rw [if_pos ⟨rfl, by omega, by omega⟩];exact hi
     ·cases hi
   ·have hj' : st.h j = some x := by rw [← hj]; exact (aT _ _ _ hne).symm
    refine (h2 j x hj').evolve hE rfl fun b' c' hm => ⟨rfl, fun o => hsame b' o ?_, rfl⟩
    rintro rfl;exact hne (h3 j id x _ b' c' _ hj' h hm g1)
  ·obtain ⟨_, hi'⟩ := hold _ _ hi;obtain ⟨_, hj'⟩ := hold _ _ hj;exact h3 i j _ _ b c c' hi' hj' hm hm'
  ·obtain ⟨_, hi'⟩ := hold _ _ hi;exact h4 i _ b c hi' hm
  ·have hne : b' ≠ b := by
    rintro rfl;rcases h4 id _ b' _ h g1 with h9 | h9
    ·omega
    ·exact hF h9
   exact ⟨fun o => (hsame b' o hne).trans ((h7 b' hb hF).1 o), (h7 b' hb hF).2⟩
theorem Sub.freeze {kf : List Nat} {st : St} {id te es : Nat} {elems : List (List C)} {fz : Nat} (h : st.h id = some (.arr te es elems fz)) : Sub kf ⟨st.e, upd st.h id (some (.arr te es elems 2)), st.d⟩ st :=
 fun _ _ _ _ _ _ _ hs => hs.freeze h
theorem Inv.empty {G : Ctx} {S : Sto} {μ : Mu} {H : cH} {w : World} {id : Nat} (te es : Nat) (h : Inv G S μ H w) (hid : H id = none) : Inv G S (upd μ id none) (upd H id (some (.arr te es [] 0))) w ∧ Evolve S μ H S (upd μ id none) (upd H id (some (.arr te es [] 0))) := by
 have hE : Evolve S μ H S (upd μ id none) (upd H id (some (.arr te es [] 0))) := eB hid _ _;refine ⟨⟨h.holds, fun j x hj => ?_, fun i j x x' b c c' hi hj hm hm' => ?_, fun i x b c hi hm => ?_, h.frame, h.sle, h.sto, h.evo.trans hE, h.fre⟩, hE⟩
 ·by_cases hne : j = id
  ·subst hne;rw [aC] at hj; cases hj;exact ⟨by simp, .inl ⟨aC _ _ _, rfl⟩⟩
  ·rw [aT _ _ _ hne] at hj;exact (h.obj j x hj).evolve hE (aT _ _ _ hne) fun _ _ _ => ⟨rfl, fun _ => rfl, rfl⟩
 ·have h1 : i ≠ id := fun e => by subst e; rw [aC] at hm; cases hm
  have h2 : j ≠ id := fun e => by subst e; rw [aC] at hm'; cases hm'
  rw [aT _ _ _ h1] at hi hm;rw [aT _ _ _ h2] at hj hm';exact h.inj i j x x' b c c' hi hj hm hm'
 ·have h1 : i ≠ id := fun e => by subst e; rw [aC] at hm; cases hm
  rw [aT _ _ _ h1] at hi hm;exact h.own i x b c hi hm
theorem Sub.own {kf : List Nat} {st : St} {t id : Nat} (te es : Nat) (h : st.e t = some (.one (.c .nl))) (hid : st.h id = none) : Sub kf ⟨upd st.e t (some (.one (.hs id 0 0 0))), upd st.h id (some (.arr te es [] 0)), st.d⟩ st := by
 intro G n S μ a w _ hs;obtain ⟨hi, hE⟩ := hs.inv.empty te es hid;refine ⟨S, upd μ id none, ⟨hi, hs.size, hs.defers.evolve hE, fun s v e => ?_⟩⟩;by_cases hst : s = t
 ·subst hst;have hv := hs.env s _ h;have e' : v = .one (.hs id 0 0 0) := by
   have : some v = some (V.one (.hs id 0 0 0)) := by rw [← e]; exact aC _ _ _
   cases this; rfl
  subst e';simp only [aQ, b5, Rep] at hv ⊢;exact ⟨⟨_, _, _, hv⟩, .inr ⟨te, es, [], 0, aC _ _ _, le_refl _, fun _ => ⟨le_refl _, .inl ⟨aC _ _ _, rfl, hv⟩⟩⟩⟩
 ·have e' : st.e s = some v := by rw [← e]; exact (aT _ _ _ hst).symm
  exact aQ.evolve hE v _ (hs.env s v e')
theorem Sub.ownCell {kf : List Nat} {st : St} {x k id tv : Nat} {cells : List R} (te es : Nat) (h : st.h x = some (.var tv cells)) (hk : cells[k]? = some (.c .nl)) (hid : st.h id = none) :
  Sub kf ⟨st.e, upd (upd st.h id (some (.arr te es [] 0))) x (some (.var tv (cells.set k (.hs id 0 0 0)))), st.d⟩ st := by
 intro G n S μ a w _ hs;obtain ⟨hi, hE⟩ := hs.inv.empty te es hid;have hne : x ≠ id := fun e => by subst e; rw [h] at hid; cases hid
 have hx : upd st.h id (some (.arr te es [] 0)) x = some (.var tv cells) := by rw [aT _ _ _ hne]; exact h
 obtain ⟨b, vs, g1, g2, g3, g4⟩ := hi.obj x _ hx
 have hE2 : Evolve S (upd μ id none) (upd st.h id (some (.arr te es [] 0))) S (upd μ id none) (upd (upd st.h id (some (.arr te es [] 0))) x (some (.var tv (cells.set k (.hs id 0 0 0))))) := ⟨S.le_refl, fun j y hj => by
  by_cases hjx : j = x
  ·subst hjx;rw [hx] at hj; cases hj;exact ⟨_, aC _ _ _, by simp [AObj.succ]⟩
  ·exact ⟨y, by rw [aT _ _ _ hjx]; exact hj, y.succ_refl rfl⟩⟩
 have hold : ∀ j y, upd (upd st.h id (some (.arr te es [] 0))) x (some (.var tv (cells.set k (.hs id 0 0 0)))) j = some y → ∃ y', upd st.h id (some (.arr te es [] 0)) j = some y' := fun j y hj => by
  by_cases hjx : j = x
  ·subst hjx; exact ⟨_, hx⟩
  ·rw [aT _ _ _ hjx] at hj; exact ⟨_, hj⟩
 refine ⟨S, upd μ id none, ⟨⟨hi.holds, fun j y hj => ?_, fun i j y y' b c c' hi' hj hm hm' => ?_, fun i y b c hi' hm => ?_, hi.frame, hi.sle, hi.sto, hi.evo.trans hE2, hi.fre⟩, hs.size, hs.defers.evolve (hE.trans hE2), fun s v e => aQ.evolve (hE.trans hE2) v _ (hs.env s v e)⟩⟩
 ·by_cases hjx : j = x
  ·subst hjx;have hj' : some (AObj.var tv (cells.set k (.hs id 0 0 0))) = some y := by rw [← hj]; exact (aC _ _ _).symm
   cases hj';refine ⟨b, vs, g1, g2, ?_, g4⟩;have h3 := aO.evolve hE2 _ _ g3;obtain ⟨u, hu, hru⟩ := g3.get k _ hk;simp only [b5, Rep] at hru;have hkl : k < cells.length := (List.getElem?_eq_some_iff.1 hk).1
   have hsplit : cells.set k (.hs id 0 0 0) = bU cells k [.hs id 0 0 0] := by
    unfold bU;rw [set_eq_take_append_cons_drop, if_pos hkl];simp
   have hvl := g3.length;have hvs : vs = bU vs k [u] := by
    unfold bU;apply List.ext_getElem?;intro i;simp only [List.getElem?_append, length_append, length_take, length_cons, length_nil, List.getElem?_take, List.getElem?_drop];have hm : min k vs.length = k := by omega
    rw [hm];by_cases c1 : i < k
    ·simp [c1, show i < k + 1 by omega]
    ·by_cases c2 : i = k
     ·subst c2; simp [hu]
     ·simp [show ¬ i < k + 1 by omega, show k + 1 + (i - (k + 1)) = i by omega]
   rw [hsplit] at h3 ⊢;rw [hvs];refine nT h3 ?_;simp only [aO, b5];exact ⟨u, [], rfl, ⟨⟨_, _, _, hru⟩, .inr ⟨te, es, [], 0, by rw [aT _ _ _ hne.symm]; exact aC _ _ _, le_refl _, fun _ => ⟨le_refl _, .inl ⟨aC _ _ _, rfl, hru⟩⟩⟩⟩, rfl⟩
  ·have hj' : upd st.h id (some (.arr te es [] 0)) j = some y := by rw [← hj]; exact (aT _ _ _ hjx).symm
   exact (hi.obj j y hj').evolve hE2 rfl fun _ _ _ => ⟨rfl, fun _ => rfl, rfl⟩
 ·obtain ⟨_, h1⟩ := hold _ _ hi';obtain ⟨_, h2⟩ := hold _ _ hj;exact hi.inj i j _ _ b c c' h1 h2 hm hm'
 ·obtain ⟨_, h1⟩ := hold _ _ hi';exact hi.own i _ b c h1 hm
def aGa : Nat → List V → List (Nat × V)
 | _, [] => []
 | k, v :: vs => (k, v) :: aGa (k + 1) vs
inductive ResV (T : TT) (st : St) : List ResultVar → List V → Prop
 | nil : ResV T st [] []
 | tmp {t v rs vs} : st.e t = some v → ResV T st rs vs → ResV T st (.tmp t :: rs) (v :: vs)
 | cell {a t i id off tv cells v rs vs} : st.e a = some (.one (.vp id off)) → T[t]? = some (some i) → st.h id = some (.var tv cells) → Nat.ble (off + i.size) cells.length = true → nO i ((cells.drop off).take i.size) = some v → ResV T st rs vs →
   ResV T st (.cell a t :: rs) (v :: vs)
inductive Convs (h : cH) : List V → List V → Prop
 | nil : Convs h [] []
 | cons {ids v v' vs vs'} : Conv h ids v v' → Convs h vs vs' → Convs h (v :: vs) (v' :: vs')
def aDu : List Value → Value
 | [u] => u
 | us => .tuple ⟨us⟩
def yJ : List V → V
 | [v] => v
 | vs => .tup vs
theorem Convs.rel {S : Sto} {μ : Mu} {H : cH} {w : World} : ∀ {vs vs' : List V} {us : List Value}, Convs H vs vs' → (∀ id o, H id = some o → j6 S μ H w id o) → bO S μ H vs us → bO S μ H vs' us := by
 intro vs vs' us h
 induction h generalizing us with
 | nil => intro _ hv; exact hv
 | cons hc _ ih =>
  intro hO hv;simp only [bO] at hv ⊢;obtain ⟨v, us', rfl, h1, h2⟩ := hv;exact ⟨v, us', rfl, hc.rel (fun _ _ => rfl) hO h1, ih hO h2⟩
section
variable {P : Program} {T : TT}
theorem lN {G : Ctx} {n : Nat} {S : Sto} {μ : Mu} {st : St} {a : Act} {w : World} (hT : Tok P T) (hs : Sim G n S μ st a w) : ∀ {rs : List ResultVar} {vs : List V}, ResV T st rs vs →
  ∃ us, (rs.mapM fun (x : ResultVar) => (match x with | .tmp t => pure (a.tmps.getD t undef) | .cell p t => do loadVar t (← asAddr (a.tmps.getD p undef)) : Sem Value)).run P w = .ok us w ∧ bO S μ st.h vs us := by
 intro rs vs h
 induction h with
 | nil => exact ⟨[], by simp, by simp [bO]⟩
 | @tmp t v rs vs ht _ ih =>
  obtain ⟨us, h1, h2⟩ := ih;refine ⟨a.tmps.getD t undef :: us, ?_, ?_⟩
  ·simp only [mapM_cons, Sem.run_bind, Sem.run_pure, Result.andThen_ok, h1]
  ·simp only [bO];exact ⟨_, _, rfl, hs.env _ _ ht, h2⟩
 | @cell p t i id off tv cells v rs vs ht hi hh hb hl _ ih =>
  obtain ⟨us, h1, h2⟩ := ih;have hv := hs.env _ _ ht;simp only [aQ, b5] at hv;obtain ⟨t', cells', b, c, g1, g2, g3⟩ := hv;obtain ⟨b', ws, q1, q2, q3, q4⟩ := hs.inv.obj id _ hh;rw [q1] at g2; cases g2;have hlen := le_of_ble_eq_true hb;have hvl := q3.length;have hld := run_load (hT.get hi) w b off _ (gU q2 off i.size) (aI4 (by omega));have hres := iH ((q3.drop off).take i.size) hl;generalize (if i.k.agg then Value.agg ⟨(ws.drop off).take i.size⟩ else ((ws.drop off).take i.size).headD undef) = u at hld hres;refine ⟨u :: us, ?_, by simp only [bO]; exact ⟨_, _, rfl, hres, h2⟩⟩
  ·simp only [Instr.loadAt, Instr.sureAddr, Sem.run_bind, Sem.run_pure, Result.andThen_ok] at hld;have hA : (asAddr (a.tmps.getD p undef)).run P w = .ok ⟨b, off, none⟩ w := by rw [g3]; rfl
   simp only [mapM_cons, Sem.run_bind, Sem.run_pure, Result.andThen_ok, hA, hld, h1]
theorem tN {G : Ctx} {n : Nat} {S : Sto} {μ : Mu} {st : St} {a : Act} {w : World} {fn : Func} {vs : List V} (hT : Tok P T) (hs : Sim G n S μ st a w) (h : ResV T st fn.results.toList vs) :
  ∃ us, (results fn a.tmps).run P w = .ok (aDu us) w ∧ bO S μ st.h vs us := by
 obtain ⟨us, h1, h2⟩ := lN hT hs h;refine ⟨us, ?_, h2⟩;unfold results;rw [Array.mapM_eq_mapM_toList, Sem.run_bind, Sem.run_map]
 erw [h1]
 simp only [Result.andThen_ok, Sem.run_pure];congr 1
 match us with
 | [] => simp [aDu]
 | [u] => simp [aDu]
 | u :: u' :: us => simp [aDu]
def AObj.plain : AObj → Bool
 | .dfr => false
 | _ => true
theorem aB6 {o : AObj} {p : Prop} (h : o.succ p .dfr) : o = .dfr := by cases o <;> simp only [AObj.succ] at h; rfl
theorem Sim.take {P : Program} {G : Ctx} {n : Nat} {S : Sto} {μ : Mu} {st : St} {a : Act} {w : World} {id : Nat} {ids : List Nat} (hs : Sim G n S μ st a w) (hd : st.d = id :: ids) (hG : ∀ id, G.h0 id ≠ some .dfr) :
  ∃ b ds w', a.defers = { target := .collected b, args := #[] } :: ds ∧ (Instr.takeDeferred b).run P w = .ok [] w' ∧ Sim G n S μ ⟨st.e, upd st.h id none, ids⟩ { a with defers := ds } w' := by
 have hm := hs.defers;rw [hd] at hm;obtain ⟨b, c, ds, h1, h2, h3, h4, h5, h6⟩ := hm;obtain ⟨b', g1, g2, g3, g4⟩ := hs.inv.obj _ _ h3;rw [h2] at g1; cases g1;have hlt : b < w.heap.size := (Array.getElem?_eq_some_iff.1 g2).1
 have hne : ∀ j, upd st.h id none j = none ∨ j ≠ id := fun j => by
  by_cases hj : j = id
  ·exact .inl (by rw [hj, aC])
  ·exact .inr hj
 have aC0 : ∀ {j o}, upd st.h id none j = some o → j ≠ id ∧ st.h j = some o := by
  intro j o hj;rcases hne j with h | h
  ·rw [h] at hj; cases hj
  ·exact ⟨h, by rwa [aT _ _ _ h] at hj⟩
 have hE : Evo0 S μ st.h S μ (upd st.h id none) := ⟨S.le_refl, fun j o hj ho => by
  have hji : j ≠ id := by rintro rfl; rw [h3] at hj; cases hj; exact ho rfl
  exact ⟨o, by rw [aT _ _ _ hji]; exact hj, o.succ_refl rfl⟩⟩
 refine ⟨b, ds, w.putObj b (.deferred none), h1, run_takeDeferred g2, ⟨⟨⟨fun b' o v e => ?_, fun b' mk e => ?_⟩, fun j o hj => ?_, fun i j o o' b1 c1 c2 hi hj m1 m2 => ?_, fun i o b1 c1 hi m1 => ?_, ?_, hs.inv.sle, hs.inv.sto, ⟨hs.inv.evo.le, fun j o hj => ?_⟩, hs.inv.fre⟩, hs.size, ?_, fun t v e => aQ.evolve0 hE _ _ (hs.env t v e)⟩⟩
 ·obtain ⟨vs, t, fr, k1, k2⟩ := hs.inv.holds.1 b' o v e;have : b' ≠ b := by rintro rfl; rw [g3] at e; cases e
  exact ⟨vs, t, fr, by rw [World.putObj_heap_other this]; exact k1, k2⟩
 ·have : b' ≠ b := by rintro rfl; rw [g4] at e; cases e
  rw [World.putObj_heap_other this]; exact hs.inv.holds.2 b' mk e
 ·obtain ⟨k1, k2⟩ := aC0 hj;refine (hs.inv.obj j o k2).evolve0 hE rfl fun b1 c1 m1 => ⟨World.putObj_heap_other ?_, fun _ => rfl, rfl⟩
  rintro rfl;exact k1 (hs.inv.inj j id o .dfr b1 c1 _ k2 h3 m1 h2)
 ·exact hs.inv.inj i j o o' b1 c1 c2 (aC0 hi).2 (aC0 hj).2 m1 m2
 ·exact hs.inv.own i o b1 c1 (aC0 hi).2 m1
 ·obtain ⟨f1, f2, f3, f4, f5, f6⟩ := hs.inv.frame;refine ⟨f1, f2, f3, by simpa using f4, fun k hk hF => ?_, f6⟩;rw [World.putObj_heap_other (by omega)];exact f5 k hk hF
 ·obtain ⟨o', k1, k2⟩ := hs.inv.evo.obj j o hj;have hji : j ≠ id := by
   rintro rfl;rw [h3] at k1; cases k1;rw [aB6 k2] at hj;exact hG _ hj
  exact ⟨o', by show upd st.h id none j = some o'; rw [aT _ _ _ hji]; exact k1, k2⟩
 ·exact h6.go fun j hj hjd => ⟨rfl, by
   have hji : j ≠ id := by rintro rfl; exact h5 hj
   show upd st.h id none j = some .dfr
   rw [aT _ _ _ hji]; exact hjd⟩
theorem Sim.leave {P : Program} {fn : Func} {R : Ending → World → Prop} {G : Ctx} {n : Nat} {S : Sto} {μ : Mu} (hG : ∀ id, G.h0 id ≠ some .dfr) : ∀ (ids : List Nat) {e : Nat → Option V} {h : cH} {a : Act} {w : World}, Sim G n S μ ⟨e, h, ids⟩ a w →
  (∀ h' w', (∀ id o, h id = some o → o ≠ .dfr → h' id = some o) → Sim G n S μ ⟨e, h', []⟩ { a with defers := [] } w' → ∃ v, (results fn a.tmps).run P w' = .ok v w' ∧ R (.returned v) w') →
  LeavesInM (Wd none) 0 P fn a.tmps R a.defers .returning w
 | [], e, h, a, w, hs, hk => by
  have hd : a.defers = [] := hs.defers;rw [hd];refine hk h w (fun _ _ h _ => h) ?_;obtain ⟨h1, h2, h3, h4⟩ := hs;exact ⟨h1, h2, rfl, h4⟩
 | id :: ids, e, h, a, w, hs, hk => by
  have h3 : h id = some .dfr := by
   obtain ⟨b, c, ds', q1, q2, q3, _⟩ := hs.defers;exact q3
  obtain ⟨b, ds, w', h1, h2, hs'⟩ := hs.take (P := P) rfl hG;rw [h1];refine ⟨by simp, .inl ⟨b, w', rfl, h2, ?_⟩⟩;refine Sim.leave hG ids (a := { a with defers := ds }) hs' fun h' w'' hh hs'' => hk h' w'' (fun j o hj ho => hh j o ?_ ho) hs''
  have hji : j ≠ id := by rintro rfl; rw [h3] at hj; cases hj; exact ho rfl
  rw [aT _ _ _ hji]; exact hj
structure Fin (T : TT) (fn : Func) (st : St) (hin : List (Nat × AObj)) (res : V) (hout : List (Nat × AObj)) : Prop where
 ex : ∃ vs vs', ResV T st fn.results.toList vs ∧ Convs st.h vs vs' ∧ yJ vs' = res
 out : fU (fun p => ∃ o, st.h p.1 = some o ∧ Ole (fun i => i) o p.2) hout
 ok : (subset res.refs (keys hout) && subset (eS hout) (keys hout) && distinct (keys hout) && subset (keys hin) (keys hout) && (hin.all fun p => p.2.plain) && (hout.all fun p => p.2.plain)) = true
theorem ResV.keep {st : St} {h' : cH} {d : List Nat} (hh : ∀ id o, st.h id = some o → o ≠ .dfr → h' id = some o) : ∀ {rs : List ResultVar} {vs : List V}, ResV T st rs vs → ResV T ⟨st.e, h', d⟩ rs vs := by
 intro rs vs h
 induction h with
 | nil => exact .nil
 | tmp h1 _ ih => exact .tmp h1 ih
 | cell h1 h2 h3 h4 h5 _ ih => exact .cell h1 h2 (hh _ _ h3 (by simp)) h4 h5 ih
theorem PureL.keep {h h' : cH} (hh : ∀ id o, h id = some o → o ≠ .dfr → h' id = some o) : ∀ {ids : List Nat} {rs : List R} {cs : List C}, PureL h ids rs cs → PureL h' ids rs cs := by
 intro ids rs cs k
 induction k with
 | nil => exact .nil
 | c h1 _ ih => exact .c h1 ih
 | hs h1 h2 h3 _ ih => exact .hs (hh _ _ h1 (by simp)) h2 h3 ih
 | any _ ih => exact .any ih
 | fn _ ih => exact .fn ih
 | ras h0 _ h1 h2 h3 _ ih' ih => exact .ras h0 ih' h1 h2 h3 ih
theorem Convs.keep {h h' : cH} (hh : ∀ id o, h id = some o → o ≠ .dfr → h' id = some o) : ∀ {vs vs' : List V}, Convs h vs vs' → Convs h' vs vs' := by
 intro vs vs' k
 induction k with
 | nil => exact .nil
 | @cons ids v v' vs vs' h1 _ ih =>
  refine .cons (ids := ids) ?_ ih;cases h1 with
  | refl => exact .refl
  | one h => exact .one (h.keep hh)
  | agg h => exact .agg (h.keep hh)
  | pa h => exact .pa (h.keep hh)
theorem aHh {X : Sto → Prop} {kf : List Nat} {f : FuncId} {fn : Func} {c : Code} {n : Nat} {args : List V} {hin hout : List (Nat × AObj)} {res : V} (hX : ∀ S μ w, X S → Ctx.keeps ⟨w, S, nL μ (look hin), μ, look hin⟩ kf) (hT : Tok P T) (hf : P.funcs[f]? = some fn) (hb : fn.body = some c) (hn : fn.ntmps = n) (hle : Nat.ble args.length n = true)
  (h : AWp none P n kf c (mk (aGa 0 args) hin) (fun ex st => (ex = .normal ∨ ex = .ret) ∧ Fin T fn st hin res hout)) : ∀ S μ w vals, X S → Inv ⟨w, S, nL μ (look hin), μ, look hin⟩ S μ (look hin) w → bO S μ (look hin) args vals →
  Calls P f ⟨vals⟩ w fun e w' => ∃ S' μ' v, e = .returned v ∧ Inv ⟨w, S, nL μ (look hin), μ, look hin⟩ S' μ' (look hout) w' ∧ aQ S' μ' (look hout) res v := by
 intro S μ w vals hXS hI hv;refine (Wd.calls (ro := none) (n := 0)).1 (callsIn_of_wp_marks hf hb trivial ?_);have hvl : ∀ (l : List V) (us : List Value), bO S μ (look hin) l us → us.length = l.length := by
  intro l
  induction l with
  | nil => intro us h; simp only [bO] at h; subst h; rfl
  | cons x l ih =>
   intro us h;simp only [bO] at h;obtain ⟨v, vs', rfl, _, h2⟩ := h;simp [ih _ h2]
 have hvals := hvl _ _ hv;have hle' := le_of_ble_eq_true hle;have hkeep := hX S μ w hXS;refine h ⟨w, S, nL μ (look hin), μ, look hin⟩ S μ _ w _ ⟨hkeep, trivial⟩ ⟨hI, by simp; omega, rfl, fun t v ht => ?_⟩ ?_
 ·have key : ∀ (l : List V) (us : List Value) (k : Nat), bO S μ (look hin) l us → look (aGa k l) t = some v → ∃ j, t = k + j ∧ ∃ u, us[j]? = some u ∧ aQ S μ (look hin) v u := by
   intro l
   induction l with
   | nil => intro us k _ h; simp [aGa, look] at h
   | cons x l ih =>
    intro us k hr hl;simp only [bO] at hr;obtain ⟨u, us', rfl, h1, h2⟩ := hr;simp only [aGa, look] at hl;split at hl
    ·rename_i hbq;cases hl;exact ⟨0, by rw [eq_of_beq_eq_true hbq]; rfl, u, rfl, h1⟩
    ·obtain ⟨j, h3, u', h4, h5⟩ := ih us' (k + 1) h2 hl;exact ⟨j + 1, by omega, u', by simpa using h4, h5⟩
  obtain ⟨j, h1, u, h2, h3⟩ := key args vals 0 hv ht;rw [zero_add] at h1;subst h1;have hj : t < vals.length := (List.getElem?_eq_some_iff.1 h2).1
  have : ((⟨vals⟩ : Array Value) ++ Array.replicate (fn.ntmps - (⟨vals⟩ : Array Value).size) undef).getD t undef = u := by
   rw [Array.getD_eq_getD_getElem?, Array.getElem?_append_left (by simpa using hj)];simp [h2]
  show aQ S μ (look hin) v (((⟨vals⟩ : Array Value) ++ Array.replicate (fn.ntmps - (⟨vals⟩ : Array Value).size) undef).getD t undef);rw [this];exact h3
 ·intro ex st' S' μ' a' w' ⟨hex, hfin⟩ hs;obtain ⟨⟨vs, vs', hr, hc, hres⟩, hout', hok⟩ := hfin;simp only [Bool.and_eq_true] at hok;obtain ⟨⟨⟨⟨⟨k1, k2⟩, k3⟩, k4⟩, k5⟩, k6⟩ := hok;have hleave : LeavesInM (Wd none) 0 P fn a'.tmps (fun e w' => ∃ S' μ' v, e = .returned v ∧ Inv ⟨w, S, nL μ (look hin), μ, look hin⟩ S' μ' (look hout) w' ∧ aQ S' μ' (look hout) res v) a'.defers .returning w' := by
   refine Sim.leave (G := ⟨w, S, nL μ (look hin), μ, look hin⟩) (n := n) (S := S') (μ := μ') (fun id e => ?_) st'.d (e := st'.e) (h := st'.h) hs fun h' w'' hh hs => ?_
   ·have := (all_eq_true.1 k5) _ (bW (show look hin id = some .dfr from e));cases this
   have hr : ResV T ⟨st'.e, h', []⟩ fn.results.toList vs := ResV.keep (fun id o ho hne => hh id o ho hne) hr;have hc : Convs h' vs vs' := hc.keep fun id o ho hne => hh id o ho hne
   have hout' : fU (fun p => ∃ o, h' p.1 = some o ∧ Ole (fun i => i) o p.2) hout := by
    have hk : ∀ l : List (Nat × AObj), (∀ p ∈ l, p ∈ hout) → fU (fun p => ∃ o, h' p.1 = some o ∧ Ole (fun i => i) o p.2) l := by
     intro l
     induction l with
     | nil => intro _; trivial
     | cons p l ih =>
      intro hl;refine ⟨?_, ih fun q hq => hl q (by simp [hq])⟩;obtain ⟨o, g1, g2⟩ := hout'.mem p (hl p (by simp));refine ⟨o, hh _ _ g1 ?_, g2⟩;rintro rfl;have hp := (all_eq_true.1 k6) p (hl p (by simp));cases hq : p.2 <;> rw [hq] at g2 hp <;> cases g2;cases hp
    exact hk hout fun p hp => hp
   obtain ⟨us, h1, h2⟩ := tN hT hs hr;refine ⟨_, h1, ?_⟩;have h3 := hc.rel hs.inv.obj h2;have hgood : ∀ i ∈ keys hout, Good h' (look hout) (fun i => i) i := by
    intro i hi;obtain ⟨o', ho'⟩ := dU hi;obtain ⟨o, g1, g2⟩ := hout'.mem _ (bW ho');exact ⟨o, o', g1, ho', g2⟩
   have hv4 : aQ S' μ' h' res (aDu us) := by
    rw [← hres]
    match vs', us, h3 with
    | [], us, h3 => simp only [bO] at h3; subst h3; simp [yJ, aDu, aQ, bO]
    | [v], us, h3 =>
     simp only [bO] at h3;obtain ⟨u, us', rfl, h5, rfl⟩ := h3;exact h5
    | v :: v' :: l, us, h3 =>
     have h3' := h3;simp only [bO] at h3';obtain ⟨u, us', rfl, _, u', us'', rfl, _, _⟩ := h3';simp only [yJ, aDu, aQ];exact ⟨_, rfl, h3⟩
   have hI' : Inv ⟨w, S, nL μ (look hin), μ, look hin⟩ S' μ' (look hout) w'' := by
    refine ⟨hs.inv.holds, fun id o ho => ?_, fun i j o o' b c c' hi hj hm hm' => ?_, fun i o b c hi hm => ?_, hs.inv.frame, hs.inv.sle, hs.inv.sto, ⟨hs.inv.evo.le, fun id o ho => ?_⟩, hs.inv.fre⟩
    ·obtain ⟨o1, g1, g2⟩ := hout'.mem _ (bW ho);exact (hs.inv.obj _ _ g1).ren g2 fun i hi => hgood i (c9 k2 i (gI (bW ho) i hi))
    ·obtain ⟨o1, g1, g2⟩ := hout'.mem _ (bW hi);obtain ⟨o2, g3, g4⟩ := hout'.mem _ (bW hj);exact hs.inv.inj _ _ _ _ b c c' g1 g3 hm hm'
    ·obtain ⟨o1, g1, g2⟩ := hout'.mem _ (bW hi);exact hs.inv.own _ _ b c g1 hm
    ·obtain ⟨o', (g1 : h' id = some o'), g2⟩ := hs.inv.evo.obj id o ho;have hk : id ∈ keys hin := mem_map.2 ⟨_, bW (show look hin id = some o from ho), rfl⟩;obtain ⟨o1, o2, g3, g4, g5⟩ := hgood id (c9 k4 id hk);rw [g1] at g3; cases g3;exact ⟨o2, g4, AObj.succ_trans g2 g5.succ fun e _ => e⟩
   have hR : aQ S' μ' (look hout) res (aDu us) := by
    have := aQ.ren (H := h') (H' := look hout) (σ := fun i => i) res _ (fun i hi => hgood i (c9 k1 i hi)) (by rw [V.ren_id]; exact hv4);exact this
   exact ⟨S', μ', _, rfl, hI', hR⟩
  rcases hex with rfl | rfl
  ·exact hleave
  ·exact hleave
end
section
variable {P : Program} {T : TT}
theorem cT {f : FuncId} {fn : Func} {c : Code} {n : Nat} {args : List V} {hin hout : List (Nat × AObj)} {res : V} (hT : Tok P T) (hf : P.funcs[f]? = some fn) (hb : fn.body = some c) (hn : fn.ntmps = n) (hle : Nat.ble args.length n = true)
  (h : AWp none P n (keys hin) c (mk (aGa 0 args) hin) (fun ex st => (ex = .normal ∨ ex = .ret) ∧ Fin T fn st hin res hout)) : bN P f args hin res hout :=
 fun S μ w vals hI hv => aHh (X := fun _ => True) (fun _ _ _ _ => rX) hT hf hb hn hle h S μ w vals trivial hI hv
def aGb (P : Program) (f : FuncId) (args : List V) (res : V) : Prop :=
 ∀ S μ w vals, S.noTop → Inv ⟨w, S, nL μ (look []), μ, look []⟩ S μ (look []) w → bO S μ (look []) args vals →
  Calls P f ⟨vals⟩ w fun e w' => ∃ S' μ' v, e = .returned v ∧ Inv ⟨w, S, nL μ (look []), μ, look []⟩ S' μ' (look []) w' ∧ aQ S' μ' (look []) res v
theorem aI2 {f : FuncId} {fn : Func} {c : Code} {n : Nat} {args : List V} {res : V} (hT : Tok P T) (hf : P.funcs[f]? = some fn) (hb : fn.body = some c) (hn : fn.ntmps = n) (hle : Nat.ble args.length n = true)
  (h : AWp none P n [997] c (mk (aGa 0 args) []) (fun ex st => (ex = .normal ∨ ex = .ret) ∧ Fin T fn st [] res [])) : aGb P f args res :=
 fun S μ w vals h0 hI hv => aHh (X := Sto.noTop) (kf := [997]) (fun _ _ _ hx => ⟨fun _ _ ho => (by cases ho), fun _ _ => hx⟩) hT hf hb hn hle h S μ w vals h0 hI hv
end
def lC (P : Program) (n : Nat) (ops : Array Oper) (draw : Bool) (k : Nat) (st : St) (pre : REs) (Q : St → Prop) : Prop :=
 ∃ xs st', Run P n ops k st xs st' ∧ Nat.beq (k + xs.length) ops.size = true ∧ (!draw || (eQ (nN ops) (pre.reverse ++ xs) [] && hJ ops)) = true ∧ Q st'
section
variable {ro : Option Nat} {P : Program} {n : Nat} {ops : Array Oper} {draw : Bool} {k : Nat} {st : St} {pre : REs} {Q : St → Prop}
theorem k_ {rd : Rd} {f : Eff} (h : GStep P n ops k st rd f) (hk : lC P n ops draw (k + 1) (f.apply st) ((rd, f) :: pre) Q) : lC P n ops draw k st pre Q := by
 obtain ⟨xs, st', h1, h2, h3, h4⟩ := hk;refine ⟨(rd, f) :: xs, st', .cons h h1, ?_, ?_, h4⟩
 ·rw [length_cons, show k + (xs.length + 1) = k + 1 + xs.length by omega];exact h2
 ·rw [List.reverse_cons, append_assoc] at h3;exact h3
theorem z_ (h1 : Nat.beq k ops.size = true) (h2 : (!draw || (eQ (nN ops) pre.reverse [] && hJ ops)) = true) (hq : Q st) : lC P n ops draw k st pre Q :=
 ⟨[], st, .nil, h1, by rw [append_nil]; exact h2, hq⟩
theorem aJ {kf : List Nat} {id : Nat} {Q : Exit → St → Prop} (hm : P.follows .mixedOrders = true) (h : lC P n ops draw 0 st [] (fun st' => Q .normal st')) : AWp ro P n kf (.region id ops draw) st Q := by
 obtain ⟨xs, st', h1, h2, h4, h3⟩ := h;rw [zero_add] at h2;exact oQ hm h1 h2 h4 h3
theorem aF8 {kf : List Nat} {id : Nat} {Q : Exit → St → Prop} (st2 : St) (hm : P.follows .mixedOrders = true) (h : lC P n ops draw 0 st [] (fun st' => Sub kf st2 st')) (hq : Q .normal st2) : AWp ro P n kf (.region id ops draw) st Q := by
 obtain ⟨xs, st', h1, h2, h4, h3⟩ := h;rw [zero_add] at h2;refine AWp.post (Q := fun ex s => ex = .normal ∧ Sub kf st2 s) (oQ hm h1 h2 h4 ⟨rfl, h3⟩) ?_;rintro ex s ⟨rfl, hs⟩;exact ⟨st2, hs, hq⟩
theorem g_ {i : Nat} {o : Oper} {rd : Rd} {f : Eff} (ho : ops[i]? = some o) (hg : o.guard = none) (h : Step P n o st rd f) : GStep P n ops i st rd f := GStep.plain ho hg h
theorem AWp.cut {kf : List Nat} {c : Code} {Q : Exit → St → Prop} (st2 : St) (h : AWp ro P n kf c st (fun ex s => match ex with | .normal => Sub kf st2 s | ex => Q ex s)) (hq : Q .normal st2) : AWp ro P n kf c st Q := by
 refine AWp.post h ?_;intro ex s hs;cases ex with
 | normal => exact ⟨st2, hs, hq⟩
 | _ => exact ⟨s, Sub.refl _ _, hs⟩
end
section
variable {P : Program} {n : Nat} {o : Oper} {st : St} {d : Nat} {T : TT}
theorem aHa {tx ty : TypeId} {x y : Operand} {a b : Int} (ho : o.op = .binOp .add tx x y ty) (hd : o.dst = some d) (hdn : d < n) (hx : opv st x = some (I .i64 a)) (hy : opv st y = some (I .i64 b)) (hr : -9223372036854775808 ≤ a + b ∧ a + b ≤ 9223372036854775807) :
  Step P n o st ⟨opr x ++ opr y, []⟩ ⟨some (d, some (I .i64 (a + b))), []⟩ := aFd ho hd hdn hx hy (IntWalk.i64_in _ hr)
theorem aGt {tx ty : TypeId} {x y : Operand} {a b : Int} (ho : o.op = .binOp .sub tx x y ty) (hd : o.dst = some d) (hdn : d < n) (hx : opv st x = some (I .i64 a)) (hy : opv st y = some (I .i64 b)) (hr : -9223372036854775808 ≤ a - b ∧ a - b ≤ 9223372036854775807) :
  Step P n o st ⟨opr x ++ opr y, []⟩ ⟨some (d, some (I .i64 (a - b))), []⟩ := aE1 ho hd hdn hx hy (IntWalk.i64_in _ hr)
theorem aG4 {tx ty : TypeId} {x y : Operand} {a b : Int} (ho : o.op = .binOp .mul tx x y ty) (hd : o.dst = some d) (hdn : d < n) (hx : opv st x = some (I .i64 a)) (hy : opv st y = some (I .i64 b)) (hr : -9223372036854775808 ≤ a * b ∧ a * b ≤ 9223372036854775807) :
  Step P n o st ⟨opr x ++ opr y, []⟩ ⟨some (d, some (I .i64 (a * b))), []⟩ := aE4 ho hd hdn hx hy (IntWalk.i64_in _ hr)
theorem aD2 {tx ty : TypeId} {x y : Operand} {a b : Int} (ho : o.op = .binOp .quo tx x y ty) (hd : o.dst = some d) (hdn : d < n) (hx : opv st x = some (I .i64 a)) (hy : opv st y = some (I .i64 b)) (hr : 0 ≤ a ∧ a ≤ 9223372036854775807 ∧ 1 ≤ b) :
  Step P n o st ⟨opr x ++ opr y, []⟩ ⟨some (d, some (I .i64 (a / b))), []⟩ := aIj ho hd hdn hx hy (by omega) (by
   have h1 : a.tdiv b = a / b := Int.tdiv_eq_ediv_of_nonneg hr.1;rw [h1];refine IntWalk.i64_in _ ⟨?_, ?_⟩
   ·have := Int.ediv_nonneg hr.1 (show (0 : Int) ≤ b by omega); omega
   ·have := Int.ediv_le_self b hr.1; omega)
theorem aD1 {tx ty : TypeId} {x y : Operand} {k : IntKind} {a b : Int} (ho : o.op = .binOp .rem tx x y ty) (hd : o.dst = some d) (hdn : d < n) (hx : opv st x = some (I k a)) (hy : opv st y = some (I k b)) (hr : 0 ≤ a ∧ 1 ≤ b) :
  Step P n o st ⟨opr x ++ opr y, []⟩ ⟨some (d, some (I k (a % b))), []⟩ := aIi ho hd hdn hx hy (by omega) (Int.tmod_eq_emod_of_nonneg hr.1)
theorem fP (op : BinOp) (t : TypeId) (x y : Operand) (u v : Value) (w : World) (h1 : (match u with | .agg _ => true | .nilIface => true | _ => false) = false) : (eqGuard op t x y u v).run P w = .ok () w := by
 unfold eqGuard;cases u <;> simp at h1 <;> (split <;> rfl)
theorem nV {t : TypeId} (hu : P.underlying t = some .bool) (d : Nat) (a b : Bool) (w : World) : (Op.equalIn (d + 1) t (.bool a) (.bool b)).run P w = .ok (a == b) w := by
 simp only [Op.equalIn, Sem.run_bind, run_underlying hu w, Result.andThen_ok, Sem.run_pure]
theorem qI {t e : TypeId} (hu : P.underlying t = some (.pointer e)) (d : Nat) (p : Option Addr) (w : World) : (Op.equalIn (d + 1) t (.pointer p) (.pointer none)).run P w = .ok p.isNone w := by
 cases p <;> simp only [Op.equalIn, Sem.run_bind, run_underlying hu w, Result.andThen_ok, Sem.run_pure] <;> rfl
theorem aB8 {t e : TypeId} (hu : P.underlying t = some (.slice e)) (d : Nat) (p : Option Addr) (l c : Nat) (w : World) : (Op.equalIn (d + 1) t (.slice p l c) (.slice none 0 0)).run P w = .ok p.isNone w := by
 cases p <;> simp only [Op.equalIn, Sem.run_bind, run_underlying hu w, Result.andThen_ok, Sem.run_pure] <;> rfl
theorem tO {tx ty : TypeId} {x y : Operand} {a : Act} {w : World} {u v : Value} {b : Bool} (ho : o.op = .binOp .eql tx x y ty) (hx : a.eval x = u) (hy : a.eval y = v) (hg : (eqGuard .eql tx x y u v).run P w = .ok () w)
  (hb : binOp .eql tx u v = (do pure (.bool (← Op.equal tx u v)))) (hr : (Op.equalIn (9999 + 1) tx u v).run P w = .ok b w) : (execOp a.eval o).run P w = .ok (.value (.bool b)) w := by
 have hr' : (Op.equal tx u v).run P w = .ok b w := hr;simp only [execOp, ho, hx, hy, Sem.run_bind, hg, Result.andThen_ok, hb, hr', Sem.run_pure]
theorem yU {tx ty : TypeId} {x y : Operand} {a : Act} {w : World} {u v : Value} {b : Bool} (ho : o.op = .binOp .neq tx x y ty) (hx : a.eval x = u) (hy : a.eval y = v) (hg : (eqGuard .neq tx x y u v).run P w = .ok () w)
  (hb : binOp .neq tx u v = (do pure (.bool (!(← Op.equal tx u v))))) (hr : (Op.equalIn (9999 + 1) tx u v).run P w = .ok b w) : (execOp a.eval o).run P w = .ok (.value (.bool (!b))) w := by
 have hr' : (Op.equal tx u v).run P w = .ok b w := hr;simp only [execOp, ho, hx, hy, Sem.run_bind, hg, Result.andThen_ok, hb, hr', Sem.run_pure]
theorem aG8 {tx ty : TypeId} {i : TI} {x y : Operand} {a b : Bool} (hT : Tok P T) (ho : o.op = .binOp .eql tx x y ty) (hd : o.dst = some d) (hdn : d < n) (hi : T[tx]? = some (some i)) (hk : i.k = .bool) (hx : opv st x = some (B a)) (hy : opv st y = some (B b)) :
  Step P n o st ⟨opr x ++ opr y, []⟩ ⟨some (d, some (B (a == b))), []⟩ := by
 refine Step.value hd hdn fun _ ha _ _ _ ac w hs => ?_
 have h1 := gB (aH hs hx (dH ha).1);have h2 := gB (aH hs hy (dH ha).2);exact ⟨.bool (a == b), tO ho h1 h2 (fP _ _ _ _ _ _ _ rfl) rfl (nV ((hT.get hi).bool hk) _ _ _ _), by simp [aQ, b5, Rep]⟩
theorem aG7 {tx ty : TypeId} {i : TI} {x y : Operand} {a b : Bool} (hT : Tok P T) (ho : o.op = .binOp .neq tx x y ty) (hd : o.dst = some d) (hdn : d < n) (hi : T[tx]? = some (some i)) (hk : i.k = .bool) (hx : opv st x = some (B a)) (hy : opv st y = some (B b)) :
  Step P n o st ⟨opr x ++ opr y, []⟩ ⟨some (d, some (B (!(a == b)))), []⟩ := by
 refine Step.value hd hdn fun _ ha _ _ _ ac w hs => ?_
 have h1 := gB (aH hs hx (dH ha).1);have h2 := gB (aH hs hy (dH ha).2);exact ⟨.bool (!(a == b)), yU ho h1 h2 (fP _ _ _ _ _ _ _ rfl) rfl (nV ((hT.get hi).bool hk) _ _ _ _), by simp [aQ, b5, Rep]⟩
def qW : V → Option Bool
 | .one (.c .np) => some true
 | .one (.c (.pt _)) => some false
 | .one (.vp _ _) => some false
 | _ => none
theorem o5 {S : Sto} {μ : Mu} {H : cH} {v : V} {u : Value} {b : Bool} (h : aQ S μ H v u) (hb : qW v = some b) : ∃ p, u = .pointer p ∧ p.isNone = b := by
 unfold qW at hb;split at hb
 ·cases hb; simp only [aQ, b5, Rep] at h; exact ⟨none, h, rfl⟩
 ·cases hb; simp only [aQ, b5, Rep] at h; obtain ⟨b, o, h, _⟩ := h; exact ⟨_, h, rfl⟩
 ·cases hb; simp only [aQ, b5] at h; obtain ⟨t, cells, b, c, _, _, h⟩ := h; exact ⟨_, h, rfl⟩
 ·cases hb
theorem aG2 {tx ty e : TypeId} {i : TI} {x y : Operand} {v : V} {b : Bool} (hT : Tok P T) (ho : o.op = .binOp .eql tx x y ty) (hd : o.dst = some d) (hdn : d < n) (hi : T[tx]? = some (some i)) (hk : i.k = .pt e) (hx : opv st x = some v) (hv : qW v = some b) (hy : opv st y = some (.one (.c .np))) :
  Step P n o st ⟨opr x ++ opr y, []⟩ ⟨some (d, some (B b)), []⟩ := by
 refine Step.value hd hdn fun _ ha _ _ _ ac w hs => ?_
 obtain ⟨p, h1, hp⟩ := o5 (aH hs hx (dH ha).1) hv;have h2 := aH hs hy (dH ha).2;simp only [aQ, b5, Rep] at h2;subst hp;exact ⟨.bool p.isNone, tO ho h1 h2 (fP _ _ _ _ _ _ _ rfl) (by cases p <;> rfl) (qI ((hT.get hi).ptr hk) _ _ _), by simp [aQ, b5, Rep]⟩
theorem aG1 {tx ty e : TypeId} {i : TI} {x y : Operand} {v : V} {b : Bool} (hT : Tok P T) (ho : o.op = .binOp .neq tx x y ty) (hd : o.dst = some d) (hdn : d < n) (hi : T[tx]? = some (some i)) (hk : i.k = .pt e) (hx : opv st x = some v) (hv : qW v = some b) (hy : opv st y = some (.one (.c .np))) :
  Step P n o st ⟨opr x ++ opr y, []⟩ ⟨some (d, some (B (!b))), []⟩ := by
 refine Step.value hd hdn fun _ ha _ _ _ ac w hs => ?_
 obtain ⟨p, h1, hp⟩ := o5 (aH hs hx (dH ha).1) hv;have h2 := aH hs hy (dH ha).2;simp only [aQ, b5, Rep] at h2;subst hp;exact ⟨.bool (!p.isNone), yU ho h1 h2 (fP _ _ _ _ _ _ _ rfl) (by cases p <;> rfl) (qI ((hT.get hi).ptr hk) _ _ _), by simp [aQ, b5, Rep]⟩
def aB7 : V → Option Bool
 | .one (.c .nl) => some true
 | .one (.c (.sn _ _)) => some false
 | _ => none
theorem yQ {S : Sto} {μ : Mu} {H : cH} {v : V} {u : Value} {b : Bool} (h : aQ S μ H v u) (hb : aB7 v = some b) : ∃ p l c, u = .slice p l c ∧ p.isNone = b := by
 unfold aB7 at hb;split at hb
 ·cases hb; simp only [aQ, b5, Rep] at h; exact ⟨none, _, _, h, rfl⟩
 ·cases hb; simp only [aQ, b5, Rep] at h; obtain ⟨b, o, sp, l, c, h, _⟩ := h; exact ⟨_, _, _, h, rfl⟩
 ·cases hb
theorem aE3 {tx ty e : TypeId} {i : TI} {x y : Operand} {v : V} {b : Bool} (hT : Tok P T) (ho : o.op = .binOp .eql tx x y ty) (hd : o.dst = some d) (hdn : d < n) (hi : T[tx]? = some (some i)) (hk : i.k = .sl e) (hx : opv st x = some v) (hv : aB7 v = some b) (hy : opv st y = some (.one (.c .nl))) :
  Step P n o st ⟨opr x ++ opr y, []⟩ ⟨some (d, some (B b)), []⟩ := by
 refine Step.value hd hdn fun _ ha _ _ _ ac w hs => ?_
 obtain ⟨p, l, c, h1, hp⟩ := yQ (aH hs hx (dH ha).1) hv;have h2 := aH hs hy (dH ha).2;simp only [aQ, b5, Rep] at h2;subst hp;exact ⟨.bool p.isNone, tO ho h1 h2 (fP _ _ _ _ _ _ _ rfl) (by cases p <;> rfl) (aB8 ((hT.get hi).slice hk) _ _ _ _ _), by simp [aQ, b5, Rep]⟩
end
theorem take_map {α β : Type} {f : α → β} {l : List α} : (l.map f).take l.length = l.map f := take_of_length_le (by simp)
theorem Ole.arrE {σ : Nat → Nat} {te es fz : Nat} {e e' : List (List C)} (h : e = e') : Ole σ (.arr te es e fz) (.arr te es e' 1) := by subst h; exact .arr1
section
variable {P : Program} {n : Nat} {o : Oper} {st : St} {d : Nat} {T : TT}
def sL (st : St) : List Operand → Option (List R)
 | [] => some []
 | x :: xs => match opv st x with
  | some (.one r) => match sL st xs with | some l => some (r :: l) | none => none
  | _ => none
theorem sK {G : Ctx} {S : Sto} {μ : Mu} {st' : St} {a : Act} {w : World} (hs : Sim G n S μ st' a w) : ∀ (xs : List Operand) (l : List R), sL st xs = some l → (∀ t ∈ cG xs, st'.e t = st.e t) → aO S μ st'.h l (xs.map a.eval)
 | [], l, h, _ => by simp [sL] at h; subst h; simp [aO]
 | x :: xs, l, h, ht => by
  simp only [sL] at h;split at h
  ·rename_i r hr;split at h
   ·rename_i l' hl';cases h;have h1 := aH hs hr fun t h => ht t (by simp [cG, h])
    simp only [aQ] at h1;simp only [map_cons, aO];exact ⟨_, _, rfl, h1, sK hs xs l' hl' fun t h => ht t (by simp [cG, h])⟩
   ·cases h
  ·cases h
theorem xE {f : FuncId} {caps : Array Operand} {l : List R} (ho : o.op = .makeFunc (.func f) #[] caps) (hd : o.dst = some d) (hdn : d < n) (hc : sL st caps.toList = some l) : Step P n o st ⟨cG caps.toList, []⟩ ⟨some (d, some (.one (.clo f l))), []⟩ := by
 refine Step.value hd hdn fun st' ha _ S μ ac w hs => ?_
 have h := sK hs _ _ hc ha.1;refine ⟨.func (.func f) #[] (caps.map ac.eval), by simp [execOp, ho, Instr.makeFunc], ?_⟩;simp only [aQ, b5];refine ⟨caps.toList.map ac.eval, ?_, h⟩;congr 1;apply Array.ext';simp
theorem qV {f : FuncId} {x : Operand} {c : R} (ho : o.op = .makeFunc (.func f) #[x] #[]) (hd : o.dst = some d) (hdn : d < n) (hx : opv st x = some (.one c)) : Step P n o st ⟨opr x, []⟩ ⟨some (d, some (.one (.mth f c))), []⟩ := by
 refine Step.value hd hdn fun st' ha _ S μ ac w hs => ?_
 have h := aH hs hx ha.1;refine ⟨.func (.func f) #[ac.eval x] #[], by simp [execOp, ho, Instr.makeFunc], ?_⟩;simp only [aQ, b5] at h ⊢;exact ⟨_, rfl, h⟩
def fK (k : List UInt8) : List (List C) → Option (List C)
 | [] => none
 | (.str s :: vs) :: r => if s = k then some vs else fK k r
 | _ :: r => fK k r
def pL (k : List UInt8) (vs : List C) : List (List C) → List (List C)
 | [] => [.str k :: vs]
 | (.str s :: us) :: r => if s = k then (.str k :: vs) :: r else (.str s :: us) :: pL k vs r
 | x :: r => x :: pL k vs r
theorem wR (a b : List UInt8) : ((ByteArray.mk ⟨a⟩) == (ByteArray.mk ⟨b⟩)) = decide (b = a) := by
 rw [beq_toListBytes, iF, iF, Bool.beq_eq_decide_eq];by_cases h : a = b
 ·subst h; simp
 ·have h' : ¬ b = a := fun e => h e.symm
  simp [h, h']
theorem gZ {S : Sto} {agg : Bool} {k : List UInt8} : ∀ (l : List (List C)) (es : List MapEntry) (i : Nat), aZ S agg l es → i4 l →
  (∀ vs, fK k l = some vs → ∃ j e, Instr.findNow .string (.string ⟨⟨k⟩⟩) es i = some (some (i + j, e.val)) ∧ es[j]? = some e ∧ (∃ us, bR S vs us ∧ e.val = (if agg then .agg ⟨us⟩ else us.headD undef) ∧ (agg = false → us.length = 1)) ∧ e.key = .string ⟨⟨k⟩⟩ ∧ j < es.length ∧
   ∀ ws, pL k ws l = (l.take j) ++ (.str k :: ws) :: l.drop (j + 1)) ∧
  (fK k l = none → Instr.findNow .string (.string ⟨⟨k⟩⟩) es i = some none ∧ ∀ ws, pL k ws l = l ++ [.str k :: ws])
 | [], es, i, h, _ => by
  simp only [aZ] at h;subst h;exact ⟨fun vs hv => by simp [fK] at hv, fun _ => ⟨rfl, fun ws => rfl⟩⟩
 | r :: l, es, i, h, hm => by
  simp only [aZ] at h;obtain ⟨e, es', rfl, ⟨vs, h1, h2, h3⟩, h4⟩ := h
  match r, h1, hm with
  | .str s :: us, h1, hm =>
   simp only [i4] at hm;simp only [bR] at h1;obtain ⟨v, vs', hv, h5, h6⟩ := h1;simp only [Rep] at h5;injection hv with hv1 hv2;subst hv2;have hkey : e.key = .string ⟨⟨s⟩⟩ := by rw [hv1, h5]
   have ih := gZ (k := k) l es' (i + 1) h4 hm;by_cases hs : s = k
   ·subst hs;refine ⟨fun ws hw => ?_, fun hn => by simp [fK] at hn⟩;simp only [fK, if_true, Option.some.injEq] at hw;subst hw;refine ⟨0, e, ?_, rfl, ⟨vs, h6, h2, h3⟩, hkey, by simp, fun ws => by simp [pL]⟩;simp only [Instr.findNow, hkey, Instr.sameNow];rw [wR];simp
   ·have hfn : Instr.findNow .string (.string ⟨⟨k⟩⟩) (e :: es') i = Instr.findNow .string (.string ⟨⟨k⟩⟩) es' (i + 1) := by
     simp only [Instr.findNow, hkey, Instr.sameNow];rw [wR];simp [hs]
    refine ⟨fun ws hw => ?_, fun hn => ?_⟩
    ·simp only [fK, hs, if_false] at hw;obtain ⟨j, e', q1, q2, q3, q4, q5, q6⟩ := ih.1 ws hw;refine ⟨j + 1, e', ?_, by simpa using q2, q3, q4, by simpa using q5, fun ws => ?_⟩
     ·rw [hfn, q1, show i + 1 + j = i + (j + 1) by omega]
     ·simp only [pL, hs, if_false, q6 ws];simp
    ·simp only [fK, hs, if_false] at hn;obtain ⟨q1, q2⟩ := ih.2 hn;exact ⟨by rw [hfn, q1], fun ws => by simp only [pL, hs, if_false, q2 ws]; simp⟩
  | [], h1, _ => simp only [bR] at h1; cases h1
  | .int _ _ :: _, _, hm => simp [i4] at hm
  | .bool _ :: _, _, hm => simp [i4] at hm
  | .nl :: _, _, hm => simp [i4] at hm
  | .sl _ _ :: _, _, hm => simp [i4] at hm
  | .sn _ _ :: _, _, hm => simp [i4] at hm
  | .np :: _, _, hm => simp [i4] at hm
  | .pt _ :: _, _, hm => simp [i4] at hm
  | .mp _ _ :: _, _, hm => simp [i4] at hm
  | .zv _ :: _, _, hm => simp [i4] at hm
theorem iN {t : TypeId} (hu : P.underlying t = some .string) (b : Bool) (d : Nat) (s : ByteArray) (w : World) : (Instr.checkKey b (d + 1) t (.string s)).run P w = .ok () w := by
 simp only [Instr.checkKey, Sem.run_bind, run_underlying hu w, Result.andThen_ok, Sem.run_pure]
inductive MapE (st : St) : List Nat → V → Bool → List (List C) → Prop
 | mr {id agg ents} : st.h id = some (.map agg ents) → MapE st [id] (.one (.mr id)) agg ents
 | mp {agg ents} : MapE st [] (.one (.c (.mp agg ents))) agg ents
 | nil {agg} : MapE st [] (.one (.c (.zv 0))) agg []
theorem MapE.rel {G : Ctx} {S : Sto} {μ : Mu} {st' : St} {a : Act} {w : World} {ids : List Nat} {v : V} {agg : Bool} {ents : List (List C)} {u : Value} (hs : Sim G n S μ st' a w) (h : MapE st ids v agg ents) (hms : i4 ents) (hi : ∀ i ∈ ids, st'.h i = st.h i) (hv : aQ S μ st'.h v u) :
  ∃ es : Array MapEntry, aZ S agg ents es.toList ∧ ((u = .map none ∧ es = #[]) ∨ ∃ b clk, u = .map (some b) ∧ w.heap[b]? = some (.map es clk)) := by
 cases h with
 | mr hh =>
  have hh' := (hi _ (by simp)).trans hh;simp only [aQ, b5] at hv;obtain ⟨agg', ents', b, c, h1, h2, h3⟩ := hv;rw [hh'] at h1; cases h1;obtain ⟨b', es, clk, g1, g2, g3, g4⟩ := hs.inv.obj _ _ hh';rw [h2] at g1; cases g1;exact ⟨es, g3.rep hms, .inr ⟨_, clk, h3, g2⟩⟩
 | mp =>
  simp only [aQ, b5, Rep] at hv;obtain ⟨b, es, clk, h1, h2, h3⟩ := hv;refine ⟨es, h3.elim id fun h3 => ?_, .inr ⟨b, clk, h1, hs.inv.holds.2 _ _ h2⟩⟩;cases ents with
  | nil => simp only [uX] at h3
  | cons r l => simp only [uX] at h3; rw [h3.1] at hms; simp [i4] at hms
 | nil =>
  simp only [aQ, b5, Rep, aGl] at hv;exact ⟨#[], by simp [aZ], .inl ⟨hv, rfl⟩⟩
def kR (i : TI) (r : Option (List C)) : V := match r with
 | some vs => if i.k.agg then .pa vs else match vs with | [c] => .one (.c c) | _ => .tup []
 | none => if i.k.agg then .pa i.zero else match i.zero with | [c] => .one (.c c) | _ => .tup []
def zN (r : Option (List C)) : Bool := r.isSome
def zV (r : Option (Nat × Value)) (z : Value) : Value := match r with | some p => p.2 | none => z
theorem gH (w : World) (b : Nat) (es : Array MapEntry) (clk : Nat) (h : w.heap[b]? = some (.map es clk)) : (getObj b).run P w = .ok (.map es clk) w := by
 exact MapKept.run_getObj_map h
theorem z6 {t kt et : TypeId} {i ki ei : TI} {x y : Operand} {ok : Bool} {ids : List Nat} {agg : Bool} {k : List UInt8} {r : Option (List C)} (hT : Tok P T) (ho : o.op = .lookup t x y ok) (hd : o.dst = some d) (hdn : d < n) (hi : T[t]? = some (some i)) (hk : i.k = .mp kt et)
  (hki : T[kt]? = some (some ki)) (hkk : ki.k = .str) (hei : T[et]? = some (some ei)) (hag : ei.k.agg = agg) (hy : opv st y = some (Go.AM.T k))
  (hrel : ∀ (st' : St), lD ⟨opr x ++ opr y, ids⟩ st st' → ∀ (G : Ctx) (S : Sto) (μ : Mu) (a : Act) (w : World), Sim G n S μ st' a w → ∃ (es : Array MapEntry) (ents : List (List C)), i4 ents ∧ fK k ents = r ∧ aZ S agg ents es.toList ∧ ((a.eval x = .map none ∧ es = #[]) ∨ ∃ b clk, a.eval x = .map (some b) ∧ w.heap[b]? = some (.map es clk))) :
  Step P n o st ⟨opr x ++ opr y, ids⟩ ⟨some (d, some (if ok then .tup [kR ei r, B (zN r)] else kR ei r)), []⟩ := by
 refine Step.value hd hdn fun st' ha G S μ a w hs => ?_
 obtain ⟨es, ents, hms, hr, h1, h2⟩ := hrel st' ha G S μ a w hs;have h3 := iD (aH hs hy fun t h => ha.1 t (by simp [h]));have hu := run_underlying ((hT.get hi).map hk) w;have hks := (hT.get hki).str hkk;obtain ⟨z, hz, hzr, hz1, hz2⟩ := (hT.get hei).zero_run;have hfind := gZ (k := k) ents es.toList 0 h1 hms;have key : ∃ r0 : Option (Nat × Value), (Instr.findKey kt (.string ⟨⟨k⟩⟩) es.toList).run P w = .ok r0 w ∧ aQ S μ st'.h (kR ei r) (zV r0 z) ∧ zN r = r0.isSome := by
  cases hq : fK k ents with
  | some vs =>
   obtain ⟨j, e, q1, q2, ⟨us, q3, q4, q5⟩, q6, q7, q8⟩ := hfind.1 vs hq;refine ⟨some (0 + j, e.val), ?_, ?_, by rw [← hr, hq]; rfl⟩
   ·simp only [Instr.findKey, Sem.run_bind, run_underlying hks w, Result.andThen_ok, q1, Sem.run_pure]
   ·rw [← hr, hq];simp only [kR, hag];cases agg with
    | true =>
     simp only [if_true, aQ] at q4 ⊢;exact ⟨us, q4, q3⟩
    | false =>
     simp only [Bool.false_eq_true, if_false] at q4 ⊢;have hl := q5 rfl;have hl2 := q3.length
     match vs, us, q3, hl, hl2 with
     | [c], [u], q3, _, _ =>
      simp only [bR] at q3;obtain ⟨v, vs', hv, hc, _⟩ := q3;cases hv;rw [q4];simp only [aQ, b5];exact hc
  | none =>
   obtain ⟨q1, _⟩ := hfind.2 hq;refine ⟨none, ?_, ?_, by rw [← hr, hq]; rfl⟩
   ·simp only [Instr.findKey, Sem.run_bind, run_underlying hks w, Result.andThen_ok, q1, Sem.run_pure]
   ·rw [← hr, hq];simp only [kR, hag];have hzr' := hzr S;cases agg with
    | true =>
     rw [hag, if_pos rfl] at hz1;simp only [if_true, aQ];exact ⟨z.cells.toList, hz1, hzr'⟩
    | false =>
     obtain ⟨u, hu1, hu2⟩ := hz2 hag;simp only [Bool.false_eq_true, if_false];have hl := (hT.get hei).len;rw [(hT.get hei).one hag] at hl
     match hzz : ei.zero, hl with
     | [c], _ =>
      rw [hzz, hu1] at hzr';simp only [bR] at hzr';obtain ⟨v, vs', hv, hc, _⟩ := hzr';cases hv;rw [hu2];simp only [aQ, b5];exact hc
 obtain ⟨r0, hf, hv, hb⟩ := key;have hck := fun b => iN (P := P) hks b 9999 ⟨⟨k⟩⟩ w
 have fin : aQ S μ st'.h (if ok then .tup [kR ei r, B (zN r)] else kR ei r) (if ok then .tuple #[(zV r0 z), .bool r0.isSome] else (zV r0 z)) := by
  cases ok with
  | false => exact hv
  | true =>
   simp only [if_true, aQ, bO];exact ⟨[_, .bool r0.isSome], rfl, _, [.bool r0.isSome], rfl, hv, .bool r0.isSome, [], rfl, by rw [hb]; simp [b5, Rep], rfl⟩
 refine ⟨_, ?_, fin⟩;rcases h2 with ⟨h2, rfl⟩ | ⟨b, clk, h2, h4⟩
 ·simp only [execOp, ho, h2, h3, Sem.run_bind, Instr.lookup, hu, Result.andThen_ok, Sem.run_pure];rw [show (10000 : Nat) = 9999 + 1 from rfl, hck];simp only [Result.andThen_ok, hf];cases r0 with
  | none => simp only [Sem.run_bind, hz w, Result.andThen_ok, Sem.run_pure]; rfl
  | some p => rfl
 ·simp only [execOp, ho, h2, h3, Sem.run_bind, Instr.lookup, hu, Result.andThen_ok, Sem.run_pure, gH w b es clk h4];rw [show (10000 : Nat) = 9999 + 1 from rfl, hck];simp only [Result.andThen_ok, hf];cases r0 with
  | none => simp only [Sem.run_bind, hz w, Result.andThen_ok, Sem.run_pure]; rfl
  | some p => rfl
theorem pF {t kt et : TypeId} {i ki ei : TI} {x y : Operand} {ok : Bool} {v : V} {ids : List Nat} {agg : Bool} {ents : List (List C)} {k : List UInt8} {r : Option (List C)} (hT : Tok P T) (ho : o.op = .lookup t x y ok) (hd : o.dst = some d) (hdn : d < n) (hi : T[t]? = some (some i)) (hk : i.k = .mp kt et)
  (hki : T[kt]? = some (some ki)) (hkk : ki.k = .str) (hei : T[et]? = some (some ei)) (hag : ei.k.agg = agg) (hx : opv st x = some v) (hm : MapE st ids v agg ents) (hms : i4 ents) (hy : opv st y = some (Go.AM.T k)) (hr : fK k ents = r) :
  Step P n o st ⟨opr x ++ opr y, ids⟩ ⟨some (d, some (if ok then .tup [kR ei r, B (zN r)] else kR ei r)), []⟩ :=
 z6 hT ho hd hdn hi hk hki hkk hei hag hy fun _ ha _ _ _ _ _ hs => by
  obtain ⟨es, h1, h2⟩ := hm.rel hs hms ha.2 (aH hs hx fun t h => ha.1 t (by simp [h]));exact ⟨es, ents, hms, hr, h1, h2⟩
theorem cS {S : Sto} {agg : Bool} : ∀ {a : List (List C)} {x : List MapEntry} {b : List (List C)} {y : List MapEntry}, aZ S agg a x → aZ S agg b y → aZ S agg (a ++ b) (x ++ y)
 | [], _, _, _, h, k => by simp only [aZ] at h; subst h; simpa using k
 | _ :: _, _, _, _, h, k => by
  simp only [aZ, cons_append] at h ⊢;obtain ⟨v, vs', rfl, h1, h2⟩ := h;exact ⟨v, vs' ++ _, rfl, h1, cS h2 k⟩
theorem i9 {S : Sto} {agg : Bool} : ∀ {a : List (List C)} {x : List MapEntry} (n : Nat), aZ S agg a x → aZ S agg (a.take n) (x.take n)
 | _, _, 0, _ => by simp [aZ]
 | [], _, n + 1, h => by simp only [aZ] at h; subst h; simp [aZ]
 | _ :: _, _, n + 1, h => by
  simp only [aZ, take_succ_cons] at h ⊢;obtain ⟨v, vs', rfl, h1, h2⟩ := h;exact ⟨v, vs'.take n, by simp, h1, i9 n h2⟩
theorem iA {S : Sto} {agg : Bool} : ∀ {a : List (List C)} {x : List MapEntry} (n : Nat), aZ S agg a x → aZ S agg (a.drop n) (x.drop n)
 | _, _, 0, h => by simpa using h
 | [], _, n + 1, h => by simp only [aZ] at h; subst h; simp [aZ]
 | _ :: _, _, n + 1, h => by
  simp only [aZ, drop_succ_cons] at h ⊢;obtain ⟨v, vs', rfl, h1, h2⟩ := h;simpa using iA n h2
theorem tR {t kt et : TypeId} {i ki : TI} {x y z : Operand} {id : Nat} {agg : Bool} {ents : List (List C)} {k : List UInt8} {v : V} {rs : List R} {cs : List C} {ids : List Nat} (hT : Tok P T) (ho : o.op = .mapUpdate t x y z) (hd : o.dst = none) (hi : T[t]? = some (some i)) (hk : i.k = .mp kt et)
  (hki : T[kt]? = some (some ki)) (hkk : ki.k = .str) (hx : opv st x = some (.one (.mr id))) (hh : st.h id = some (.map agg ents)) (hms : i4 ents) (hy : opv st y = some (Go.AM.T k))
  (hz : opv st z = some v) (hva : (match v with | .one _ => !agg | .pa _ => agg | .ma _ => agg | _ => false) = true) (hc : eW v = some rs) (hp : PureL st.h ids rs cs) :
  Step P n o st ⟨opr x ++ opr y ++ opr z, id :: ids⟩ ⟨none, [(id, some (.map agg (pL k cs ents)))]⟩ := by
 refine Step.turn hd hh (by simp) (by simp [AObj.succ]) fun st' ha hh' G S μ a w hs => ?_
 have h1 := aH hs hx fun t h => ha.1 t (by simp [h])
 have h3 := iD (aH hs hy fun t h => ha.1 t (by simp [h]));have hv := aH hs hz fun t h => ha.1 t (by simp [h])
 simp only [aQ, b5] at h1;obtain ⟨agg', ents', b, c, q1, q2, q3⟩ := h1;obtain ⟨b', es, clk, g1, g2, g3, g4⟩ := hs.inv.obj id _ hh';rw [g1] at q2; cases q2;have g3 := g3.rep hms;have hrep := hp.rel (fun i h => ha.2 i (by simp [h])) hs.inv.obj (dD hv hc);have hval : a.eval z = (if agg then .agg ⟨(a.eval z).cells.toList⟩ else (a.eval z).cells.toList.headD undef) ∧ (agg = false → (a.eval z).cells.toList.length = 1) := by
  cases v with
  | one r =>
   simp at hva;subst hva;simp only [aQ] at hv;rw [hv.one.1];simp
  | pa l =>
   simp at hva;subst hva;simp only [aQ] at hv;obtain ⟨vs, hv, _⟩ := hv;rw [hv];simp [Value.cells]
  | ma l =>
   simp at hva;subst hva;simp only [aQ] at hv;obtain ⟨vs, hv, _⟩ := hv;rw [hv];simp [Value.cells]
  | tup l => simp at hva
 have hks := (hT.get hki).str hkk;have hu := run_underlying ((hT.get hi).map hk) w;have hfind := gZ (k := k) ents es.toList 0 g3 hms;have hck := fun b => iN (P := P) hks b 9999 ⟨⟨k⟩⟩ w
 have hone : ∀ e : MapEntry, e.key = .string ⟨⟨k⟩⟩ → e.val = a.eval z → aZ S agg [.str k :: cs] [e] := by
  intro e he1 he2;simp only [aZ];refine ⟨e, [], rfl, ⟨(a.eval z).cells.toList, ?_, by rw [he2]; exact hval.1, hval.2⟩, rfl⟩;simp only [bR];exact ⟨e.key, _, rfl, by simp [Rep, he1], hrep⟩
 have hset : ∀ (ob : Obj), (setObj b ob).run P w = .ok () { w with heap := w.heap.setIfInBounds b ob } := by
  intro ob;exact MapKept.run_setObj_map _ g2
 have hW : ∀ ob, WChg w { w with heap := w.heap.setIfInBounds b ob } b ob := fun ob => by
  have hlt := dS g2;refine ⟨rfl, rfl, rfl, by simp, by simp [hlt], fun k _ hne => ?_⟩;show (w.heap.setIfInBounds b ob)[k]? = _;rw [Array.getElem?_setIfInBounds, if_neg (fun e => hne e.symm)]
 have hSc : ∀ (ob : Obj) (o : Nat) (v : Value), S.cell b o = some v → ∃ vs t fr, ob = .cells vs t fr ∧ vs[o]? = some v := fun ob o v e => by
  obtain ⟨vs, t, fr, p1, _⟩ := hs.inv.holds.1 b o v e;rw [g2] at p1; cases p1
 have g4 := g4.kn0 hms;have hSm : ∀ m, S.mapo b = some m → w.heap.size ≤ b := fun m e => by rw [g4] at e; cases e
 cases hq : fK k ents with
 | some vs =>
  obtain ⟨j, e, p1, p2, _, p4, p5, p6⟩ := hfind.1 vs hq;refine ⟨_, .map (es.modify j fun e => { e with key := .string ⟨⟨k⟩⟩, val := a.eval z }) clk, b, (0, 0), ?_, g1, hW _, ⟨b, _, clk, aC _ _ _, (hW _).new, .inr (.inl ?_), .inl g4⟩, hSc _, hSm⟩
  ·have hkey : ((es[j]?).map (·.key)).getD (.string ⟨⟨k⟩⟩) = .string ⟨⟨k⟩⟩ := by
    rw [← Array.getElem?_toList, p2];simpa using p4
   have hkt : (Instr.keyThatStays (.string ⟨⟨k⟩⟩) (.string ⟨⟨k⟩⟩)).run P w = .ok (.string ⟨⟨k⟩⟩) w := by
    have hsb : Instr.sameBits 10000 (.string ⟨⟨k⟩⟩) (.string ⟨⟨k⟩⟩) = true := by simp [Instr.sameBits, wR]
    simp only [Instr.keyThatStays, hsb, if_true, Sem.run_pure]
   simp only [execOp, ho, q3, h3, Sem.run_bind, Instr.mapUpdate, hu, Result.andThen_ok, gH w b es clk g2];rw [show (10000 : Nat) = 9999 + 1 from rfl, hck];simp only [Result.andThen_ok, Instr.findKey, Sem.run_bind, run_underlying hks w, p1, Sem.run_pure, zero_add, hkey, hkt, hset]
  ·rw [p6 cs, Array.toList_modify];have hmod : es.toList.modify j (fun e => { e with key := .string ⟨⟨k⟩⟩, val := a.eval z }) = es.toList.take j ++ { e with key := .string ⟨⟨k⟩⟩, val := a.eval z } :: es.toList.drop (j + 1) := by
    apply List.ext_getElem?;intro i;rw [List.getElem?_modify];have p5' : j < es.size := by simpa using p5
    by_cases c1 : i < j
    ·rw [List.getElem?_append_left (by simp; omega), List.getElem?_take, if_pos c1];simp [show ¬ j = i by omega]
    ·rw [List.getElem?_append_right (by simp; omega)];simp only [length_take];by_cases c2 : j = i
     ·subst c2;rw [p2];have hm : min j es.toList.length = j := by simp; omega
      rw [hm];simp
     ·rw [min_eq_left (Nat.le_of_lt p5), show i - j = (i - j - 1) + 1 by omega, List.getElem?_cons_succ, List.getElem?_drop];simp [c2, show j + 1 + (i - j - 1) = i by omega]
   rw [hmod];have := cS (i9 j g3) (cS (hone { e with key := .string ⟨⟨k⟩⟩, val := a.eval z } rfl rfl) (iA (j + 1) g3));exact this
 | none =>
  obtain ⟨p1, p2⟩ := hfind.2 hq;refine ⟨_, .map (es.push { key := .string ⟨⟨k⟩⟩, val := a.eval z, born := clk }) (clk + 1), b, (0, 0), ?_, g1, hW _, ⟨b, _, clk + 1, aC _ _ _, (hW _).new, .inr (.inl ?_), .inl g4⟩, hSc _, hSm⟩
  ·simp only [execOp, ho, q3, h3, Sem.run_bind, Instr.mapUpdate, hu, Result.andThen_ok, gH w b es clk g2];rw [show (10000 : Nat) = 9999 + 1 from rfl, hck];simp only [Result.andThen_ok, Instr.findKey, Sem.run_bind, run_underlying hks w, p1, Sem.run_pure, hset]
  ·rw [p2 cs, Array.toList_push];exact cS g3 (hone _ rfl rfl)
theorem aEz {P : Program} {T : TT} {o : Oper} {t kt et : TypeId} {i ki : TI} {x y z : Operand} {agg : Bool} {ents : List (List C)} {k : List UInt8} {cs : List C} {S : Sto} {a : Act} {w : World} {b : Nat} {es : Array MapEntry} {clk : Nat} (hT : Tok P T) (ho : o.op = .insert t x y z) (hi : T[t]? = some (some i)) (hk : i.k = .mp kt et)
  (hki : T[kt]? = some (some ki)) (hkk : ki.k = .str) (q3 : a.eval x = .map (some b)) (h3 : a.eval y = .string ⟨⟨k⟩⟩) (g2 : w.heap[b]? = some (.map es clk)) (g3 : aZ S agg ents es.toList) (hms : i4 ents)
  (hrep : bR S cs (a.eval z).cells.toList) (hval : a.eval z = (if agg then .agg ⟨(a.eval z).cells.toList⟩ else (a.eval z).cells.toList.headD undef) ∧ (agg = false → (a.eval z).cells.toList.length = 1)) :
  ∃ es' clk', (execOp a.eval o).run P w = .ok .skip { w with heap := w.heap.setIfInBounds b (.map es' clk') } ∧ aZ S agg (pL k cs ents) es'.toList := by
 have hks := (hT.get hki).str hkk;have hu := run_underlying ((hT.get hi).map hk) w;have hfind := gZ (k := k) ents es.toList 0 g3 hms;have hck := fun b => iN (P := P) hks b 9999 ⟨⟨k⟩⟩ w
 have hone : ∀ e : MapEntry, e.key = .string ⟨⟨k⟩⟩ → e.val = a.eval z → aZ S agg [.str k :: cs] [e] := by
  intro e he1 he2;simp only [aZ];refine ⟨e, [], rfl, ⟨(a.eval z).cells.toList, ?_, by rw [he2]; exact hval.1, hval.2⟩, rfl⟩;simp only [bR];exact ⟨e.key, _, rfl, by simp [Rep, he1], hrep⟩
 have hset : ∀ (ob : Obj), (setObj b ob).run P w = .ok () { w with heap := w.heap.setIfInBounds b ob } := by
  intro ob;exact MapKept.run_setObj_map _ g2
 cases hq : fK k ents with
 | some vs =>
  obtain ⟨j, e, p1, p2, _, p4, p5, p6⟩ := hfind.1 vs hq;refine ⟨es.modify j fun e => { e with key := .string ⟨⟨k⟩⟩, val := a.eval z }, clk, ?_, ?_⟩
  ·have hkey : ((es[j]?).map (·.key)).getD (.string ⟨⟨k⟩⟩) = .string ⟨⟨k⟩⟩ := by
    rw [← Array.getElem?_toList, p2];simpa using p4
   have hkt : (Instr.keyThatStays (.string ⟨⟨k⟩⟩) (.string ⟨⟨k⟩⟩)).run P w = .ok (.string ⟨⟨k⟩⟩) w := by
    have hsb : Instr.sameBits 10000 (.string ⟨⟨k⟩⟩) (.string ⟨⟨k⟩⟩) = true := by simp [Instr.sameBits, wR]
    simp only [Instr.keyThatStays, hsb, if_true, Sem.run_pure]
   simp only [execOp, ho, q3, h3, Sem.run_bind, Instr.mapUpdate, hu, Result.andThen_ok, gH w b es clk g2];rw [show (10000 : Nat) = 9999 + 1 from rfl, hck];simp only [Result.andThen_ok, Instr.findKey, Sem.run_bind, run_underlying hks w, p1, Sem.run_pure, zero_add, hkey, hkt, hset]
  ·rw [p6 cs, Array.toList_modify];have hmod : es.toList.modify j (fun e => { e with key := .string ⟨⟨k⟩⟩, val := a.eval z }) = es.toList.take j ++ { e with key := .string ⟨⟨k⟩⟩, val := a.eval z } :: es.toList.drop (j + 1) := by
    apply List.ext_getElem?;intro i;rw [List.getElem?_modify];have p5' : j < es.size := by simpa using p5
    by_cases c1 : i < j
    ·rw [List.getElem?_append_left (by simp; omega), List.getElem?_take, if_pos c1];simp [show ¬ j = i by omega]
    ·rw [List.getElem?_append_right (by simp; omega)];simp only [length_take];by_cases c2 : j = i
     ·subst c2;rw [p2];have hm : min j es.toList.length = j := by simp; omega
      rw [hm];simp
     ·rw [min_eq_left (Nat.le_of_lt p5), show i - j = (i - j - 1) + 1 by omega, List.getElem?_cons_succ, List.getElem?_drop];simp [c2, show j + 1 + (i - j - 1) = i by omega]
   rw [hmod];have := cS (i9 j g3) (cS (hone { e with key := .string ⟨⟨k⟩⟩, val := a.eval z } rfl rfl) (iA (j + 1) g3));exact this
 | none =>
  obtain ⟨p1, p2⟩ := hfind.2 hq;refine ⟨es.push { key := .string ⟨⟨k⟩⟩, val := a.eval z, born := clk }, clk + 1, ?_, ?_⟩
  ·simp only [execOp, ho, q3, h3, Sem.run_bind, Instr.mapUpdate, hu, Result.andThen_ok, gH w b es clk g2];rw [show (10000 : Nat) = 9999 + 1 from rfl, hck];simp only [Result.andThen_ok, Instr.findKey, Sem.run_bind, run_underlying hks w, p1, Sem.run_pure, hset]
  ·rw [p2 cs, Array.toList_push];exact cS g3 (hone _ rfl rfl)
theorem aCk {t kt et : TypeId} {i ki : TI} {x y z : Operand} {id : Nat} {agg : Bool} {ents : List (List C)} {k : List UInt8} {v : V} {rs : List R} {cs : List C} {ids : List Nat} (hT : Tok P T) (ho : o.op = .insert t x y z) (hd : o.dst = none) (hi : T[t]? = some (some i)) (hk : i.k = .mp kt et)
  (hki : T[kt]? = some (some ki)) (hkk : ki.k = .str) (hx : opv st x = some (.one (.mr id))) (hh : st.h id = some (.map agg ents)) (hms : i4 ents) (hy : opv st y = some (Go.AM.T k))
  (hz : opv st z = some v) (hva : (match v with | .one _ => !agg | .pa _ => agg | .ma _ => agg | _ => false) = true) (hc : eW v = some rs) (hp : PureL st.h ids rs cs) :
  Step P n o st ⟨opr x ++ opr y ++ opr z, id :: ids⟩ ⟨none, [(id, some (.map agg (pL k cs ents)))]⟩ := by
 refine Step.turn hd hh (by simp) (by simp [AObj.succ]) fun st' ha hh' G S μ a w hs => ?_
 have h1 := aH hs hx fun t h => ha.1 t (by simp [h])
 have h3 := iD (aH hs hy fun t h => ha.1 t (by simp [h]));have hv := aH hs hz fun t h => ha.1 t (by simp [h])
 simp only [aQ, b5] at h1;obtain ⟨agg', ents', b, c, q1, q2, q3⟩ := h1;obtain ⟨b', es, clk, g1, g2, g3, g4⟩ := hs.inv.obj id _ hh';rw [g1] at q2; cases q2;have g3 := g3.rep hms;have hrep := hp.rel (fun i h => ha.2 i (by simp [h])) hs.inv.obj (dD hv hc);have hval : a.eval z = (if agg then .agg ⟨(a.eval z).cells.toList⟩ else (a.eval z).cells.toList.headD undef) ∧ (agg = false → (a.eval z).cells.toList.length = 1) := by
  cases v with
  | one r =>
   simp at hva;subst hva;simp only [aQ] at hv;rw [hv.one.1];simp
  | pa l =>
   simp at hva;subst hva;simp only [aQ] at hv;obtain ⟨vs, hv, _⟩ := hv;rw [hv];simp [Value.cells]
  | ma l =>
   simp at hva;subst hva;simp only [aQ] at hv;obtain ⟨vs, hv, _⟩ := hv;rw [hv];simp [Value.cells]
  | tup l => simp at hva
 obtain ⟨es', clk', hrun, hnew⟩ := aEz (P := P) hT ho hi hk hki hkk q3 h3 g2 g3 hms hrep hval;have hW : ∀ ob, WChg w { w with heap := w.heap.setIfInBounds b ob } b ob := fun ob => by
  have hlt := dS g2;refine ⟨rfl, rfl, rfl, by simp, by simp [hlt], fun k _ hne => ?_⟩;show (w.heap.setIfInBounds b ob)[k]? = _;rw [Array.getElem?_setIfInBounds, if_neg (fun e => hne e.symm)]
 have hSc : ∀ (ob : Obj) (o : Nat) (v : Value), S.cell b o = some v → ∃ vs t fr, ob = .cells vs t fr ∧ vs[o]? = some v := fun ob o v e => by
  obtain ⟨vs, t, fr, p1, _⟩ := hs.inv.holds.1 b o v e;rw [g2] at p1; cases p1
 have g4 := g4.kn0 hms;have hSm : ∀ m, S.mapo b = some m → w.heap.size ≤ b := fun m e => by rw [g4] at e; cases e
 exact ⟨_, .map es' clk', b, (0, 0), hrun, g1, hW _, ⟨b, _, clk', aC _ _ _, (hW _).new, .inr (.inl hnew), .inl g4⟩, hSc _, hSm⟩
end
section
variable {P : Program} {n : Nat} {o : Oper} {st : St} {d : Nat} {T : TT}
theorem jC {α : Type} (f : Nat → Option α) (k : Nat) (x y : Option α) : upd (upd f k x) k y = upd f k y := by
 funext i;simp only [upd];split <;> rfl
theorem zH {t e : TypeId} {i ei : TI} {x y : Operand} {rows : List (List C)} {vy : V} {ids : List Nat} (id : Nat) (hT : Tok P T) (ho : o.op = .call { callee := .builtin .append, args := #[x, y], argTypes := #[t, t] }) (hd : o.dst = some d) (hdn : d < n)
  (hi : T[t]? = some (some i)) (hk : i.k = .sl e) (hei : T[e]? = some (some ei)) (hes : Nat.ble 1 ei.size = true) (heb : Nat.ble 1 ei.bytes = true)
  (hx : opv st x = some (.one (.c .nl))) (hid : st.h id = none) (hy : opv st y = some vy) (hsrc : Src st ei.size ids vy rows)
  (hroom : rows.length * ei.bytes ≤ 140737488355328) :
  Step P n o st ⟨opr x ++ opr y, id :: ids⟩ ⟨some (d, some (.one (.hs id 0 rows.length rows.length))), [(id, some (.arr e ei.size rows 0))]⟩ := by
 intro st' ha G S μ a w K Q hs hk';have hid' : st'.h id = none := by rw [ha.2 id (by simp), hid]
 obtain ⟨hi', hE⟩ := hs.inv.empty e ei.size hid';have hs2 : Sim G n S (upd μ id none) ⟨st'.e, upd st'.h id (some (.arr e ei.size [] 0)), st'.d⟩ a w := ⟨hi', hs.size, hs.defers.evolve hE, fun t v e => aQ.evolve hE v _ (hs.env t v e)⟩
 have hvx := aH hs hx fun t ht => ha.1 t (by simp [ht])
 have hvy := aH hs hy fun t ht => ha.1 t (by simp [ht])
 simp only [aQ, b5, Rep] at hvx;have hvx' : aQ S (upd μ id none) (upd st'.h id (some (.arr e ei.size [] 0))) (.one (.hs id 0 0 0)) (a.eval x) := by
  simp only [aQ, b5];exact ⟨⟨_, _, _, hvx⟩, .inr ⟨e, ei.size, [], 0, aC _ _ _, le_refl _, fun _ => ⟨le_refl _, .inl ⟨aC _ _ _, rfl, hvx⟩⟩⟩⟩
 have hne : ∀ j ∈ ids, j ≠ id := by
  intro j hj e;subst e;cases hsrc with
  | hs h1 _ _ => simp at hj; subst hj; rw [hid] at h1; cases h1
  | all h1 _ => simp at hj; subst hj; rw [hid] at h1; cases h1
  | sl => simp at hj
  | nl => simp at hj
  | sn => simp at hj
 have := tF (fz := 0) (elems := []) (id := id) hT ho hi hk hei hes heb rfl (by simpa using hroom) (aC _ _ _) hs2 hvx' (aQ.evolve hE _ _ hvy) hsrc fun j hj => by
  show upd st'.h id (some (.arr e ei.size [] 0)) j = _;rw [aT _ _ _ (hne j hj)];exact ha.2 j (by simp [hj])
 refine zR hd hdn (by simp) _ (aC _ _ _) hs2 (fun S' μ' a' w' h => hk' S' μ' a' w' ?_) this;have e1 : Eff.apply ⟨some (d, some (.one (.hs id 0 (([] : List (List C)).length + rows.length) (([] : List (List C)).length + rows.length)))), [(id, some (.arr e ei.size ([] ++ rows) (if 0 = 0 then 0 else 1)))]⟩ ⟨st'.e, upd st'.h id (some (.arr e ei.size [] 0)), st'.d⟩
   = Eff.apply ⟨some (d, some (.one (.hs id 0 rows.length rows.length))), [(id, some (.arr e ei.size rows 0))]⟩ st' := by
  unfold Eff.apply;rw [cD, cD, jC];simp
 rw [e1] at h;exact h
theorem Sub.conv {kf ids : List Nat} {t : Nat} {v v' : V} (h : st.e t = some v) (hc : Conv st.h ids v v') : Sub kf ⟨upd st.e t (some v'), st.h, st.d⟩ st := by
 intro G n S μ a w _ hs;refine ⟨S, μ, ⟨hs.inv, hs.size, hs.defers, fun s u e => ?_⟩⟩;by_cases hst : s = t
 ·subst hst;have : some v' = some u := by rw [← e]; exact (aC _ _ _).symm
  cases this;exact hc.rel (fun _ _ => rfl) hs.inv.obj (hs.env s _ h)
 ·exact hs.env s u (by rw [← e]; exact (aT _ _ _ hst).symm)
theorem aCd {t e : TypeId} {i ei : TI} {len : Nat} {parts : Array (Nat × Operand)} {ids : List Nat} {rows : List (List C)} (id : Nat) (hT : Tok P T) (ho : o.op = .buildSlice t len parts) (hd : o.dst = some d) (hdn : d < n) (hi : T[t]? = some (some i)) (hk : i.k = .sl e) (hei : T[e]? = some (some ei)) (hrows : RowsV st ei.size 0 ids parts.toList rows) (hlen : Nat.beq len parts.size = true) (hsmall : Nat.ble (len * ei.size) 16777216 = true) (hsm1 : Nat.ble len 16777216 = true) (hid : st.h id = none) :
  Step P n o st ⟨eJ parts.toList, id :: ids⟩ ⟨some (d, some (.one (.c (.sl ei.size rows)))), [(id, some (.arr e ei.size rows 2))]⟩ := by
 intro st' ha G S μ a w K Q hs hk';refine z2 id hT ho hd hdn hi hk hei hrows hlen hsmall hsm1 hid st' ha G S μ a w K Q hs fun S1 μ1 a1 w1 h1 => ?_
 have hlen' : len = rows.length := by rw [hrows.lengths]; simpa using eq_of_beq_eq_true hlen
 have hh : (Eff.apply ⟨some (d, some (.one (.hs id 0 len len))), [(id, some (.arr e ei.size rows 0))]⟩ st').h id = some (.arr e ei.size rows 0) := by
  show jD st'.h [(id, some (.arr e ei.size rows 0))] id = _;rw [cD, aC]
 obtain ⟨S2, μ2, h2⟩ := h1.freeze hh;refine hk' S2 μ2 a1 w1 ⟨?_, h2.size, ?_, fun s u e1 => ?_⟩
 ·have := h2.inv;show Inv G S2 μ2 (jD st'.h [(id, some (.arr e ei.size rows 2))]) w1;rw [cD];have e2 : upd (Eff.apply ⟨some (d, some (.one (.hs id 0 len len))), [(id, some (.arr e ei.size rows 0))]⟩ st').h id (some (.arr e ei.size rows 2)) = upd st'.h id (some (.arr e ei.size rows 2)) := by
   show upd (jD st'.h [(id, some (.arr e ei.size rows 0))]) id _ = _;rw [cD, jC]
  rw [← e2]; exact this
 ·have := h2.defers;show Marks _ μ2 (jD st'.h [(id, some (.arr e ei.size rows 2))]) st'.d a1.defers;rw [cD];have e2 : upd (Eff.apply ⟨some (d, some (.one (.hs id 0 len len))), [(id, some (.arr e ei.size rows 0))]⟩ st').h id (some (.arr e ei.size rows 2)) = upd st'.h id (some (.arr e ei.size rows 2)) := by
   show upd (jD st'.h [(id, some (.arr e ei.size rows 0))]) id _ = _;rw [cD, jC]
  rw [← e2]; exact this
 ·have e2 : upd (Eff.apply ⟨some (d, some (.one (.hs id 0 len len))), [(id, some (.arr e ei.size rows 0))]⟩ st').h id (some (.arr e ei.size rows 2)) = jD st'.h [(id, some (.arr e ei.size rows 2))] := by
   show upd (jD st'.h [(id, some (.arr e ei.size rows 0))]) id _ = _;rw [cD, cD, jC]
  show aQ S2 μ2 (jD st'.h [(id, some (.arr e ei.size rows 2))]) u (a1.tmps.getD s undef);by_cases hsd : s = d
  ·subst hsd;have hu : u = .one (.c (.sl ei.size rows)) := by
    have : upd st'.e s (some (.one (.c (.sl ei.size rows)))) s = some u := e1;rw [aC] at this;cases this; rfl
   subst hu;have hv := h2.env s (.one (.hs id 0 len len)) (aC _ _ _);have hO := h2.inv.obj id _ (aC _ _ _);have := (Conv.one (h := upd (Eff.apply ⟨some (s, some (.one (.hs id 0 len len))), [(id, some (.arr e ei.size rows 0))]⟩ st').h id (some (.arr e ei.size rows 2))) (PureL.hs (e := rows) (aC _ _ _) hlen' (by rw [hlen']; simp) .nil)).rel (fun _ _ => rfl) h2.inv.obj hv;rw [← e2];exact this
  ·have : upd st'.e d (some (.one (.c (.sl ei.size rows)))) s = some u := e1;rw [aT _ _ _ hsd] at this;have hv := h2.env s u (by show upd st'.e d _ s = some u; rw [aT _ _ _ hsd]; exact this);rw [← e2];exact hv
theorem aG9 {tx ty : TypeId} {x y : Operand} {a b : Nat} (ho : o.op = .binOp .add tx x y ty) (hd : o.dst = some d) (hdn : d < n) (hx : opv st x = some (I .i64 (a : Nat))) (hy : opv st y = some (I .i64 (b : Nat))) (hr : a + b ≤ 9223372036854775807) :
  Step P n o st ⟨opr x ++ opr y, []⟩ ⟨some (d, some (I .i64 ((a + b : Nat) : Int))), []⟩ := aFd ho hd hdn hx hy (by rw [← Int.natCast_add]; exact IntWalk.i64_in _ (by omega))
theorem aG3 {tx ty : TypeId} {x y : Operand} {a b : Nat} (ho : o.op = .binOp .mul tx x y ty) (hd : o.dst = some d) (hdn : d < n) (hx : opv st x = some (I .i64 (a : Nat))) (hy : opv st y = some (I .i64 (b : Nat))) (hr : a * b ≤ 9223372036854775807) :
  Step P n o st ⟨opr x ++ opr y, []⟩ ⟨some (d, some (I .i64 ((a * b : Nat) : Int))), []⟩ := aE4 ho hd hdn hx hy (by rw [← Int.natCast_mul]; exact IntWalk.i64_in _ (by omega))
theorem aGs {tx ty : TypeId} {x y : Operand} {a b : Nat} (ho : o.op = .binOp .sub tx x y ty) (hd : o.dst = some d) (hdn : d < n) (hx : opv st x = some (I .i64 (a : Nat))) (hy : opv st y = some (I .i64 (b : Nat))) (hr : b ≤ a ∧ a ≤ 9223372036854775807) :
  Step P n o st ⟨opr x ++ opr y, []⟩ ⟨some (d, some (I .i64 ((a - b : Nat) : Int))), []⟩ := aE1 ho hd hdn hx hy (by rw [show (a : Int) - b = ((a - b : Nat) : Int) by omega]; exact IntWalk.i64_in _ (by omega))
theorem aG0 {tx ty : TypeId} {x y : Operand} {a b : Nat} (ho : o.op = .binOp .quo tx x y ty) (hd : o.dst = some d) (hdn : d < n) (hx : opv st x = some (I .i64 (a : Nat))) (hy : opv st y = some (I .i64 (b : Nat))) (hr : a ≤ 9223372036854775807 ∧ 1 ≤ b) :
  Step P n o st ⟨opr x ++ opr y, []⟩ ⟨some (d, some (I .i64 ((a / b : Nat) : Int))), []⟩ := by
 have := aD2 (P := P) (n := n) ho hd hdn hx hy (by omega);rwa [← Int.natCast_ediv] at this
theorem aGz {tx ty : TypeId} {x y : Operand} {a b : Nat} (ho : o.op = .binOp .rem tx x y ty) (hd : o.dst = some d) (hdn : d < n) (hx : opv st x = some (I .i64 (a : Nat))) (hy : opv st y = some (I .i64 (b : Nat))) (hr : 1 ≤ b) :
  Step P n o st ⟨opr x ++ opr y, []⟩ ⟨some (d, some (I .i64 ((a % b : Nat) : Int))), []⟩ := by
 have := aD1 (P := P) (n := n) ho hd hdn hx hy (by omega);rwa [← Int.natCast_emod] at this
theorem aIo {t1 t2 : TypeId} {x y : Operand} {k : IntKind} {a b r : Int} (ho : o.op = .call { callee := .builtin .max, args := #[x, y], argTypes := #[t1, t2] }) (hd : o.dst = some d) (hdn : d < n) (hx : opv st x = some (I k a)) (hy : opv st y = some (I k b)) (hr : (if b > a then b else a) = r) :
  Step P n o st ⟨opr x ++ opr y, []⟩ ⟨some (d, some (I k r)), []⟩ := by
 refine Step.value hd hdn fun st' ha G S μ ac w hs => ?_
 have h1 := dX (aH hs hx fun t h => ha.1 t (by simp [h]));have h2 := dX (aH hs hy fun t h => ha.1 t (by simp [h]));refine ⟨.int k r, ?_, by simp [aQ, b5, Rep]⟩;simp only [execOp, ho, resolve, map_toArray, map_cons, map_nil, h1, h2, Sem.run_bind, Sem.run_pure, Result.andThen_ok, invoke, builtin, Builtin.max_, List.foldlM_cons, List.foldlM_nil, Builtin.max2, hr]
end
theorem rN {α : Type} {k i : Nat} {x : α} {l : List (Nat × α)} (h : i ≠ k) : look ((k, x) :: l) i = look l i := by
 have : Nat.beq i k = false := by
  cases hb : Nat.beq i k with
  | false => rfl
  | true => exact absurd (eq_of_beq_eq_true hb) h
 simp [look, this]
theorem jA {α : Type} {k : Nat} {x : α} {l : List (Nat × α)} : look ((k, x) :: l) k = some x := by simp [look]
section
variable {P : Program} {n : Nat} {o : Oper} {st : St} {d : Nat}
end
structure Wf (ks : List Nat) (hl : List (Nat × AObj)) : Prop where
 keys : keys hl = ks
 ok : (subset (eS hl) ks && distinct ks && (hl.all fun p => p.2.live && p.2.plain)) = true
theorem Wf.all {ks : List Nat} {hl : List (Nat × AObj)} (h : Wf ks hl) : fU (fun p => look hl p.1 = some p.2) hl := by
 have hk := h.ok;simp only [Bool.and_eq_true] at hk;have hd := hK hk.1.2;rw [← h.keys] at hd;have key : ∀ l : List (Nat × AObj), (∀ p ∈ l, p ∈ hl) → fU (fun p => look hl p.1 = some p.2) l := by
  intro l
  induction l with
  | nil => intro _; trivial
  | cons p l ih =>
   intro hp;refine ⟨?_, ih fun q hq => hp q (by simp [hq])⟩;have hm := hp p (by simp);obtain ⟨x, hx⟩ := dU (mem_map.2 ⟨p, hm, rfl⟩ : p.1 ∈ hl.map (·.1));have := mR (f := fun q : Nat × AObj => q.1) hd _ (bW hx) _ hm rfl;show look hl p.1 = some p.2;rw [hx, ← this]
 exact key hl fun p hp => hp
theorem Wf.live {ks : List Nat} {hl : List (Nat × AObj)} (h : Wf ks hl) : (hl.all fun p => p.2.live) = true := by
 have hk := h.ok;simp only [Bool.and_eq_true, all_eq_true] at hk ⊢;exact fun p hp => (hk.2 p hp).1
theorem Wf.plain {ks : List Nat} {hl : List (Nat × AObj)} (h : Wf ks hl) : (hl.all fun p => p.2.plain) = true := by
 have hk := h.ok;simp only [Bool.and_eq_true, all_eq_true] at hk ⊢;exact fun p hp => (hk.2 p hp).2
theorem Wf.refs {ks : List Nat} {hl : List (Nat × AObj)} (h : Wf ks hl) : subset (eS hl) (Go.AM.keys hl) = true := by
 have hk := h.ok;simp only [Bool.and_eq_true] at hk;rw [h.keys];exact hk.1.1
theorem Wf.distinct {ks : List Nat} {hl : List (Nat × AObj)} (h : Wf ks hl) : Go.AM.distinct (Go.AM.keys hl) = true := by
 have hk := h.ok;simp only [Bool.and_eq_true] at hk;rw [h.keys];exact hk.1.2
theorem dW (l : List Nat) : subset l l = true := by simp [subset]
theorem Sub.heap {kf ks : List Nat} {st1 : St} {el : List (Nat × V)} {hl : List (Nat × AObj)} (hw : Wf ks hl) (he : fU (fun p => st1.e p.1 = some p.2) el) (hh : ∀ id o, look hl id = some o → st1.h id = some o)
  (h1 : subset (jF el) ks = true) (h2 : subset kf ks = true) (h3 : eqL [] st1.d = true) : Sub kf (mk el hl) st1 := by
 refine Sub.list (fun i => i) ?_ ?_ ?_
 ·have key : ∀ l : List (Nat × V), fU (fun p => st1.e p.1 = some p.2) l → fU (fun p => st1.e p.1 = some (p.2.ren fun i => i)) l := by
   intro l
   induction l with
   | nil => intro _; trivial
   | cons p l ih => intro h; exact ⟨by show st1.e p.1 = some (p.2.ren fun i => i); rw [V.ren_id]; exact h.1, ih h.2⟩
  exact key _ he
 ·have key : ∀ l : List (Nat × AObj), (∀ p ∈ l, p.2.live = true) → fU (fun p => look hl p.1 = some p.2) l → fU (fun p => ∃ o, st1.h p.1 = some o ∧ Ole (fun i => i) o p.2) l := by
   intro l
   induction l with
   | nil => intro _ _; trivial
   | cons p l ih =>
    intro hv h;refine ⟨⟨p.2, hh _ _ h.1, .refl_id ?_⟩, ih (fun q hq => hv q (by simp [hq])) h.2⟩;intro e;have := hv p (by simp);rw [e] at this;cases this
  exact key _ (fun p hp => (all_eq_true.1 hw.live) p hp) hw.all
 ·simp only [aCv, Bool.and_eq_true];have hk : List.map (fun p : Nat × AObj => p.1) hl = ks := hw.keys;refine ⟨⟨⟨⟨⟨?_, ?_⟩, ?_⟩, ?_⟩, ?_⟩, h3⟩
  ·rw [hk]; exact h1
  ·exact hw.refs
  ·exact hw.distinct
  ·rw [hk]; exact h2
  ·simp
theorem Wf.callOk {ks : List Nat} {hl : List (Nat × AObj)} (h : Wf ks hl) {args : List V} (ha : subset (V.refsL args) ks = true) : callOk args hl = true := by
 simp only [Go.AM.callOk, Bool.and_eq_true];exact ⟨⟨by rw [h.keys]; exact ha, h.refs⟩, h.live⟩
theorem fU.of {α : Type} {p : α → Prop} : ∀ {l : List α}, (∀ x ∈ l, p x) → fU p l
 | [], _ => trivial
 | x :: l, h => ⟨h x (by simp), fU.of fun y hy => h y (by simp [hy])⟩
theorem Wf.hout {ks : List Nat} {hl hl' : List (Nat × AObj)} (h : Wf ks hl) (h' : Wf ks hl') {g : cH} : fU (fun q : Nat × AObj => q.1 ∈ Go.AM.keys hl ∨ g q.1 = none) hl' :=
 fU.of fun q hq => .inl (by rw [h.keys, ← h'.keys]; exact mem_map.2 ⟨q, hq, rfl⟩)
theorem Fin.heap {T : TT} {fn : Func} {st : St} {ks : List Nat} {hin hout : List (Nat × AObj)} {vs vs' : List V} (hw : Wf ks hin) (hw' : Wf ks hout) (hh : ∀ id o, look hout id = some o → st.h id = some o) (hr : ResV T st fn.results.toList vs) (hc : Convs st.h vs vs') (hs : subset (yJ vs').refs ks = true) : Fin T fn st hin (yJ vs') hout := by
 refine ⟨⟨vs, vs', hr, hc, rfl⟩, fU.of fun p hp => ⟨p.2, hh _ _ (hw'.all.mem p hp), .refl_id ?_⟩, ?_⟩
 ·intro e;have := (all_eq_true.1 hw'.live) p hp;rw [e] at this;cases this
 ·simp only [Bool.and_eq_true];exact ⟨⟨⟨⟨⟨by rw [hw'.keys]; exact hs, hw'.refs⟩, hw'.distinct⟩, by rw [hw.keys, hw'.keys]; exact dW _⟩, hw.plain⟩, hw'.plain⟩
def mV (W : World) : Sto :=
 ⟨fun b o => match W.heap[b]? with | some (.cells vs _ _) => vs[o]? | _ => none, fun b => match W.heap[b]? with | some (.map es clk) => some (.all es clk) | _ => none⟩
theorem xU (W : World) : tI (mV W) W := by
 refine ⟨fun b o v h => ?_, fun b mk h => ?_⟩
 ·simp only [mV] at h;split at h
  ·rename_i vs t fr hq;exact ⟨vs, t, fr, hq, h⟩
  ·cases h
 ·simp only [mV] at h;split at h
  ·rename_i hq;cases h;exact hq
  ·cases h
theorem vY (W : World) : (mV W).noTop := fun b m e => by
 simp only [mV] at e;split at e
 ·cases e; exact ⟨_, _, rfl⟩
 ·cases e
theorem zM (W : World) : (mV W).free := fun b te lo hi e => by
 obtain ⟨_, _, h⟩ := vY W b _ e;cases h
theorem rI {W : World} {a : Addr} {v : Value} (h : W.cell? a = some v) : (mV W).cell a.block a.off = some v := by
 unfold World.cell? at h;simp only [mV];split at h
 ·rename_i hq;rw [hq];split at h
  ·cases h
  ·exact h
 ·cases h
theorem xY {P : Program} {f : FuncId} {args : List V} {vals : List Value} {res : V} (h : aGb P f args res) (W : World) (hv : bO (mV W) (fun _ => none) (look []) args vals) (ht : aDs W := by first | assumption | (intro g h; cases h)) :
  Calls P f ⟨vals⟩ W fun e W' => ∃ v S μ, e = .returned v ∧ RowKit.Below W.heap.size W W' ∧ aQ S μ (look []) res v := by
 have hI : Inv ⟨W, mV W, nL (fun _ => none) (look []), fun _ => none, look []⟩ (mV W) (fun _ => none) (look []) W :=
  ⟨xU W, (fun _ _ h => by cases h), (fun _ _ _ _ _ _ _ h => by cases h), (fun _ _ _ _ h => by cases h), FrameW.refl _ _ ⟨ht, fun g _ ⟨_, _, _, h, _⟩ => by cases h⟩, Sto.le_refl _, fun _ _ _ => ⟨fun _ => rfl, rfl⟩, Evolve.refl _ _ _, zM W⟩
 refine (h (mV W) (fun _ => none) W vals (vY W) hI hv).mono ?_;rintro e W' ⟨S', μ', v, he, hI', hr⟩;refine ⟨v, S', μ', he, ⟨hI'.frame.os, hI'.frame.tape, hI'.frame.output, hI'.frame.size, fun k hk => hI'.frame.block k hk ?_⟩, hr⟩;rintro ⟨id, o, c, h1, _⟩;cases h1
theorem aF2 {S : Sto} {μ : Mu} {H : cH} {b : Bool} {v : Value} (h : aQ S μ H (B b) v) : v = .bool b := by simpa [aQ, b5, Rep] using h
def fQ (l : List Int) : List (List C) := l.map fun m => [.int .i64 m]
theorem vH {W : World} {a : Addr} {len cap : Nat} {l : List Int} (hs : cap ≠ 0 → a.spot = none) (hl : l.length = len) (hc : len ≤ cap) (hm : cap ≤ maxLen) (hcell : ∀ i, i < len → W.cell? (a.add i) = some (.int .i64 (l.getD i 0))) :
  Rep (mV W) (.sl 1 (fQ l)) (.slice (some a) len cap) := by
 simp only [Rep];refine ⟨some a, len, cap, rfl, by simp [fQ, hl], hc, hm, (by intro h; cases h), (by intro ad h; cases h; exact hs), a.block, a.off, (by intro ad h; cases h; exact ⟨rfl, rfl⟩), ?_⟩;have key : ∀ (r : List Int) (k : Nat), (∀ i, i < r.length → W.cell? (a.add (k + i)) = some (.int .i64 (r.getD i 0))) → aR (mV W) 1 a.block (fQ r) (a.off + k) := by
  intro r
  induction r with
  | nil => intro k _; simp [fQ, aR]
  | cons x r ih =>
   intro k hr;simp only [fQ, map_cons, aR];refine ⟨rfl, ⟨[.int .i64 x], by simp [bR, Rep], fun i v hi => ?_⟩, ?_⟩
   ·have h0 := rI (hr 0 (by simp));have hb : (a.add (k + 0)).block = a.block := by unfold Addr.add; split <;> rfl
    have ho : (a.add (k + 0)).off = a.off + k := by
     unfold Addr.add;split
     ·rename_i h; omega
     ·rfl
    rw [hb, ho] at h0;cases i with
    | zero => simp at hi; subst hi; simpa using h0
    | succ i => simp at hi
   ·have := ih (k + 1) fun i hi => by
     have := hr (i + 1) (by simp; omega);rw [show k + (i + 1) = k + 1 + i by omega] at this;simpa using this
    rw [add_assoc];exact this
 have := key l 0 fun i hi => by rw [zero_add]; exact hcell i (by omega)
 simpa using this
theorem i7 {W : World} : Rep (mV W) (.sl 1 (fQ [])) (.slice none 0 0) := by
 simp only [Rep];exact ⟨none, 0, 0, rfl, rfl, le_refl _, zero_le _, (fun _ => ⟨rfl, rfl⟩), (by intro ad h; cases h), 0, 0, (by intro ad h; cases h), by simp [fQ, aR]⟩
theorem xT {H : Type} {enc : TypeId × Value → H} {P : Program} {W : World} {t e : TypeId} {v : Value} {d : DataW H} {ps : List MemPlace} {base : Nat} (ht : P.underlying t = some (.slice e)) (he : P.underlying e = some (.int .i64)) (hc : P.cellsOf e = 1)
  (hok : Value.okWide P W .any base t v) (h : DataW.Trod enc P W 0 (fun _ => true) true t v d ps) :
  ∃ l : List Int, Rep (mV W) (.sl 1 (fQ l)) v ∧ (∀ m ∈ l, -9223372036854775808 ≤ m ∧ m ≤ 9223372036854775807) ∧ (∃ x y, (d = .nil ∧ l = []) ∨ (d = .slice x y ∧ x.length = l.length)) := by
 obtain ⟨fuel, hf⟩ := h;obtain ⟨a0, len0, cap0, rfl⟩ := WideShapes.okWide_slice ht hok;rcases ChangeShapes.open_ints ht he hc hf with ⟨h1, h2⟩ | ⟨a, len, cap, zs, h1, _, h3, h4, h5, h6, h7, h8⟩
 ·have hv : Value.slice a0 len0 cap0 = .slice none 0 0 := by
   simp only [Value.cells] at h1;simpa using h1
  cases hv;refine ⟨[], i7, by simp, [], [], .inl ⟨?_, rfl⟩⟩;have := congrArg Prod.fst h2;simpa using this
 ·have hv : Value.slice a0 len0 cap0 = .slice (some a) len cap := by
   simp only [Value.cells] at h1;simpa using h1
  cases hv;have hs : a.spot = none := by
   simp only [Value.okWide, ht, Cell.okWide, Cell.ok] at hok;exact hok.2.2.2.1
  have hlen : len0 ≤ zs.length := by rw [h5]; split <;> omega
  refine ⟨zs.take len0, vH (fun _ => hs) (by simp; omega) h3 h4 (fun i hi => ?_), fun m hm => ?_, ChangeShapes.lits .i64 (zs.take len0), ChangeShapes.lits .i64 (zs.drop len0), .inr ⟨?_, ?_⟩⟩
  ·rw [h7 i (by omega)];congr 2;simp [List.getD_eq_getElem?_getD, hi]
  ·have := h8 m (mem_of_mem_take hm);simp only [Lit.wf, Bool.and_eq_true, decide_eq_true_eq] at this;exact this
  ·have := congrArg Prod.fst h6;simpa using this
  ·simp [ChangeShapes.lits]
theorem yZ {W : World} {a : Addr} {len cap : Nat} {l : List C} (hs : cap ≠ 0 → a.spot = none) (hl : l.length = len) (hc : len ≤ cap) (hm : cap ≤ maxLen) (hcell : ∀ i c, l[i]? = some c → ∃ v, W.cell? (a.add i) = some v ∧ Rep (mV W) c v) :
  Rep (mV W) (.sl 1 (l.map fun c => [c])) (.slice (some a) len cap) := by
 simp only [Rep];refine ⟨some a, len, cap, rfl, by simp [hl], hc, hm, (by intro h; cases h), (by intro ad h; cases h; exact hs), a.block, a.off, (by intro ad h; cases h; exact ⟨rfl, rfl⟩), ?_⟩;have key : ∀ (r : List C) (k : Nat), (∀ i c, r[i]? = some c → ∃ v, W.cell? (a.add (k + i)) = some v ∧ Rep (mV W) c v) → aR (mV W) 1 a.block (r.map fun c => [c]) (a.off + k) := by
  intro r
  induction r with
  | nil => intro k _; simp [aR]
  | cons x r ih =>
   intro k hr;simp only [map_cons, aR];obtain ⟨v0, hv1, hv2⟩ := hr 0 x rfl;refine ⟨rfl, ⟨[v0], by simp [bR, hv2], fun i v hi => ?_⟩, ?_⟩
   ·have h0 := rI hv1;have hb : (a.add (k + 0)).block = a.block := by unfold Addr.add; split <;> rfl
    have ho : (a.add (k + 0)).off = a.off + k := by
     unfold Addr.add;split
     ·rename_i h; omega
     ·rfl
    rw [hb, ho] at h0;cases i with
    | zero => simp at hi; subst hi; simpa using h0
    | succ i => simp at hi
   ·have := ih (k + 1) fun i c hi => by
     have := hr (i + 1) c (by simpa using hi);rw [show k + (i + 1) = k + 1 + i by omega] at this;exact this
    rw [add_assoc];exact this
 have := key l 0 fun i c hi => by rw [zero_add]; exact hcell i c hi
 simpa using this
theorem xS {H : Type} {enc : TypeId × Value → H} {P : Program} {W : World} {t e : TypeId} {v : Value} {fuel : Nat} {y : DataW H × List MemPlace} (ht : P.underlying t = some (.slice e)) (he : P.underlying e = some (.int .i64)) (hc : P.cellsOf e = 1)
  (hf : DataW.trod enc P W 0 (fun _ => true) true fuel t [v] = some y) :
  ∃ l : List Int, Rep (mV W) (.sl 1 (fQ l)) v ∧ (∀ m ∈ l, -9223372036854775808 ≤ m ∧ m ≤ 9223372036854775807) ∧ (∃ x z, (y.1 = .nil ∧ l = []) ∨ (y.1 = .slice x z ∧ x.length = l.length)) := by
 rcases ChangeShapes.open_ints ht he hc hf with ⟨h1, h2⟩ | ⟨a, len, cap, zs, h1, _, h3, h4, h5, h6, h7, h8⟩
 ·have hv : v = .slice none 0 0 := by simpa using h1
  subst hv;exact ⟨[], i7, by simp, [], [], .inl ⟨by rw [h2], rfl⟩⟩
 ·have hv : v = .slice (some a) len cap := by simpa using h1
  subst hv;have hzl : zs.length = cap := by simpa using h5
  have hs : cap ≠ 0 → a.spot = none := fun hcap => by
   have := h7 0 (by omega);have e0 : a.add 0 = a := by simp [Addr.add]
   rw [e0] at this;unfold World.cell? at this;split at this
   ·cases hsp : a.spot with
    | none => rfl
    | some s => simp [hsp] at this
   ·cases this
  refine ⟨zs.take len, vH hs (by simp; omega) h3 h4 (fun i hi => ?_), fun m hm => ?_, ChangeShapes.lits .i64 (zs.take len), ChangeShapes.lits .i64 (zs.drop len), .inr ⟨by rw [h6], by simp [ChangeShapes.lits]⟩⟩
  ·rw [h7 i (by omega)];congr 2;simp [List.getD_eq_getElem?_getD, hi]
  ·have := h8 m (mem_of_mem_take hm);simp only [Lit.wf, Bool.and_eq_true, decide_eq_true_eq] at this;exact this
theorem aAd {α β : Type} {p : Nat → α → β → Prop} : ∀ (n : Nat) (f : Nat → Option β) (_ : ∀ i, i < n → ∃ y, f i = some y ∧ ∃ x, p i x y), ∃ l : List α, l.length = n ∧ ∀ i x, l[i]? = some x → ∃ y, f i = some y ∧ p i x y
 | 0, _, _ => ⟨[], rfl, fun i x h => by simp at h⟩
 | n + 1, f, h => by
  obtain ⟨l, h1, h2⟩ := aAd n f fun i hi => h i (by omega)
  obtain ⟨y, hy, x, hx⟩ := h n (by omega);refine ⟨l ++ [x], by simp [h1], fun i u hi => ?_⟩;by_cases hin : i < n
  ·rw [List.getElem?_append_left (by omega)] at hi;exact h2 i u hi
  ·rw [List.getElem?_append_right (by omega)] at hi;have : i = n := by
    have := (List.getElem?_eq_some_iff.1 hi).1
    simp at this;omega
   subst this;rw [h1] at hi;simp at hi;subst hi;exact ⟨y, hy, hx⟩
def k9 (l : List (List Int)) : List C := l.map fun x => .sl 1 (fQ x)
theorem xR {H : Type} {enc : TypeId × Value → H} {P : Program} {W : World} {t e i : TypeId} {v : Value} {d : DataW H} {ps : List MemPlace} {base : Nat} (ht : P.underlying t = some (.slice e)) (he : P.underlying e = some (.slice i)) (hi : P.underlying i = some (.int .i64)) (hce : P.cellsOf e = 1) (hci : P.cellsOf i = 1)
  (hok : Value.okWide P W .any base t v) (h : DataW.Trod enc P W 0 (fun _ => true) true t v d ps) :
  ∃ l : List (List Int), Rep (mV W) (.sl 1 ((k9 l).map fun c => [c])) v ∧ (∀ x ∈ l, ∀ m ∈ x, -9223372036854775808 ≤ m ∧ m ≤ 9223372036854775807) ∧
   ∃ xs zs : List (DataW H), (d = .nil ∧ l = []) ∨ (d = .slice xs zs ∧ xs.length = l.length ∧ ∀ (k : Nat) (x : List Int), l[k]? = some x → ∃ y : DataW H, xs[k]? = some y ∧ ((y = .nil ∧ x = []) ∨ ∃ u z, y = .slice u z ∧ u.length = x.length)) := by
 obtain ⟨fuel, hf⟩ := h;obtain ⟨a0, len0, cap0, rfl⟩ := WideShapes.okWide_slice ht hok;rcases DataW.trod_slice ht hf with ⟨h1, h2⟩ | ⟨a, len, cap, elems, rest, n, _, hcs, hx, _, hl, hm, hlen, hel, _⟩
 ·have hv : Value.slice a0 len0 cap0 = .slice none 0 0 := by simpa [Value.cells] using h1
  cases hv;have hd : d = .nil := by simpa using congrArg Prod.fst h2
  exact ⟨[], i7, by simp, [], [], .inl ⟨hd, rfl⟩⟩
 ·have hv : Value.slice a0 len0 cap0 = .slice (some a) len cap := by simpa [Value.cells] using hcs
  cases hv;have hs : a.spot = none := by
   simp only [Value.okWide, ht, Cell.okWide, Cell.ok] at hok;exact hok.2.2.2.1
  have hd : d = .slice (elems.map (·.1)) (rest.map (·.1)) := by simpa using congrArg Prod.fst hx
  obtain ⟨l, hll, hlx⟩ := aAd (α := List Int) (β := DataW H × List MemPlace) (p := fun k x y => (∃ v, W.cell? (a.add k) = some v ∧ Rep (mV W) (.sl 1 (fQ x)) v) ∧ (∀ m ∈ x, -9223372036854775808 ≤ m ∧ m ≤ 9223372036854775807) ∧ ((y.1 = .nil ∧ x = []) ∨ ∃ u z, y.1 = .slice u z ∧ u.length = x.length)) len0 (fun k => elems[k]?) (fun k hk => by
   obtain ⟨y, hy⟩ : ∃ y, elems[k]? = some y := ⟨_, List.getElem?_eq_getElem (by omega)⟩
   refine ⟨y, hy, ?_⟩;have hE := hel k hk;rw [hce, Nat.mul_one, hy, Option.bind_eq_some_iff] at hE;obtain ⟨cs', hcs', hy'⟩ := hE;have hone : ∃ c, cs' = [c] ∧ W.cell? (a.add k) = some c := by
    unfold World.cells? at hcs';have e0 : (a.add k).add 0 = a.add k := by simp [Addr.add]
    split at hcs'
    ·simp only [range_succ, List.range_zero, nil_append, mapM_cons, List.mapM_nil, e0] at hcs';cases hcc : W.cell? (a.add k) with
     | none => simp [hcc] at hcs'
     | some c => simp [hcc] at hcs'; exact ⟨c, hcs'.symm, rfl⟩
    ·cases hcs'
   obtain ⟨c, rfl, hcc⟩ := hone;obtain ⟨x, g1, g2, u, z, g3⟩ := xS he hi hci hy'
   exact ⟨x, ⟨c, hcc, g1⟩, g2, g3.imp id fun g => ⟨u, z, g⟩⟩)
  refine ⟨l, yZ (fun _ => hs) (by simp [k9, hll]) hl hm (fun k c hk => ?_), fun x hx m hm => ?_, elems.map (·.1), rest.map (·.1), .inr ⟨hd, by simp; omega, fun k x hk => ?_⟩⟩
  ·unfold k9 at hk;rw [List.getElem?_map] at hk;cases hx : l[k]? with
   | none => simp [hx] at hk
   | some x =>
    simp [hx] at hk;subst hk;obtain ⟨y, _, g, _, _⟩ := hlx k x hx;exact g
  ·obtain ⟨k, hk⟩ := List.getElem?_of_mem hx;obtain ⟨y, _, _, g, _⟩ := hlx k x hk;exact g m hm
  ·obtain ⟨y, hy, _, _, g⟩ := hlx k x hk;exact ⟨y.1, by rw [List.getElem?_map, hy]; rfl, g⟩
end Go.AM
