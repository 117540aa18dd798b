/-
  Texts Am7 to Am11 in one.
-/
import Derived.Test.YtlegeikmepnmcaaDoorM1
import Derived.Deep.LoopGhost
open List (all_eq_true append_assoc append_nil drop_append drop_of_length_le drop_succ_cons drop_take drop_zero eq_nil_of_length_eq_zero flatten_append flatten_cons length_append length_cons length_drop length_nil length_set length_take mapM_cons map_cons map_nil map_toArray mem_append mem_cons mem_cons_of_mem mem_map mem_of_mem_take nil_append nodup_cons nodup_nil set_eq_take_append_cons_drop size_toArray take_append_of_le_length take_of_length_le take_succ_cons take_zero)
open Nat (add_assoc add_mul add_zero beq_refl eq_of_beq_eq_true le_of_ble_eq_true le_refl le_trans mul_le_mul_right sub_self sub_zero zero_add zero_le)
namespace Go.AM
open Go
section
variable {P : Program} {n : Nat} {o : Oper} {st : St} {d : Nat} {T : TT}
theorem run_store {t : TypeId} {i : TI} (hT : TIok P t i) (w : World) (b off : Nat) (vs news : List Value) (tb : TypeId) (v : Value) (hg : w.heap[b]? = some (.cells ⟨vs⟩ tb (0, 0))) (hv : v.cells.toList = news) (hl : news.length = i.size) (hfit : off + news.length ≤ vs.length) (h1 : ∀ u ∈ news, u.oneCell' = true) :
  (Instr.storeAt t (.pointer (some ⟨b, off, none⟩)) v).run P w = .ok () (w.setRow b ⟨vs.take off ++ news ++ vs.drop (off + news.length)⟩) := by
 have hsz : v.cells.size = i.size := by rw [← hl, ← hv]; simp
 have hst := run_storeCells_at (P := P) b off tb news 0 ⟨vs⟩ w hg (by simpa using hfit) h1;simp only [add_zero] at hst;simp only [Instr.storeAt, Instr.sureAddr, Sem.run_bind, Sem.run_pure, Result.andThen_ok, storeVar, hT.size_run w, hsz, hv];simp only [ne_eq, not_true_eq_false, if_false, hst]
theorem hD {S : Sto} {μ : Mu} {H : cH} {id : Nat} {o o' : AObj} {p : Nat × Nat × Nat} (h : H id = some o) (hm : μ id = some p) (hs : o.succ True o') : Evolve S μ H S (upd μ id (some p)) (upd H id (some o')) := by
 refine ⟨S.le_refl, fun j x hj => ?_⟩;by_cases hne : j = id
 ·subst hne;rw [h] at hj; cases hj;refine ⟨o', aC _ _ _, ?_⟩;have he : upd μ j (some p) j = μ j := by rw [aC, hm]
  rw [he];simpa using hs
 ·exact ⟨x, by rw [aT _ _ _ hne]; exact hj, x.succ_refl (aT _ _ _ hne)⟩
theorem Step.turn {rd : Rd} {id : Nat} {ao ao' : AObj} (hd : o.dst = none) (hid : st.h id = some ao) (hrd : id ∈ rd.h) (hsucc : ao.succ True ao')
  (h : ∀ st', lD rd st st' → st'.h id = some ao → ∀ G S μ a w, Sim G n S μ st' a w → ∃ w' bo b c, (execOp a.eval o).run P w = .ok .skip w' ∧ μ id = some (b, c) ∧ WChg w w' b bo ∧
   j6 S (upd μ id (some (b, c))) (upd st'.h id (some ao')) w' id ao' ∧ (∀ o v, S.cell b o = some v → ∃ vs t fr, bo = .cells vs t fr ∧ vs[o]? = some v) ∧ (∀ m, S.mapo b = some m → w.heap.size ≤ b)) :
  Step P n o st rd ⟨none, [(id, some ao')]⟩ := by
 intro st' ha G S μ a w K Q hs hk;have hid' : st'.h id = some ao := by rw [ha.2 id hrd, hid]
 obtain ⟨w', bo, b, c, hr, hm, hw, hO, hS, hSm⟩ := h st' ha hid' G S μ a w hs;refine fun ro => qF hr ?_
 rw [hd];have hE := hD (S := S) (μ := μ) hid' hm hsucc;have hi := hs.inv.chg (id := id) (cap := c) (ao := ao') hw (.inr ⟨ao, c, hid', hm⟩) hE hO hS hSm;refine hk S (upd μ id (some (b, c))) _ _ ?_;have := hs.put_none hi hE undef;unfold Eff.apply;rw [cD];exact this
def bU {α : Type} (l : List α) (off : Nat) (new : List α) : List α := l.take off ++ new ++ l.drop (off + new.length)
theorem fM {S : Sto} {w : World} {b : Nat} (hb : S.mapo b = none) (m : MK) (e : S.mapo b = some m) : w.heap.size ≤ b := by
 rw [hb] at e; cases e
theorem aE2 {t tv : TypeId} {i : TI} {x y : Operand} {id off : Nat} {cells rs : List R} {v : V} (hT : Tok P T) (ho : o.op = .store t x y) (hd : o.dst = none) (hi : T[t]? = some (some i)) (hx : opv st x = some (.one (.vp id off)))
  (hy : opv st y = some v) (hc : eW v = some rs) (hh : st.h id = some (.var tv cells)) (hrs : rs.length = i.size) (hl : Nat.ble (off + i.size) cells.length = true) :
  Step P n o st ⟨opr x ++ opr y, [id]⟩ ⟨none, [(id, some (.var tv (bU cells off rs)))]⟩ := by
 refine Step.turn hd hh (by simp) (by simp [AObj.succ]) fun st' ha hh' G S μ a w hs => ?_
 have hvx := aH hs hx fun t ht => ha.1 t (by simp [ht])
 have hvy := aH hs hy fun t ht => ha.1 t (by simp [ht])
 simp only [aQ, b5] at hvx;obtain ⟨t', cells', b, c, h1, h2, h3⟩ := hvx;obtain ⟨b', vs, g1, g2, g3, g4⟩ := hs.inv.obj id _ hh';rw [g1] at h2; cases h2;have hlen := le_of_ble_eq_true hl;have hvl := g3.length;have hrel := dD hvy hc;have hnl := hrel.length;have hrun := run_store (hT.get hi) w b off vs (a.eval y).cells.toList tv (a.eval y) g2 rfl (by omega) (by omega) hrel.one;have hE := hD (S := S) (μ := μ) (o' := .var tv (bU cells off rs)) hh' g1 (by simp [AObj.succ]);have hW := WChg.setRow w b ⟨vs⟩ ⟨vs.take off ++ (a.eval y).cells.toList ++ vs.drop (off + (a.eval y).cells.toList.length)⟩ tv (0, 0) g2;refine ⟨_, _, b, (0, 0), ?_, g1, hW, ⟨b, _, aC _ _ _, hW.new, ?_, g4⟩, (fun o v e => by rw [g4.1] at e; cases e), fun m e => fM g4.2 m e⟩
 ·simp only [execOp, ho, h3, Sem.run_bind, hrun, Result.andThen_ok, Sem.run_pure]
 ·have h1 := aO.evolve hE _ _ (g3.take off);have h2 := aO.evolve hE _ _ hrel;have h3 := aO.evolve hE _ _ (g3.drop (off + rs.length));rw [← hnl] at h3;have := (h1.append h2).append h3;rw [show bU cells off rs = cells.take off ++ rs ++ cells.drop (off + (a.eval y).cells.toList.length) by rw [hnl]; rfl] at this ⊢;exact this
theorem u4 {α : Type} {es : Nat} : ∀ {l : List (List α)}, (∀ r ∈ l, r.length = es) → ∀ (k : Nat) (r : List α), l[k]? = some r →
  (l.take k).flatten = l.flatten.take (k * es) ∧ (l.drop (k + 1)).flatten = l.flatten.drop (k * es + es)
 | [], _, k, r, h => by simp at h
 | x :: xs, hl, 0, r, _ => by
  have hx := hl x (by simp);simp only [take_zero, List.flatten_nil, Nat.zero_mul, zero_add, drop_succ_cons, drop_zero, flatten_cons, true_and];rw [drop_append, hx, sub_self, drop_zero, drop_of_length_le (by omega), nil_append]
 | x :: xs, hl, k + 1, r, h => by
  have hx := hl x (by simp);simp at h;obtain ⟨h1, h2⟩ := u4 (l := xs) (fun r hr => hl r (by simp [hr])) k r h;simp only [take_succ_cons, flatten_cons, drop_succ_cons];rw [h1, h2, List.take_append, drop_append, hx];have e1 : (k + 1) * es - es = k * es := by rw [add_mul]; omega
  have e2 : (k + 1) * es + es - es = k * es + es := by rw [add_mul]; omega
  rw [e1, e2, take_of_length_le (l := x) (by rw [hx, add_mul]; omega), drop_of_length_le (l := x) (by rw [hx, add_mul]; omega), nil_append];exact ⟨rfl, rfl⟩
theorem xC {t te es : Nat} {i : TI} {x y : Operand} {id k fo sz : Nat} {elems : List (List C)} {v : V} {rs : List R} {cs r : List C} (hT : Tok P T) (ho : o.op = .store t x y) (hd : o.dst = none) (hi : T[t]? = some (some i)) (hx : opv st x = some (.one (.ep id k fo sz)))
  (hy : opv st y = some v) (hc : eW v = some rs) (hp : fV rs = some cs) (hh : st.h id = some (.arr te es elems 0)) (hsz : sz = elems.length) (hr : elems[k]? = some r) (hcs : cs.length = i.size) (hl : fo + i.size ≤ es) :
  Step P n o st ⟨opr x ++ opr y, [id]⟩ ⟨none, [(id, some (.arr te es (elems.set k (bU r fo cs)) 0))]⟩ := by
 refine Step.turn hd hh (by simp) (by simp [AObj.succ]) fun st' ha hh' G S μ a w hs => ?_
 have hvx := aH hs hx fun t ht => ha.1 t (by simp [ht])
 have hvy := aH hs hy fun t ht => ha.1 t (by simp [ht])
 simp only [aQ, b5] at hvx;obtain ⟨_, hv | ⟨te', es', elems', fz', h1, h2, h3⟩⟩ := hvx
 ·rw [hh'] at hv; cases hv
 rw [hh'] at h1; cases h1;obtain ⟨h4, b, base, cap, h5, h6⟩ := h3 hsz;obtain ⟨g0, vs, g1, g2, g3, g4, g5, g6, g7⟩ := (hs.inv.obj id _ hh').arr h5;have hrel := dD hvy hc;rw [jP hp] at hrel;have hrep := hrel.pure;have hone := hrel.one;have hnl := hrep.length;have hk : k < elems.length := (List.getElem?_eq_some_iff.1 hr).1
 have hres : r.length = es := g0 r (List.mem_of_getElem? hr);have hke : (k + 1) * es ≤ elems.length * es := mul_le_mul_right _ hk;have hce : elems.length * es ≤ cap * es := mul_le_mul_right _ g3;rw [add_mul] at hke;generalize hnews : (a.eval y).cells.toList = news at *;have hrun := run_store (hT.get hi) w b (base + k * es + fo) vs news te (a.eval y) g1 hnews (by omega) (by omega) hone;have hE := hD (S := S) (μ := μ) (o' := .arr te es (elems.set k (bU r fo cs)) 0) hh' h5 (by simp [AObj.succ]);have hrow := aDv g0 g5 hr;have hflat := u4 g0 k r hr;have hlen : (elems.set k (bU r fo cs)).length = elems.length := by simp
 have hW := WChg.setRow w b ⟨vs⟩ ⟨vs.take (base + k * es + fo) ++ news ++ vs.drop (base + k * es + fo + news.length)⟩ te (0, 0) g1;refine ⟨_, _, b, (base, cap), ?_, h5, hW, ⟨?_, .inr ⟨b, base, cap, _, aC _ _ _, hW.new, ?_, by rw [hlen]; exact g3, g4, ?_, g6, by rw [hlen]; exact g7.1, fun e => by cases e⟩⟩, fun o v e => ?_, fun m e => fM g4.2 m e⟩
 ·simp only [execOp, ho, h6, Sem.run_bind, hrun, Result.andThen_ok, Sem.run_pure]
 ·intro q hq;rcases List.mem_or_eq_of_mem_set hq with hq | rfl
  ·exact g0 q hq
  ·unfold bU;simp;omega
 ·simp only [length_append, length_take, length_drop];omega
 ·rw [hlen];have e1 : (elems.set k (bU r fo cs)).flatten = elems.flatten.take (k * es) ++ (r.take fo ++ cs ++ r.drop (fo + cs.length)) ++ elems.flatten.drop (k * es + es) := by
   rw [set_eq_take_append_cons_drop, if_pos hk, flatten_append, flatten_cons, hflat.1, hflat.2, ← append_assoc];rfl
  have e2 : ((vs.take (base + k * es + fo) ++ news ++ vs.drop (base + k * es + fo + news.length)).drop base).take (elems.length * es) =
    ((vs.drop base).take (elems.length * es)).take (k * es) ++ ((((vs.drop (base + k * es)).take es).take fo) ++ news ++ (((vs.drop (base + k * es)).take es).drop (fo + cs.length))) ++ ((vs.drop base).take (elems.length * es)).drop (k * es + es) := by
   apply List.ext_getElem?;intro j;simp only [List.getElem?_take, List.getElem?_drop, List.getElem?_append, length_append, length_take, length_drop];have hm1 : min (k * es) (min (elems.length * es) (vs.length - base)) = k * es := by omega
   have hm2 : min (base + k * es + fo) vs.length = base + k * es + fo := by omega
   have hm3 : min fo es = fo := by omega
   have hm4 : min es (vs.length - (base + k * es)) = es := by omega
   simp only [hm1, hm2, hm3, hm4, hnl];by_cases c1 : j < k * es
   ·have a1 : j < elems.length * es := by omega
    have a2 : base + j < base + k * es + fo := by omega
    have a3 : base + j < base + k * es + fo + cs.length := by omega
    have a4 : j < k * es + (fo + cs.length + (es - (fo + cs.length))) := by omega
    simp [c1, a1, a2, a3, a4]
   ·by_cases c2 : j < k * es + fo
    ·have a1 : j < elems.length * es := by omega
     have a2 : base + j < base + k * es + fo := by omega
     have a3 : base + j < base + k * es + fo + cs.length := by omega
     have a4 : j < k * es + (fo + cs.length + (es - (fo + cs.length))) := by omega
     have a5 : j - k * es < fo + cs.length := by omega
     have a6 : j - k * es < fo := by omega
     have a7 : j - k * es < es := by omega
     simp [c1, a1, a2, a3, a4, a5, a6, a7, show base + k * es + (j - k * es) = base + j by omega]
    ·by_cases c3 : j < k * es + fo + cs.length
     ·have a1 : j < elems.length * es := by omega
      have a2 : ¬ base + j < base + k * es + fo := by omega
      have a3 : base + j < base + k * es + fo + cs.length := by omega
      have a4 : j < k * es + (fo + cs.length + (es - (fo + cs.length))) := by omega
      have a5 : j - k * es < fo + cs.length := by omega
      have a6 : ¬ j - k * es < fo := by omega
      simp [c1, a1, a2, a3, a4, a5, a6, show base + j - (base + k * es + fo) = j - k * es - fo by omega]
     ·by_cases c4 : j < k * es + es
      ·have a1 : j < elems.length * es := by omega
       have a3 : ¬ base + j < base + k * es + fo + cs.length := by omega
       have a4 : j < k * es + (fo + cs.length + (es - (fo + cs.length))) := by omega
       have a5 : ¬ j - k * es < fo + cs.length := by omega
       have a6 : fo + cs.length + (j - k * es - (fo + cs.length)) < es := by omega
       simp [c1, a1, a3, a4, a5, a6, show base + k * es + fo + cs.length + (base + j - (base + k * es + fo + cs.length)) = base + j by omega, show base + k * es + (fo + cs.length + (j - k * es - (fo + cs.length))) = base + j by omega]
      ·have a3 : ¬ base + j < base + k * es + fo + cs.length := by omega
       have a4 : ¬ j < k * es + (fo + cs.length + (es - (fo + cs.length))) := by omega
       by_cases c5 : j < elems.length * es
       ·have a5 : k * es + es + (j - (k * es + (fo + cs.length + (es - (fo + cs.length))))) < elems.length * es := by omega
        simp [a3, a4, c5, a5, show base + k * es + fo + cs.length + (base + j - (base + k * es + fo + cs.length)) = base + j by omega, show base + (k * es + es + (j - (k * es + (fo + cs.length + (es - (fo + cs.length)))))) = base + j by omega]
       ·have a5 : ¬ k * es + es + (j - (k * es + (fo + cs.length + (es - (fo + cs.length))))) < elems.length * es := by omega
        simp [a4, c5, a5]
  rw [e1];show bR S _ (((vs.take (base + k * es + fo) ++ news ++ vs.drop (base + k * es + fo + news.length)).drop base).take (elems.length * es));rw [e2];exact ((g5.take (k * es)).append (((hrow.take fo).append hrep).append (hrow.drop (fo + cs.length)))).append (g5.drop (k * es + es))
 ·-- what stays is not touched
  by_cases hb : base ≤ o
  ·rw [g6 rfl o hb] at e; cases e
  ·obtain ⟨vs0, t0, fr0, q1, q2⟩ := hs.inv.holds.1 b o v e;rw [g1] at q1; cases q1;refine ⟨_, _, _, rfl, ?_⟩;simp only [List.getElem?_toArray] at q2 ⊢;have hlt : o < vs.length := (List.getElem?_eq_some_iff.1 q2).1
   rw [append_assoc, List.getElem?_append_left (by simp; omega), List.getElem?_take, if_pos (by omega)];exact q2
theorem qC (b off k : Nat) : (⟨b, off, none⟩ : Addr).add k = ⟨b, off + k, none⟩ := Addr.add_mid b off k
theorem fF {t ft : TypeId} {i fi : TI} {fs : List (Nat × TypeId)} {f foff : Nat} (hT : Tok P T) (hi : T[t]? = some (some i)) (hk : i.k = .st fs) (hf : fs[f]? = some (foff, ft)) (hfi : T[ft]? = some (some fi)) (hz : fi.size ≠ 0) (w : World) (b off : Nat) :
  (Instr.fieldAt t (.pointer (some ⟨b, off, none⟩)) f).run P w = .ok (.pointer (some ⟨b, off + foff, none⟩)) w := by
 obtain ⟨fields, h1, h2⟩ := (hT.get hi).struct hk;rw [h2] at hf;simp only [List.getElem?_map, Option.map_eq_some_iff, Array.getElem?_toList] at hf;obtain ⟨fl, h3, h4⟩ := hf;cases h4;simp only [Instr.fieldAt, Sem.run_bind, run_underlying h1 w, Result.andThen_ok, h3, Instr.sureAddr, Sem.run_pure, fieldPlace, (hT.get hfi).size_run w];simp [hz, qC]
theorem xI {t ft : TypeId} {i fi : TI} {fs : List (Nat × TypeId)} {f foff : Nat} {x : Operand} {id off : Nat} (hT : Tok P T) (ho : o.op = .fieldAddr t x f) (hd : o.dst = some d) (hdn : d < n) (hi : T[t]? = some (some i)) (hk : i.k = .st fs) (hf : fs[f]? = some (foff, ft)) (hfi : T[ft]? = some (some fi)) (hz : fi.size ≠ 0)
  (hx : opv st x = some (.one (.vp id off))) : Step P n o st ⟨opr x, []⟩ ⟨some (d, some (.one (.vp id (off + foff)))), []⟩ := by
 refine Step.value hd hdn fun st' ha G S μ a w hs => ?_
 have hv := aH hs hx ha.1;simp only [aQ, b5] at hv;obtain ⟨t', cells', b, c, h1, h2, h3⟩ := hv;refine ⟨.pointer (some ⟨b, off + foff, none⟩), ?_, ?_⟩
 ·simp only [execOp, ho, h3, Sem.run_bind, fF hT hi hk hf hfi hz, Result.andThen_ok, Sem.run_pure]
 ·simp only [aQ, b5];exact ⟨t', cells', b, c, h1, h2, rfl⟩
theorem xK {t ft : TypeId} {i fi : TI} {fs : List (Nat × TypeId)} {f foff : Nat} {x : Operand} {l : List C} (hT : Tok P T) (ho : o.op = .fieldAddr t x f) (hd : o.dst = some d) (hdn : d < n) (hi : T[t]? = some (some i)) (hk : i.k = .st fs) (hf : fs[f]? = some (foff, ft)) (hfi : T[ft]? = some (some fi)) (hz : fi.size ≠ 0)
  (hx : opv st x = some (.one (.c (.pt l)))) : Step P n o st ⟨opr x, []⟩ ⟨some (d, some (.one (.c (.pt (l.drop foff))))), []⟩ := by
 refine Step.value hd hdn fun st' ha G S μ a w hs => ?_
 have hv := aH hs hx ha.1;simp only [aQ, b5, Rep] at hv;obtain ⟨b, off, h1, vs, h2, h3⟩ := hv;refine ⟨.pointer (some ⟨b, off + foff, none⟩), ?_, ?_⟩
 ·simp only [execOp, ho, h1, Sem.run_bind, fF hT hi hk hf hfi hz, Result.andThen_ok, Sem.run_pure]
 ·simp only [aQ, b5, Rep];refine ⟨b, off + foff, rfl, vs.drop foff, h2.drop foff, fun j v hj => ?_⟩;rw [List.getElem?_drop] at hj;have := h3 (foff + j) v hj;rwa [← add_assoc] at this
theorem xL {t ft : TypeId} {i fi : TI} {fs : List (Nat × TypeId)} {f foff : Nat} {x : Operand} {id k fo sz : Nat} (hT : Tok P T) (ho : o.op = .fieldAddr t x f) (hd : o.dst = some d) (hdn : d < n) (hi : T[t]? = some (some i)) (hk : i.k = .st fs) (hf : fs[f]? = some (foff, ft)) (hfi : T[ft]? = some (some fi)) (hz : fi.size ≠ 0)
  {te es : Nat} {elems : List (List C)} {fz : Nat} (hx : opv st x = some (.one (.ep id k fo sz))) (hh : st.h id = some (.arr te es elems fz)) (hsz : sz = elems.length) : Step P n o st ⟨opr x, [id]⟩ ⟨some (d, some (.one (.ep id k (fo + foff) sz))), []⟩ := by
 refine Step.value hd hdn fun st' ha G S μ a w hs => ?_
 have hv := aH hs hx ha.1;have hh' : st'.h id = some (.arr te es elems fz) := by rw [ha.2 id (by simp), hh]
 simp only [aQ, b5] at hv;obtain ⟨_, hv | ⟨te', es', elems', fz', h1, h2, h3⟩⟩ := hv
 ·rw [hh'] at hv; cases hv
 rw [hh'] at h1; cases h1;obtain ⟨h4, b, base, cap, h5, h6⟩ := h3 hsz;refine ⟨.pointer (some ⟨b, base + k * es + fo + foff, none⟩), ?_, ?_⟩
 ·simp only [execOp, ho, h6, Sem.run_bind, fF hT hi hk hf hfi hz, Result.andThen_ok, Sem.run_pure]
 ·simp only [aQ, b5];exact ⟨⟨_, rfl⟩, .inr ⟨te, es, elems, fz, hh', h2, fun _ => ⟨h4, b, base, cap, h5, by rw [add_assoc]⟩⟩⟩
theorem gS {t e : TypeId} {i ei : TI} (hT : Tok P T) (hi : T[t]? = some (some i)) (hk : i.k = .sl e) (hei : T[e]? = some (some ei)) (w : World) (b off len cap k : Nat) (kk : IntKind) (hlt : k < len) :
  (Instr.indexAt t (.slice (some ⟨b, off, none⟩) len cap) (.int kk (k : Int))).run P w = .ok (.pointer (some ⟨b, off + k * ei.size, none⟩)) w := by
 have h1 := (hT.get hi).slice hk;simp only [Instr.indexAt, asIntOf, Sem.run_bind, Sem.run_pure, Result.andThen_ok, run_underlying h1 w];rw [if_pos ⟨by omega, by omega⟩];simp only [Sem.run_bind, (hT.get hei).size_run w, Result.andThen_ok, Sem.run_pure, Int.toNat_natCast, qC]
theorem aE5 {t e : TypeId} {i ei : TI} {x y : Operand} {es k : Nat} {kk : IntKind} {m : Int} {l : List (List C)} {r : List C} (hT : Tok P T) (ho : o.op = .indexAddr t x y) (hd : o.dst = some d) (hdn : d < n) (hi : T[t]? = some (some i)) (hk : i.k = .sl e) (hei : T[e]? = some (some ei)) (hes : ei.size = es)
  (hx : opv st x = some (.one (.c (.sl es l)))) (hy : opv st y = some (I kk m)) (hm : m = (k : Int)) (hr : l[k]? = some r) : Step P n o st ⟨opr x ++ opr y, []⟩ ⟨some (d, some (.one (.c (.pt r)))), []⟩ := by
 refine Step.value hd hdn fun st' ha G S μ a w hs => ?_
 have hv := aH hs hx (dH ha).1;have hv2 := dX (aH hs hy (dH ha).2);have hlt : k < l.length := (List.getElem?_eq_some_iff.1 hr).1
 simp only [aQ, b5, Rep] at hv;obtain ⟨ad, len, cap, h1, h2, h3, h4, h5, h6, b, off, h7, h8⟩ := hv;cases ad with
 | none => have := (h5 rfl).1; omega
 | some ad =>
  obtain ⟨h9, h10⟩ := h7 ad rfl;have h11 := h6 ad rfl (by omega);have had : ad = ⟨b, off, none⟩ := by cases ad; simp_all
  subst had;subst hm;obtain ⟨q1, vs, q2, q3⟩ := h8.get k r hr;refine ⟨.pointer (some ⟨b, off + k * es, none⟩), ?_, ?_⟩
  ·simp only [execOp, ho, h1, hv2, Sem.run_bind, gS hT hi hk hei w b off len cap k kk (by omega), Result.andThen_ok, Sem.run_pure, hes]
  ·simp only [aQ, b5, Rep];exact ⟨b, off + k * es, rfl, vs, q2, q3⟩
theorem xH {t e : TypeId} {i ei : TI} {x y : Operand} {te es k id off len sz : Nat} {kk : IntKind} {m : Int} {elems : List (List C)} {fz : Nat} (hT : Tok P T) (ho : o.op = .indexAddr t x y) (hd : o.dst = some d) (hdn : d < n) (hi : T[t]? = some (some i)) (hk : i.k = .sl e) (hei : T[e]? = some (some ei)) (hes : ei.size = es)
  (hx : opv st x = some (.one (.hs id off len sz))) (hh : st.h id = some (.arr te es elems fz)) (hsz : sz = elems.length) (hy : opv st y = some (I kk m)) (hm : m = (k : Int)) (hlt : k < len) : Step P n o st ⟨opr x ++ opr y, [id]⟩ ⟨some (d, some (.one (.ep id (off + k) 0 sz))), []⟩ := by
 refine Step.value hd hdn fun st' ha G S μ a w hs => ?_
 have hv := aH hs hx fun t ht => ha.1 t (by simp [ht])
 have hv2 := dX (aH hs hy fun t ht => ha.1 t (by simp [ht]));have hh' : st'.h id = some (.arr te es elems fz) := by rw [ha.2 id (by simp), hh]
 simp only [aQ, b5] at hv;obtain ⟨_, hv | ⟨te', es', elems', fz', h1, h2, h3⟩⟩ := hv
 ·rw [hh'] at hv; cases hv
 rw [hh'] at h1; cases h1;obtain ⟨h4, ⟨h5, h6, h7⟩ | ⟨b, base, cap, h5, h6⟩⟩ := h3 hsz
 ·subst h6; simp at hsz; omega
 subst hm;refine ⟨.pointer (some ⟨b, base + (off + k) * es + 0, none⟩), ?_, ?_⟩
 ·simp only [execOp, ho, h6, hv2, Sem.run_bind, gS hT hi hk hei w b (base + off * es) len _ k kk hlt, Result.andThen_ok, Sem.run_pure, hes, add_zero];rw [show base + off * es + k * es = base + (off + k) * es by rw [add_mul]; omega]
 ·simp only [aQ, b5];exact ⟨⟨_, rfl⟩, .inr ⟨te, es, elems, fz, hh', h2, fun _ => ⟨by omega, b, base, cap, h5, rfl⟩⟩⟩
theorem qH {t e : TypeId} {m : Nat} {i ei : TI} (hT : Tok P T) (hi : T[t]? = some (some i)) (hk : i.k = .ar m e) (hei : T[e]? = some (some ei)) (w : World) (b off k : Nat) (kk : IntKind) (hlt : k < m) :
  (Instr.indexAt t (.pointer (some ⟨b, off, none⟩)) (.int kk (k : Int))).run P w = .ok (.pointer (some ⟨b, off + k * ei.size, none⟩)) w := by
 have h1 := (hT.get hi).array hk;have h2 : (Instr.sureAddr (.pointer (some ⟨b, off, none⟩))).run P w = .ok ⟨b, off, none⟩ w := by simp [Instr.sureAddr]
 simp only [Instr.indexAt, asIntOf, Sem.run_bind, Sem.run_pure, Result.andThen_ok, run_underlying h1 w, h2];rw [if_pos ⟨by omega, by omega⟩];simp only [Sem.run_bind, (hT.get hei).size_run w, Result.andThen_ok, Sem.run_pure, Int.toNat_natCast, qC]
theorem tS {t e : TypeId} {i ei : TI} {x y : Operand} {id off k m : Nat} {kk : IntKind} {q : Int} (hT : Tok P T) (ho : o.op = .indexAddr t x y) (hd : o.dst = some d) (hdn : d < n) (hi : T[t]? = some (some i)) (hk : i.k = .ar m e) (hei : T[e]? = some (some ei))
  (hx : opv st x = some (.one (.vp id off))) (hy : opv st y = some (I kk q)) (hm : q = (k : Int)) (hlt : k < m) : Step P n o st ⟨opr x ++ opr y, []⟩ ⟨some (d, some (.one (.vp id (off + k * ei.size)))), []⟩ := by
 refine Step.value hd hdn fun st' ha G S μ a w hs => ?_
 have hv := aH hs hx (dH ha).1;have hv2 := dX (aH hs hy (dH ha).2);simp only [aQ, b5] at hv;obtain ⟨t', cells', b, c, h1, h2, h3⟩ := hv;subst hm;refine ⟨.pointer (some ⟨b, off + k * ei.size, none⟩), ?_, ?_⟩
 ·simp only [execOp, ho, h3, hv2, Sem.run_bind, qH hT hi hk hei w b off k kk hlt, Result.andThen_ok, Sem.run_pure]
 ·simp only [aQ, b5];exact ⟨t', cells', b, c, h1, h2, rfl⟩
def notNil : V → Bool
 | .one (.vp _ _) => true
 | .one (.c (.pt _)) => true
 | .one (.pas _) => true
 | _ => false
theorem xD {x : Operand} {y : V} (ho : o.op = .nilCheck x) (hd : o.dst = some d) (hdn : d < n) (hx : opv st x = some y) (hnn : notNil y = true) : Step P n o st ⟨opr x, []⟩ ⟨some (d, some y), []⟩ := by
 refine Step.value hd hdn fun st' ha G S μ a w hs => ⟨a.eval x, ?_, aH hs hx ha.1⟩
 have hv := aH hs hx ha.1;unfold notNil at hnn;split at hnn
 ·simp only [aQ, b5] at hv;obtain ⟨t', cells', b, c, h1, h2, h3⟩ := hv;simp [execOp, ho, h3]
 ·simp only [aQ, b5, Rep] at hv;obtain ⟨b, off, h1, _⟩ := hv;simp [execOp, ho, h1]
 ·simp only [aQ, b5] at hv;obtain ⟨b, off, h1, _⟩ := hv;simp [execOp, ho, h1]
 ·cases hnn
theorem gQ {t : TypeId} {x : Operand} {a : Act} {w : World} {u : Value} {m : Int} (ho : o.op = .call { callee := .builtin .len, args := #[x], argTypes := #[t] }) (hx : a.eval x = u) (hr : (Builtin.len_ #[t] o.type #[u]).run P w = .ok (goInt m) w) :
  (execOp a.eval o).run P w = .ok (.value (goInt m)) w := by
 simp only [execOp, ho, resolve, map_toArray, map_cons, map_nil, hx, Sem.run_bind, Sem.run_pure, Result.andThen_ok, invoke, builtin, hr]
theorem aCg {t e : TypeId} {i : TI} {x : Operand} {es : Nat} {l : List (List C)} (hT : Tok P T) (ho : o.op = .call { callee := .builtin .len, args := #[x], argTypes := #[t] }) (hd : o.dst = some d) (hdn : d < n) (hi : T[t]? = some (some i)) (hk : i.k = .sl e)
  (hx : opv st x = some (.one (.c (.sl es l)))) : Step P n o st ⟨opr x, []⟩ ⟨some (d, some (I .i64 (l.length : Int))), []⟩ := by
 refine Step.value hd hdn fun st' ha G S μ a w hs => ?_
 have hv := aH hs hx ha.1;simp only [aQ, b5, Rep] at hv;obtain ⟨ad, len, cap, h1, h2, _⟩ := hv;refine ⟨goInt l.length, gQ ho h1 ?_, by simp [aQ, b5, Rep, goInt]⟩;simp [Builtin.len_, run_underlying ((hT.get hi).slice hk) w, h2]
theorem aCi {t e : TypeId} {i : TI} {x : Operand} (hT : Tok P T) (ho : o.op = .call { callee := .builtin .len, args := #[x], argTypes := #[t] }) (hd : o.dst = some d) (hdn : d < n) (hi : T[t]? = some (some i)) (hk : i.k = .sl e)
  (hx : opv st x = some (.one (.c .nl))) : Step P n o st ⟨opr x, []⟩ ⟨some (d, some (I .i64 0)), []⟩ := by
 refine Step.value hd hdn fun st' ha G S μ a w hs => ?_
 have hv := aH hs hx ha.1;simp only [aQ, b5, Rep] at hv;refine ⟨goInt 0, gQ ho hv ?_, by simp [aQ, b5, Rep, goInt]⟩;simp [Builtin.len_, run_underlying ((hT.get hi).slice hk) w]
theorem aCj {t e : TypeId} {i : TI} {x : Operand} {te es id off len sz : Nat} {elems : List (List C)} {fz : Nat} (hT : Tok P T) (ho : o.op = .call { callee := .builtin .len, args := #[x], argTypes := #[t] }) (hd : o.dst = some d) (hdn : d < n) (hi : T[t]? = some (some i)) (hk : i.k = .sl e)
  (hx : opv st x = some (.one (.hs id off len sz))) (hh : st.h id = some (.arr te es elems fz)) (hsz : sz = elems.length) : Step P n o st ⟨opr x, [id]⟩ ⟨some (d, some (I .i64 (len : Int))), []⟩ := by
 refine Step.value hd hdn fun st' ha G S μ a w hs => ?_
 have hv := aH hs hx ha.1;have hh' : st'.h id = some (.arr te es elems fz) := by rw [ha.2 id (by simp), hh]
 simp only [aQ, b5] at hv;obtain ⟨_, hv | ⟨te', es', elems', fz', h1, h2, h3⟩⟩ := hv
 ·rw [hh'] at hv; cases hv
 rw [hh'] at h1; cases h1;obtain ⟨h4, ⟨h5, h6, h7⟩ | ⟨b, base, cap, h5, h6⟩⟩ := h3 hsz
 ·subst h6;simp at hsz;have hl0 : len = 0 := by omega
  refine ⟨goInt len, gQ ho h7 ?_, by simp [aQ, b5, Rep, goInt]⟩;simp [Builtin.len_, run_underlying ((hT.get hi).slice hk) w, hl0]
 ·refine ⟨goInt len, gQ ho h6 ?_, by simp [aQ, b5, Rep, goInt]⟩;simp [Builtin.len_, run_underlying ((hT.get hi).slice hk) w]
theorem zB {t : TypeId} {i : TI} {x : Operand} {s : List UInt8} (hT : Tok P T) (ho : o.op = .call { callee := .builtin .len, args := #[x], argTypes := #[t] }) (hd : o.dst = some d) (hdn : d < n) (hi : T[t]? = some (some i)) (hk : i.k = .str)
  (hx : opv st x = some (Go.AM.T s)) : Step P n o st ⟨opr x, []⟩ ⟨some (d, some (I .i64 (s.length : Int))), []⟩ := by
 refine Step.value hd hdn fun st' ha G S μ a w hs => ?_
 have hv := iD (aH hs hx ha.1);refine ⟨goInt s.length, gQ ho hv ?_, by simp [aQ, b5, Rep, goInt]⟩;simp [Builtin.len_, run_underlying ((hT.get hi).str hk) w];rfl
end
section
variable {P : Program} {n : Nat} {o : Oper} {st : St} {d : Nat} {T : TT}
theorem k7 (off : Nat) : ∀ (vs : List Value) (j : Nat) (cells : Array Value), off + j + vs.length ≤ cells.size →
  (vs.zipIdx j).foldl (fun cs (x : Value × Nat) => cs.setIfInBounds (off + x.2) x.1) cells = ⟨bU cells.toList (off + j) vs⟩
 | [], j, cells, _ => by simp [bU]
 | v :: vs, j, cells, h => by
  simp only [length_cons] at h;have ih := k7 off vs (j + 1) (cells.setIfInBounds (off + j) v) (by simp; omega);simp only [List.zipIdx_cons, List.foldl_cons, ih];congr 1;unfold bU;simp only [Array.toList_setIfInBounds];apply List.ext_getElem?;intro k;simp only [List.getElem?_append, length_append, length_take, length_set, Array.length_toList, length_cons, List.getElem?_take, List.getElem?_drop, List.getElem?_set];have hm1 : min (off + (j + 1)) cells.size = off + j + 1 := by omega
  have hm2 : min (off + j) cells.size = off + j := by omega
  simp only [hm1, hm2];by_cases c1 : k < off + j
  ·have a1 : k < off + j + 1 + vs.length := by omega
   have a2 : k < off + j + 1 := by omega
   have a3 : k < off + (j + 1) := by omega
   have a4 : k < off + j + (vs.length + 1) := by omega
   have a5 : ¬ off + j = k := by omega
   simp [c1, a1, a2, a3, a4, a5]
  ·by_cases c2 : k = off + j
   ·subst c2;have a1 : off + j < off + j + 1 + vs.length := by omega
    have a5 : off + j < cells.size := by omega
    have a6 : off + j < off + (j + 1) := by omega
    simp [a1, a5, a6]
   ·by_cases c3 : k < off + j + 1 + vs.length
    ·have a2 : ¬ k < off + j + 1 := by omega
     have a4 : k < off + j + (vs.length + 1) := by omega
     have a6 : k - (off + j) = (k - (off + j + 1)) + 1 := by omega
     simp [c1, c3, a2, a4, a6]
    ·have a4 : ¬ k < off + j + (vs.length + 1) := by omega
     have a5 : ¬ off + j = k := by omega
     simp [c3, a4, a5, show off + (j + 1) + vs.length + (k - (off + j + 1 + vs.length)) = k by omega, show off + j + (vs.length + 1) + (k - (off + j + (vs.length + 1))) = k by omega]
def lF (st : St) : List (Nat × Operand) → Option (List (Nat × List R))
 | [] => some []
 | (i, x) :: ps => match opv st x with
  | some v => match eW v with
   | some rs => match lF st ps with | some l => some ((i, rs) :: l) | none => none
   | none => none
  | none => none
def eJ : List (Nat × Operand) → List Nat
 | [] => []
 | (_, x) :: ps => opr x ++ eJ ps
def y0 (places : List (Nat × Nat)) : List R → List (Nat × List R) → Option (List R)
 | cells, [] => some cells
 | cells, (i, rs) :: ps => match places[i]? with
  | some (off, size) => if Nat.beq rs.length size && Nat.ble (off + rs.length) cells.length then y0 places (bU cells off rs) ps else none
  | none => none
def iC (T : TT) : List (Nat × TypeId) → Option (List (Nat × Nat))
 | [] => some []
 | (off, t) :: fs => match T[t]? with
  | some (some i) => match iC T fs with | some l => some ((off, i.size) :: l) | none => none
  | _ => none
theorem xQ {G : Ctx} {S : Sto} {μ : Mu} {st' : St} {a : Act} {w : World} (hs : Sim G n S μ st' a w) : ∀ (ps : List (Nat × Operand)) (l : List (Nat × List R)), lF st ps = some l → (∀ t ∈ eJ ps, st'.e t = st.e t) →
  ∃ vs : List (Nat × Value), ps.map (fun (i, x) => (i, a.eval x)) = vs ∧ vs.length = l.length ∧ ∀ (k : Nat) (p : Nat × List R), l[k]? = some p → ∃ v : Value, vs[k]? = some (p.1, v) ∧ aO S μ st'.h p.2 v.cells.toList := by
 intro ps
 induction ps with
 | nil => intro l h _; simp [lF] at h; subst h; exact ⟨[], rfl, rfl, fun k p h => by simp at h⟩
 | cons p ps ih =>
  obtain ⟨i, x⟩ := p;intro l h ha;simp only [lF] at h;split at h
  ·rename_i v hv;split at h
   ·rename_i rs hc;split at h
    ·rename_i l' hl';cases h;obtain ⟨vs, h1, h2, h3⟩ := ih l' hl' fun t ht => ha t (by simp [eJ, ht])
     refine ⟨(i, a.eval x) :: vs, by simp [h1], by simp [h2], fun k q hq => ?_⟩;cases k with
     | zero =>
      simp at hq; subst hq;exact ⟨a.eval x, rfl, dD (aH hs hv fun t ht => ha t (by simp [eJ, ht])) hc⟩
     | succ k => simp at hq; simpa using h3 k q hq
    ·cases h
   ·cases h
  ·cases h
theorem nT {S : Sto} {μ : Mu} {H : cH} {cells rs : List R} {vs us : List Value} {off : Nat} (h : aO S μ H cells vs) (k : aO S μ H rs us) : aO S μ H (bU cells off rs) (bU vs off us) := by
 have hl := k.length;unfold bU;rw [hl];exact ((h.take off).append k).append (h.drop _)
theorem zX {S : Sto} {μ : Mu} {H : cH} {places : List (Nat × Nat)} : ∀ (ps : List (Nat × List R)) (vs : List (Nat × Value)) (cells : List R) (cs : Array Value) (out : List R), y0 places cells ps = some out → aO S μ H cells cs.toList →
  vs.length = ps.length → (∀ (k : Nat) (p : Nat × List R), ps[k]? = some p → ∃ v : Value, vs[k]? = some (p.1, v) ∧ aO S μ H p.2 v.cells.toList) →
  ∃ out', Instr.fill (places[·]?) cs vs = some out' ∧ aO S μ H out out'.toList := by
 intro ps
 induction ps with
 | nil =>
  intro vs cells cs out h hr hl _;simp at hl; subst hl;simp [y0] at h; subst h;exact ⟨cs, rfl, hr⟩
 | cons p ps ih =>
  intro vs cells cs out h hr hl hp;obtain ⟨i, rs⟩ := p
  match vs, hl with
  | q :: vs, hl =>
   obtain ⟨v, hv, hrel⟩ := hp 0 (i, rs) rfl;simp at hv; subst hv;simp only [y0] at h;split at h
   ·rename_i off size hpl;split at h
    ·rename_i hc;simp only [Bool.and_eq_true] at hc;have hc1 := eq_of_beq_eq_true hc.1;have hc2 := le_of_ble_eq_true hc.2;have hvl := hrel.length;have hcl := hr.length;simp only [Array.length_toList] at hvl hcl;have hset := k7 off v.cells.toList 0 cs (by simp; omega);obtain ⟨out', h1, h2⟩ := ih vs (bU cells off rs) ⟨bU cs.toList off v.cells.toList⟩ out h (nT hr hrel) (by simpa using hl) fun k p hk => by simpa using hp (k + 1) p (by simpa using hk)
     refine ⟨out', ?_, h2⟩;simp only [Instr.fill];rw [hpl];simp only [];have hcond : (v.cells.size ≠ size || decide (off + v.cells.size > cs.size)) = false := by
      simp only [Bool.or_eq_false_iff, decide_eq_false_iff_not];exact ⟨by simp; omega, by omega⟩
     simp only [hcond, Bool.false_eq_true, if_false];have hset' : (v.cells.zipIdx.foldl (fun cs (x : Value × Nat) => cs.setIfInBounds (off + x.2) x.1) cs) = ⟨bU cs.toList off v.cells.toList⟩ := by
      rw [← Array.foldl_toList, Array.toList_zipIdx];simpa using hset
     rw [← h1];congr 1
    ·cases h
   ·cases h
theorem o6 (hT : Tok P T) : ∀ (fs : List (Nat × TypeId)) (fields : List Field) (places : List (Nat × Nat)), fs = fields.map (fun f => (f.offset, f.type)) → iC T fs = some places →
  fields.mapM (fun f => (P.info? f.type).map fun i => (f.offset, i.size)) = some places
 | _, [], places, h, hp => by simp at h; subst h; simp [iC] at hp; subst hp; rfl
 | _, f :: fields, places, h, hp => by
  simp only [map_cons] at h;subst h;simp only [iC] at hp;split at hp
  ·rename_i i hi;split at hp
   ·rename_i l hl;cases hp;have ih := o6 hT _ fields l rfl hl;have hsz := (hT.get hi).info;simp only [mapM_cons, ih];cases hq : P.info? f.type with
    | none => simp [hq] at hsz
    | some inf =>
     simp [hq] at hsz;simp [hsz]
   ·cases hp
  ·cases hp
theorem aFb {t : TypeId} {i : TI} {fs : List (Nat × TypeId)} {places : List (Nat × Nat)} {parts : Array (Nat × Operand)} {ps : List (Nat × List R)} {out : List R} (hT : Tok P T) (ho : o.op = .build t parts) (hd : o.dst = some d) (hdn : d < n) (hi : T[t]? = some (some i)) (hk : i.k = .st fs)
  (hpl : iC T fs = some places) (hps : lF st parts.toList = some ps) (hf : y0 places (i.zero.map R.c) ps = some out) : Step P n o st ⟨eJ parts.toList, []⟩ ⟨some (d, some (aGj out)), []⟩ := by
 refine Step.value hd hdn fun st' ha G S μ a w hs => ?_
 obtain ⟨vs, h1, h2, h3⟩ := xQ hs _ _ hps ha.1;obtain ⟨fields, hu, hfs⟩ := (hT.get hi).struct hk;obtain ⟨inf, dd, z, g1, g2, g3, g4, g5, g6, g7, g8⟩ := (hT.get hi).ex;obtain ⟨out', h4, h5⟩ := zX (S := S) (μ := μ) (H := st'.h) ps vs (i.zero.map R.c) z.cells out hf (fE g7).toR h2 h3;refine ⟨.agg out', ?_, ?_⟩
 ·have hb : P.built t (parts.map fun (i, x) => (i, a.eval x)).toList = some out' := by
   unfold Program.built;simp only [g1, hu, g6, o6 hT fs fields.toList places hfs hpl];rw [← h4, ← h1];simp
  simp only [execOp, ho, Sem.run_bind, run_build w t _ out' hb, Result.andThen_ok, Sem.run_pure]
 ·have := wY h5;simpa using this
theorem aE6 {t ft : TypeId} {i fi : TI} {fs : List (Nat × TypeId)} {f foff : Nat} {x : Operand} {v y : V} {rs : List R} (hT : Tok P T) (ho : o.op = .field t x f) (hd : o.dst = some d) (hdn : d < n) (hi : T[t]? = some (some i)) (hk : i.k = .st fs) (hf : fs[f]? = some (foff, ft)) (hfi : T[ft]? = some (some fi))
  (hx : opv st x = some v) (hag : (match v with | .pa _ => true | .ma _ => true | _ => false) = true) (hc : eW v = some rs) (hl : Nat.ble (foff + fi.size) rs.length = true) (hy : nO fi ((rs.drop foff).take fi.size) = some y) : Step P n o st ⟨opr x, []⟩ ⟨some (d, some y), []⟩ := by
 refine Step.value hd hdn fun st' ha G S μ a w hs => ?_
 have hv := aH hs hx ha.1;have hrel := dD hv hc;have hagg : ∃ cs, a.eval x = .agg cs := by
  cases v <;> simp only [aQ] at hv <;> simp at hag
  ·obtain ⟨vs, h, _⟩ := hv; exact ⟨_, h⟩
  ·obtain ⟨vs, h, _⟩ := hv; exact ⟨_, h⟩
 obtain ⟨cs, hcs⟩ := hagg;rw [hcs] at hrel;simp only [Value.cells] at hrel;have hll := hrel.length;have hl' := le_of_ble_eq_true hl;simp only [Array.length_toList] at hll;obtain ⟨fields, h1, h2⟩ := (hT.get hi).struct hk;rw [h2] at hf;simp only [List.getElem?_map, Option.map_eq_some_iff, Array.getElem?_toList] at hf;obtain ⟨fl, h3, h4⟩ := hf;cases h4;have hres := iH ((hrel.drop fl.offset).take fi.size) hy;refine ⟨_, ?_, hres⟩;simp only [execOp, ho, hcs, Sem.run_bind, Instr.field, run_underlying h1 w, Result.andThen_ok, h3, asAgg, Sem.run_pure, part, (hT.get hfi).agg_run w];cases hka : fi.k.agg with
 | true =>
  simp only [if_true, Sem.run_bind, (hT.get hfi).size_run w, Result.andThen_ok, Sem.run_pure];congr 3;have : (cs.extract fl.offset (fl.offset + fi.size)).toList = (cs.toList.drop fl.offset).take fi.size := by simp
  rw [← this]
 | false =>
  have h1s := (hT.get hfi).one hka;simp only [Bool.false_eq_true, if_false];have hlt : fl.offset < cs.size := by omega
  have he : cs[fl.offset]? = some cs[fl.offset] := by simp [hlt]
  rw [he];simp only [Sem.run_pure, Result.andThen_ok];congr 2;rw [h1s, List.take_one, List.head?_drop];simp [hlt]
end
inductive Cle : C → C → Prop
 | refl {x} : Cle x x
 | nl {es} : Cle .nl (.sl es [])
 | sn {es l} : Cle (.sn es l) (.sl es l)
 | sg {te es l} : Cle (.sg te es l) (.sl es l)
theorem Cle.rep {S : Sto} {x y : C} {v : Value} (h : Cle x y) (k : Rep S x v) : Rep S y v := by
 cases h with
 | refl => exact k
 | sg =>
  simp only [Rep] at k ⊢;obtain ⟨a, len, cap, h1, h2, h3, h4, h5⟩ := k;rcases h5 with ⟨rfl, h5, h6⟩ | ⟨b, o, rfl, h6, _⟩
  ·refine ⟨none, len, cap, h1, h2, h3, h4, fun _ => ⟨h5, h6⟩, by simp, 0, 0, by simp, ?_⟩;have : (_ : List (List C)).length = 0 := h2.symm.trans h5;rw [eq_nil_of_length_eq_zero this];simp [aR]
  ·exact ⟨some ⟨b, o, none⟩, len, cap, h1, h2, h3, h4, by simp, fun ad e _ => by cases e; rfl, b, o, fun ad e => by cases e; exact ⟨rfl, rfl⟩, h6⟩
 | nl =>
  simp only [Rep] at k ⊢;exact ⟨none, 0, 0, k, by simp, le_refl _, zero_le _, fun _ => ⟨rfl, rfl⟩, by simp, 0, 0, by simp, by simp [aR]⟩
 | sn =>
  simp only [Rep] at k ⊢;obtain ⟨b, o, sp, len, cap, h1, h2, h3, h4, hsp, h5⟩ := k;exact ⟨some ⟨b, o, sp⟩, len, cap, h1, h2, h3, h4, by simp, by rintro ad ⟨⟩; exact hsp, b, o, by rintro ad ⟨⟩; exact ⟨rfl, rfl⟩, h5⟩
inductive PureL (h : cH) : List Nat → List R → List C → Prop
 | nil : PureL h [] [] []
 | c {ids rs cs x y} : Cle x y → PureL h ids rs cs → PureL h ids (.c x :: rs) (y :: cs)
 | hs {ids rs cs id off len sz te es elems e} : h id = some (.arr te es elems 2) → sz = elems.length → e = (elems.drop off).take len → PureL h ids rs cs → PureL h (id :: ids) (.hs id off len sz :: rs) (.sl es e :: cs)
 | any {ids rs cs r} : PureL h ids rs cs → PureL h ids (r :: rs) (.any :: cs)
 | fn {ids rs cs f} : PureL h ids rs cs → PureL h ids (.clo f [] :: rs) (.fn f :: cs)
 | ras {ids ids' ids0 rs cs n es l fl rows} : ids0 = ids' ++ ids → PureL h ids' l fl → fl = rows.flatten → (∀ r ∈ rows, r.length = es) → rows.length = n → PureL h ids rs cs → PureL h ids0 (.ras n es l :: rs) (.sl es rows :: cs)
theorem PureL.of_pure {h : cH} : ∀ {cs : List C}, PureL h [] (cs.map R.c) cs
 | [] => .nil
 | _ :: _ => .c .refl PureL.of_pure
def aHb : List R → List C
 | [] => []
 | .c x :: l => x :: aHb l
 | .clo f [] :: l => .fn f :: aHb l
 | _ :: l => .any :: aHb l
theorem PureL.ofA {h : cH} : ∀ {rs : List R}, PureL h [] rs (aHb rs)
 | [] => .nil
 | .c _ :: _ => .c .refl .ofA
 | .hs .. :: _ => .any .ofA
 | .tl .. :: _ => .any .ofA
 | .vp .. :: _ => .any .ofA
 | .ep .. :: _ => .any .ofA
 | .mr .. :: _ => .any .ofA
 | .clo _ [] :: _ => .fn .ofA
 | .clo _ (_ :: _) :: _ => .any .ofA
 | .mth .. :: _ => .any .ofA
 | .yl .. :: _ => .any .ofA
 | .ra .. :: _ => .any .ofA
 | .rp .. :: _ => .any .ofA
 | .ras .. :: _ => .any .ofA
 | .pas .. :: _ => .any .ofA
theorem aHi {S : Sto} {μ : Mu} {H : cH} {w : World} {id off len sz te es : Nat} {elems : List (List C)} {v : Value} (hO : j6 S μ H w id (.arr te es elems 2)) (hh : H id = some (.arr te es elems 2)) (hsz : sz = elems.length)
  (hv : b5 S μ H (.hs id off len sz) v) : Rep S (.sl es ((elems.drop off).take len)) v := by
 simp only [b5] at hv;obtain ⟨_, hv | ⟨te', es', elems', fz', h1, h2, h3⟩⟩ := hv
 ·rw [hh] at hv; cases hv
 rw [hh] at h1; cases h1;obtain ⟨h4, ⟨h5, h6, h7⟩ | ⟨b, base, cap, h5, h6⟩⟩ := h3 hsz
 ·subst h6;simp only [Rep];exact ⟨none, 0, 0, h7, by simp, le_refl _, zero_le _, fun _ => ⟨rfl, rfl⟩, by simp, 0, 0, by simp, by simp [aR]⟩
 ·obtain ⟨g0, vs, g1, g2, g3, g4, g5, g6, g7, g8⟩ := hO.arr h5;simp only [Rep];have hlen : ((elems.drop off).take len).length = len := by simp; omega
  refine ⟨_, len, cap - off, h6, hlen.symm, by omega, le_trans (Nat.sub_le _ _) g4.1, by simp, by rintro ad ⟨⟩; exact fun _ => rfl, b, base + off * es, by rintro ad ⟨⟩; exact ⟨rfl, rfl⟩, ?_⟩;have := aR.of_flat g0 g5 (g8 rfl);exact (this.drop off).take len
theorem PureL.rel {S : Sto} {μ : Mu} {H H0 : cH} {w : World} : ∀ {ids : List Nat} {rs : List R} {cs : List C} {vs : List Value}, PureL H0 ids rs cs → (∀ i ∈ ids, H i = H0 i) → (∀ id o, H id = some o → j6 S μ H w id o) → aO S μ H rs vs → bR S cs vs := by
 intro ids rs cs vs hp
 induction hp generalizing vs with
 | nil => intro _ _ h; simp only [aO] at h; subst h; simp [bR]
 | c hc _ ih =>
  intro hi hO h;simp only [aO] at h;obtain ⟨v, vs', rfl, h1, h2⟩ := h;simp only [b5] at h1;simp only [bR];exact ⟨v, vs', rfl, hc.rep h1, ih hi hO h2⟩
 | @ras ids ids' ids0 rs cs n es l fl rows hids _ hfl hrl hn _ ih' ih =>
  subst hids;intro hi hO h;simp only [aO] at h;obtain ⟨v, vs', rfl, h1, h2⟩ := h;simp only [b5] at h1;simp only [bR];refine ⟨v, vs', rfl, ?_, ih (fun i hh => hi i (by simp [hh])) hO h2⟩;obtain ⟨a, cap, g1, g2, g3, g4, g5, g6, b, o, g7, us, g8, g9⟩ := h1;have g10 := ih' (fun i hh => hi i (by simp [hh])) hO g8;subst hfl;simp only [Rep];exact ⟨a, n, cap, g1, hn.symm, g3, g4, g5, fun ad e _ => g6 ad e, b, o, g7, aR.of_flat hrl g10 g9⟩
 | any _ ih =>
  intro hi hO h;simp only [aO] at h;obtain ⟨v, vs', rfl, h1, h2⟩ := h;simp only [bR];exact ⟨v, vs', rfl, by simp only [Rep]; exact h1.one, ih hi hO h2⟩
 | fn _ ih =>
  intro hi hO h;simp only [aO] at h;obtain ⟨v, vs', rfl, h1, h2⟩ := h;simp only [b5, aO] at h1;obtain ⟨us, rfl, rfl⟩ := h1;simp only [bR];exact ⟨_, vs', rfl, by simp only [Rep], ih hi hO h2⟩
 | @hs ids rs cs id off len sz te es elems e he hsz hee _ ih =>
  intro hi hO h;simp only [aO] at h;obtain ⟨v, vs', rfl, h1, h2⟩ := h;simp only [bR];have hh : H id = some (.arr te es elems 2) := by rw [hi id (by simp), he]
  exact ⟨v, vs', rfl, by rw [hee]; exact aHi (hO id _ hh) hh hsz h1, ih (fun i h => hi i (by simp [h])) hO h2⟩
inductive RowsV (st : St) (es : Nat) : Nat → List Nat → List (Nat × Operand) → List (List C) → Prop
 | nil {k} : RowsV st es k [] [] []
 | cons {k ids ids' x ps v rs cs rows} : opv st x = some v → eW v = some rs → PureL st.h ids rs cs → Nat.beq rs.length es = true → RowsV st es (k + 1) ids' ps rows → RowsV st es k (ids ++ ids') ((k, x) :: ps) (cs :: rows)
section
variable {P : Program} {n : Nat} {o : Oper} {st : St} {d : Nat} {T : TT}
theorem x8 {G : Ctx} {S : Sto} {μ : Mu} {st' : St} {a : Act} {w : World} (hs : Sim G n S μ st' a w) {es : Nat} : ∀ {k : Nat} {ids : List Nat} {ps : List (Nat × Operand)} {rows : List (List C)}, RowsV st es k ids ps rows → (∀ t ∈ eJ ps, st'.e t = st.e t) → (∀ i ∈ ids, st'.h i = st.h i) →
  ∀ (cells : Array Value), cells.size = (k + ps.length) * es → ∃ out : Array Value, Instr.fill (fun i => some (i * es, es)) cells (ps.map fun (i, x) => (i, a.eval x)) = some out ∧ out.size = cells.size ∧
   ∃ us, bR S rows.flatten us ∧ out.toList = cells.toList.take (k * es) ++ us ∧ (∀ r ∈ rows, r.length = es) := by
 intro k ids ps rows h
 induction h with
 | nil =>
  intro _ _ cells hc;refine ⟨cells, rfl, rfl, [], by simp [bR], ?_, by simp⟩;rw [append_nil, take_of_length_le];simp at hc;simp [hc]
 | @cons k ids ids' x ps v rs cs rows hv hc hp hl _ ih =>
  intro ha hi cells hsz;have hl' := eq_of_beq_eq_true hl;have hrel := dD (aH hs hv fun t ht => ha t (by simp [eJ, ht])) hc;have hrep := hp.rel (fun i h => hi i (by simp [h])) hs.inv.obj hrel;have hvl := hrel.length;simp only [Array.length_toList] at hvl;simp only [length_cons] at hsz;have hke : (k + (ps.length + 1)) * es = k * es + es + ps.length * es := by
   rw [add_mul, add_mul]; omega
  have hset := k7 (k * es) (a.eval x).cells.toList 0 cells (by simp only [Array.length_toList]; omega);have hsl : (bU cells.toList (k * es) (a.eval x).cells.toList).length = cells.size := by
   unfold bU;simp;omega
  obtain ⟨out, h1, h2, us, h3, h4, h5⟩ := ih (fun t ht => ha t (by simp [eJ, ht])) (fun i h => hi i (by simp [h])) ⟨bU cells.toList (k * es) (a.eval x).cells.toList⟩ (by
   simp only [size_toArray, hsl, hsz];congr 1
   omega)
  refine ⟨out, ?_, by rw [h2]; simpa using hsl, (a.eval x).cells.toList ++ us, ?_, ?_, ?_⟩
  ·simp only [map_cons, Instr.fill];have hcond : ((a.eval x).cells.size ≠ es || decide (k * es + (a.eval x).cells.size > cells.size)) = false := by
    simp only [Bool.or_eq_false_iff, decide_eq_false_iff_not];exact ⟨by simp; omega, by omega⟩
   simp only [hcond, Bool.false_eq_true, if_false];have hset' : ((a.eval x).cells.zipIdx.foldl (fun cs (x : Value × Nat) => cs.setIfInBounds (k * es + x.2) x.1) cells) = ⟨bU cells.toList (k * es) (a.eval x).cells.toList⟩ := by
    rw [← Array.foldl_toList, Array.toList_zipIdx];simpa using hset
   rw [← h1];congr 1
  ·rw [flatten_cons]; exact hrep.append h3
  ·rw [h4];have : (bU cells.toList (k * es) (a.eval x).cells.toList).take ((k + 1) * es) = cells.toList.take (k * es) ++ (a.eval x).cells.toList := by
    unfold bU;apply List.take_left';simp;rw [add_mul];omega
   show (bU cells.toList (k * es) (a.eval x).cells.toList).take ((k + 1) * es) ++ us = _;rw [this, append_assoc]
  ·intro r hr;rcases mem_cons.1 hr with rfl | hr
   ·have := hrep.length;simp only [Array.length_toList] at this;omega
   ·exact h5 r hr
theorem RowsV.lengths {es k : Nat} {ids : List Nat} {ps : List (Nat × Operand)} {rows : List (List C)} (h : RowsV st es k ids ps rows) : rows.length = ps.length := by
 induction h with
 | nil => rfl
 | cons _ _ _ _ _ ih => simp [ih]
theorem z2 {t e : TypeId} {i ei : TI} {len : Nat} {parts : Array (Nat × Operand)} {ids : List Nat} {rows : List (List C)} (id : Nat) (hT : Tok P T) (ho : o.op = .buildSlice t len parts) (hd : o.dst = some d) (hdn : d < n) (hi : T[t]? = some (some i)) (hk : i.k = .sl e) (hei : T[e]? = some (some ei))
  (hrows : RowsV st ei.size 0 ids parts.toList rows) (hlen : Nat.beq len parts.size = true) (hsmall : Nat.ble (len * ei.size) 16777216 = true) (hsm1 : Nat.ble len 16777216 = true) (hid : st.h id = none) :
  Step P n o st ⟨eJ parts.toList, id :: ids⟩ ⟨some (d, some (.one (.hs id 0 len len))), [(id, some (.arr e ei.size rows 0))]⟩ := by
 refine Step.new hd hdn hid (by simp) fun st' ha hid' G S μ a w hs => ?_
 have hlen' := eq_of_beq_eq_true hlen;have hsm := le_of_ble_eq_true hsmall;obtain ⟨z, hz, hzr, _⟩ := (hT.get hei).zero_run;have hzl := (hzr S).length;rw [(hT.get hei).len] at hzl;simp only [Array.length_toList] at hzl;have hrl := hrows.lengths;simp only [Array.length_toList] at hrl;have key : ∀ (cells : Array Value), cells.size = len * ei.size → ∃ out : Array Value, Instr.fill (fun i => some (i * ei.size, ei.size)) cells (parts.map fun (i, x) => (i, a.eval x)).toList = some out ∧ out.size = len * ei.size ∧ bR S rows.flatten out.toList ∧ (∀ r ∈ rows, r.length = ei.size) := by
  intro cells hc;obtain ⟨out, h1, h2, us, h3, h4, h5⟩ := x8 hs hrows ha.1 (fun i h => ha.2 i (by simp [h])) cells (by rw [hc, hlen']; simp);refine ⟨out, by rw [← h1]; simp, by rw [h2, hc], ?_, h5⟩;simp at h4;rw [h4]; exact h3
 have hrun : ∃ out : Array Value, (Instr.buildSlice t len (parts.map fun (i, x) => (i, a.eval x))).run P w = .ok (.slice (some ⟨w.heap.size, 0, none⟩) len len) (w.alloc (.cells out e)) ∧ out.size = len * ei.size ∧ bR S rows.flatten out.toList ∧ (∀ r ∈ rows, r.length = ei.size) := by
  by_cases h0 : len * ei.size = 0
  ·obtain ⟨out, h1, h2, h3, h4⟩ := key ((Array.range (len * ei.size)).map ((#[] : Array Value)[· % (#[] : Array Value).size]!)) (by simp);refine ⟨out, ?_, h2, h3, h4⟩;have hgt : ¬ len * ei.size > 2 ^ 24 := by omega
   simp only [Instr.buildSlice, Sem.run_bind, run_underlying ((hT.get hi).slice hk) w, Result.andThen_ok, (hT.get hei).size_run w];rw [if_neg hgt, if_pos h0];simp only [Sem.run_bind, Result.andThen_ok, Sem.run_pure, h1, fD]
  ·obtain ⟨out, h1, h2, h3, h4⟩ := key ((Array.range (len * ei.size)).map (z.cells[· % z.cells.size]!)) (by simp);refine ⟨out, ?_, h2, h3, h4⟩;have hgt : ¬ len * ei.size > 2 ^ 24 := by omega
   simp only [Instr.buildSlice, Sem.run_bind, run_underlying ((hT.get hi).slice hk) w, Result.andThen_ok, (hT.get hei).size_run w];rw [if_neg hgt, if_neg h0];simp only [Sem.run_bind, hz w, Result.andThen_ok, Sem.run_pure, h1, fD]
 obtain ⟨out, h1, h2, h3, h4⟩ := hrun;have hlm : len ≤ maxLen := by
  have := le_of_ble_eq_true hsm1;unfold maxLen;omega
 refine ⟨_, _, .slice (some ⟨w.heap.size, 0, none⟩) len len, (0, len), ?_, WChg.alloc w (.cells out e), ?_, ?_⟩
 ·simp only [execOp, ho, Sem.run_bind, h1, Result.andThen_ok, Sem.run_pure]
 ·have hrl' : rows.length = len := by omega
  refine ⟨h4, .inr ⟨w.heap.size, 0, len, out.toList, aC _ _ _, heap_alloc_new w _, by simp [h2], by omega, ⟨?_, lG hs.inv⟩, ?_, fun _ o _ => dY hs.inv o, fun o _ => dY hs.inv o, fun e => by cases e⟩⟩
  ·exact hlm
  ·simp only [drop_zero];rw [take_of_length_le (by simp [h2, hrl'])];exact h3
 ·simp only [aQ, b5];have hrl' : rows.length = len := by omega
  exact ⟨⟨_, _, _, rfl⟩, .inr ⟨e, ei.size, rows, 0, aC _ _ _, by omega, fun _ => ⟨by omega, .inr ⟨w.heap.size, 0, len, aC _ _ _, by simp⟩⟩⟩⟩
end
inductive Src (st : St) (es : Nat) : List Nat → V → List (List C) → Prop
 | hs {id off len sz te elems fz rows} : st.h id = some (.arr te es elems fz) → sz = elems.length → rows = (elems.drop off).take len → Src st es [id] (.one (.hs id off len sz)) rows
 | all {id sz te elems fz} : st.h id = some (.arr te es elems fz) → sz = elems.length → Src st es [id] (.one (.hs id 0 sz sz)) elems
 | sl {l} : Src st es [] (.one (.c (.sl es l))) l
 | nl : Src st es [] (.one (.c .nl)) []
 | sn {l} : Src st es [] (.one (.c (.sn es l))) l
theorem sB {α : Type} {es : Nat} : ∀ {l : List (List α)}, (∀ r ∈ l, r.length = es) → ∀ k : Nat, (l.take k).flatten = l.flatten.take (k * es)
 | [], _, k => by simp
 | x :: xs, hl, 0 => by simp
 | x :: xs, hl, k + 1 => by
  have hx := hl x (by simp);have ih := sB (l := xs) (fun r hr => hl r (by simp [hr])) k;rw [take_succ_cons, flatten_cons, flatten_cons, ih, List.take_append, take_of_length_le (l := x) (by rw [hx, add_mul]; omega)];rw [show (k + 1) * es - x.length = k * es by rw [hx, add_mul]; omega]
theorem sC {α : Type} {es : Nat} : ∀ {l : List (List α)}, (∀ r ∈ l, r.length = es) → ∀ k : Nat, (l.drop k).flatten = l.flatten.drop (k * es)
 | [], _, k => by simp
 | x :: xs, hl, 0 => by simp
 | x :: xs, hl, k + 1 => by
  have hx := hl x (by simp);have ih := sC (l := xs) (fun r hr => hl r (by simp [hr])) k;rw [drop_succ_cons, flatten_cons, ih, drop_append, drop_of_length_le (l := x) (by rw [hx, add_mul]; omega), nil_append];rw [show (k + 1) * es - x.length = k * es by rw [hx, add_mul]; omega]
theorem aR.flat {S : Sto} {es b : Nat} : ∀ {l : List (List C)} {o : Nat}, aR S es b l o → ∃ vs, bR S l.flatten vs ∧ dF S b o vs ∧ ∀ r ∈ l, r.length = es
 | [], _, _ => ⟨[], by simp [bR], fun i v h => by simp at h, by simp⟩
 | r :: rs, o, h => by
  simp only [aR] at h;obtain ⟨h1, ⟨vs, h2, h3⟩, h4⟩ := h;obtain ⟨us, h5, h6, h7⟩ := aR.flat h4;have hl := h2.length;refine ⟨vs ++ us, by rw [flatten_cons]; exact h2.append h5, fun i v hi => ?_, ?_⟩
  ·rw [List.getElem?_append] at hi;split at hi
   ·exact h3 i v hi
   ·have := h6 _ v hi;rwa [show o + es + (i - vs.length) = o + i by omega] at this
  ·intro q hq;rcases mem_cons.1 hq with rfl | hq
   ·exact h1
   ·exact h7 q hq
theorem Src.rel {G : Ctx} {n : Nat} {S : Sto} {μ : Mu} {st st' : St} {a : Act} {w : World} {es : Nat} {ids : List Nat} {y : V} {rows : List (List C)} {v : Value} (hs : Sim G n S μ st' a w) (h : Src st es ids y rows) (hi : ∀ i ∈ ids, st'.h i = st.h i) (hv : aQ S μ st'.h y v) :
  ∃ ad c news, v = .slice ad rows.length c ∧ bR S rows.flatten news ∧ (∀ r ∈ rows, r.length = es) ∧ (ad = none → rows = []) ∧ ∀ x, ad = some x → ∀ j u, news[j]? = some u → w.cell? (x.add j) = some u := by
 have hall : ∀ {id off len sz te elems fz rows}, st.h id = some (.arr te es elems fz) → sz = elems.length → rows = (elems.drop off).take len → (∀ i ∈ [id], st'.h i = st.h i) → aQ S μ st'.h (.one (.hs id off len sz)) v →
   ∃ ad c news, v = .slice ad rows.length c ∧ bR S rows.flatten news ∧ (∀ r ∈ rows, r.length = es) ∧ (ad = none → rows = []) ∧ ∀ x, ad = some x → ∀ j u, news[j]? = some u → w.cell? (x.add j) = some u := by
  intro id off len sz te elems fz rows he hsz hr hi hv;have hh : st'.h id = some (.arr te es elems fz) := by rw [hi id (by simp), he]
  simp only [aQ, b5] at hv;obtain ⟨_, hv | ⟨te', es', elems', fz', h1, h2, h3⟩⟩ := hv
  ·rw [hh] at hv; cases hv
  rw [hh] at h1; cases h1;obtain ⟨h4, ⟨h5, h6, h7⟩ | ⟨b, base, cap, h5, h6⟩⟩ := h3 hsz
  ·subst h6;simp at hr;subst hr;exact ⟨none, 0, [], h7, by simp [bR], by simp, fun _ => rfl, by simp⟩
  ·obtain ⟨g0, vs, g1, g2, g3, g4, g5, g6, g7, g8⟩ := (hs.inv.obj id _ hh).arr h5;have hrl : rows.length = len := by rw [hr]; simp; omega
   have hfl : rows.flatten = (elems.flatten.drop (off * es)).take (len * es) := by
    rw [hr, sB (fun r hr => g0 r (List.mem_of_mem_drop hr)), sC g0]
   refine ⟨_, cap - off, _, by rw [hrl]; exact h6, by rw [hfl]; exact (g5.drop (off * es)).take (len * es), fun r hr' => g0 r (List.mem_of_mem_drop (mem_of_mem_take (hr ▸ hr'))), by simp, ?_⟩;rintro x ⟨⟩ j u hj;rw [Addr.add_mid, cell_of_row w b _ ⟨vs⟩ te (0, 0) g1];rw [List.getElem?_take] at hj;split at hj
   ·rw [List.getElem?_drop, List.getElem?_take] at hj;split at hj
    ·rw [List.getElem?_drop] at hj;simpa [add_assoc] using hj
    ·cases hj
   ·cases hj
 cases h with
 | hs he hsz hr => exact hall he hsz hr hi hv
 | all he hsz =>
  subst hsz;exact hall he rfl (by simp) hi hv
 | sl =>
  simp only [aQ, b5, Rep] at hv;obtain ⟨ad, len, cap, h1, h2, h3, h4, h5, h6, b, off, h7, h8⟩ := hv;obtain ⟨vs, q1, q2, q3⟩ := aR.flat h8;refine ⟨ad, cap, vs, by rw [h1, h2], q1, q3, fun e => eq_nil_of_length_eq_zero (by rw [← h2]; exact (h5 e).1), ?_⟩;rintro x rfl j u hj;obtain ⟨h9, h10⟩ := h7 x rfl
  have h11 := h6 x rfl (by
   rintro rfl;have hl0 := eq_nil_of_length_eq_zero (show _ = 0 from Nat.le_zero.1 (h2 ▸ h3));rw [hl0] at q1;simp [bR] at q1;subst q1
   simp at hj)
  have hx : x = ⟨b, off, none⟩ := by cases x; simp_all
  subst hx;rw [Addr.add_mid];exact hs.inv.holds.cell (q2 j u hj)
 | nl =>
  simp only [aQ, b5, Rep] at hv;exact ⟨none, 0, [], hv, by simp [bR], by simp, fun _ => rfl, by simp⟩
 | sn =>
  simp only [aQ, b5, Rep] at hv;obtain ⟨b, off, sp, len, cap, h1, h2, h3, h4, hsp, h8⟩ := hv;obtain ⟨vs, q1, q2, q3⟩ := aR.flat h8;refine ⟨some ⟨b, off, sp⟩, cap, vs, by rw [h1, h2], q1, q3, by simp, ?_⟩;rintro x ⟨⟩ j u hj
  have h11 := hsp (by
   rintro rfl;have hl0 := eq_nil_of_length_eq_zero (show _ = 0 from Nat.le_zero.1 (h2 ▸ h3));rw [hl0] at q1;simp [bR] at q1;subst q1
   simp at hj)
  subst h11;rw [Addr.add_mid];exact hs.inv.holds.cell (q2 j u hj)
section
variable {P : Program} {n : Nat} {o : Oper} {st : St} {d : Nat} {T : TT}
theorem hZ (w : World) (t ty e : TypeId) (i : TypeInfo) (ht : P.underlying t = some (.slice e)) (hi : P.info? e = some i)
  (g base sLen sCap : Nat) (cur : Array Value) (hg : w.heap[g]? = some (.cells cur e (0, 0)))
  (a : Addr) (m c : Nat) (news : List Value) (hl : news.length = m * i.size) (hnews : ∀ j u, news[j]? = some u → w.cell? (a.add j) = some u) (h1 : ∀ u ∈ news, u.oneCell' = true)
  (hroom : sLen + m ≤ sCap) (hfit : base + sLen * i.size + news.length ≤ cur.size) :
  (Builtin.append_ #[t, t] ty #[.slice (some ⟨g, base, none⟩) sLen sCap, .slice (some a) m c]).run P w =
   .ok (.slice (some ⟨g, base, none⟩) (sLen + m) sCap) (w.setRow g (cur.toList.take (base + sLen * i.size) ++ news ++ cur.toList.drop (base + sLen * i.size + news.length)).toArray) := by
 have hf := run_firstCells_some (P := P) w i.size m a m c news hl hnews;have hst := run_storeCells_at P g (base + sLen * i.size) e news 0 cur w hg (by simpa using hfit) h1;simp only [add_zero] at hst;simp [Builtin.append_, run_underlying ht, sizeOf, typeInfo, hi, Builtin.lenOf, hroom, hf, Addr.add_mid, hst]
theorem i6 (w : World) (t ty e : TypeId) (i : TypeInfo) (ht : P.underlying t = some (.slice e)) (hi : P.info? e = some i) (s : Option Addr) (ad : Option Addr) (sLen sCap c : Nat) (hroom : sLen ≤ sCap) :
  (Builtin.append_ #[t, t] ty #[.slice s sLen sCap, .slice ad 0 c]).run P w = .ok (.slice s sLen sCap) w := by
 cases s <;> cases ad <;> simp [Builtin.append_, run_underlying ht, sizeOf, typeInfo, hi, Builtin.lenOf, hroom, Builtin.firstCells, loadCells, loadCellsFrom, storeCells]
theorem dZ {x y : Operand} {t : TypeId} {a : Act} {w w' : World} {u v r : Value} (ho : o.op = .call { callee := .builtin .append, args := #[x, y], argTypes := #[t, t] }) (hx : a.eval x = u) (hy : a.eval y = v) (hr : (Builtin.append_ #[t, t] o.type #[u, v]).run P w = .ok r w') :
  (execOp a.eval o).run P w = .ok (.value r) w' := by
 simp only [execOp, ho, resolve, map_toArray, map_cons, map_nil, hx, hy, Sem.run_bind, Sem.run_pure, Result.andThen_ok, invoke, builtin, hr]
theorem zR {y : V} {id te es fz : Nat} {elems elems' : List (List C)} (hd : o.dst = some d) (hdn : d < n) (hlen : elems.length ≤ elems'.length) (fz' : Nat) {st' : St} {G : Ctx} {S : Sto} {μ : Mu} {a : Act} {w : World} {K : Act → World → Prop} {Q : Exit → Act → World → Prop}
    (hid' : st'.h id = some (.arr te es elems fz)) (hs : Sim G n S μ st' a w) (hk : ∀ S' μ' a' w', Sim G n S' μ' (Eff.apply ⟨some (d, some y), [(id, some (.arr te es elems' fz'))]⟩ st') a' w' → K a' w')
    (h : ∃ w' v, (execOp a.eval o).run P w = .ok (.value v) w' ∧
      ((w' = w ∧ elems' = elems ∧ (fz' = fz ∨ fz' = 1) ∧ aQ S μ st'.h y v) ∨
       (elems.length < elems'.length ∧ ∃ b bo c, (w.heap.size ≤ b ∨ ∃ c', μ id = some (b, c')) ∧ WChg w w' b bo ∧ j6 S (upd μ id (some (b, c))) (upd st'.h id (some (.arr te es elems' fz'))) w' id (.arr te es elems' fz') ∧
         (∀ o v, S.cell b o = some v → ∃ vs t fr, bo = .cells vs t fr ∧ vs[o]? = some v) ∧ (∀ m, S.mapo b = some m → w.heap.size ≤ b) ∧ aQ S (upd μ id (some (b, c))) (upd st'.h id (some (.arr te es elems' fz'))) y v))) :
    ∀ ro, o.wpIn (Wd ro) 0 P a w K Q := by
  obtain ⟨w', v, hr, hcase⟩ := h;refine fun ro => eX hr ?_
  rw [hd];rcases hcase with ⟨rfl, rfl, hfz, hv⟩ | ⟨hlt, b, bo, c, hb, hw, hO, hS, hSm, hv⟩
  · have hE : Evolve S μ st'.h S μ (upd st'.h id (some (.arr te es elems' fz'))) := ⟨S.le_refl, fun j x hj => by
      by_cases hne : j = id
      · subst hne
        rw [hid'] at hj; cases hj;exact ⟨_, aC _ _ _, by simp [AObj.succ]⟩
      · exact ⟨x, by rw [aT _ _ _ hne]; exact hj, x.succ_refl rfl⟩⟩
    have hi : Inv G S μ (upd st'.h id (some (.arr te es elems' fz'))) w' := by
      obtain ⟨h1, h2, h3, h4, h5, h6, h7, h8, h9⟩ := hs.inv;have hold : ∀ j x, upd st'.h id (some (.arr te es elems' fz')) j = some x → ∃ x', st'.h j = some x' := fun j x hj => by
        by_cases hne : j = id
        · subst hne; exact ⟨_, hid'⟩
        · rw [aT _ _ _ hne] at hj; exact ⟨_, hj⟩
      refine ⟨h1, fun j x hj => ?_, fun i j x x' b c c' hi hj hm hm' => ?_, fun i x b c hi hm => ?_, h5, h6, h7, h8.trans hE, h9⟩
      · by_cases hne : j = id
        · subst hne
          rw [aC] at hj; cases hj;have hO := (h2 j _ hid').evolve hE rfl fun _ _ _ => ⟨rfl, fun _ => rfl, rfl⟩
          rcases hfz with rfl | rfl
          · exact hO
          · obtain ⟨g0, g1 | ⟨b, base, cap, vs, g1, g2, g3, g4, g5, g6, g7, g8, g9⟩⟩ := hO
            · exact ⟨g0, .inl g1⟩
            · exact ⟨g0, .inr ⟨b, base, cap, vs, g1, g2, g3, g4, g5, g6, (fun e => by cases e), g8, (fun e => by cases e)⟩⟩
        · rw [aT _ _ _ hne] at hj
          exact (h2 j x hj).evolve hE rfl fun _ _ _ => ⟨rfl, fun _ => rfl, rfl⟩
      · obtain ⟨_, hi'⟩ := hold _ _ hi
        obtain ⟨_, hj'⟩ := hold _ _ hj;exact h3 i j _ _ b c c' hi' hj' hm hm'
      · obtain ⟨_, hi'⟩ := hold _ _ hi
        exact h4 i _ b c hi' hm
    have := hs.put hi hE hdn (x := some y) (v := v) (fun z hz => by cases hz; exact aQ.evolve hE _ _ hv);refine hk S μ _ _ ?_;unfold Eff.apply;rw [cD];exact this
  · have hE : Evolve S μ st'.h S (upd μ id (some (b, c))) (upd st'.h id (some (.arr te es elems' fz'))) := ⟨S.le_refl, fun j x hj => by
      by_cases hne : j = id
      · subst hne
        rw [hid'] at hj; cases hj;exact ⟨_, aC _ _ _, by simp only [AObj.succ, true_and]; exact ⟨hlen, fun e => by omega⟩⟩
      · exact ⟨x, by rw [aT _ _ _ hne]; exact hj, x.succ_refl (aT _ _ _ hne)⟩⟩
    have hi := hs.inv.chg (id := id) (cap := c) (ao := .arr te es elems' fz') hw (hb.imp (fun h => h) fun ⟨c', h⟩ => ⟨_, c', hid', h⟩) hE hO hS hSm;have := hs.put hi hE hdn (x := some y) (v := v) (fun z hz => by cases hz; exact hv);refine hk S (upd μ id (some (b, c))) _ _ ?_;unfold Eff.apply;rw [cD];exact this
theorem Step.grow {rd : Rd} {y : V} {id te es fz : Nat} {elems elems' : List (List C)} (hd : o.dst = some d) (hdn : d < n) (hid : st.h id = some (.arr te es elems fz)) (hrd : id ∈ rd.h) (hlen : elems.length ≤ elems'.length) (fz' : Nat)
    (h : ∀ st', lD rd st st' → st'.h id = some (.arr te es elems fz) → ∀ G S μ a w, Sim G n S μ st' a w → ∃ w' v, (execOp a.eval o).run P w = .ok (.value v) w' ∧
      ((w' = w ∧ elems' = elems ∧ (fz' = fz ∨ fz' = 1) ∧ aQ S μ st'.h y v) ∨
       (elems.length < elems'.length ∧ ∃ b bo c, (w.heap.size ≤ b ∨ ∃ c', μ id = some (b, c')) ∧ WChg w w' b bo ∧ j6 S (upd μ id (some (b, c))) (upd st'.h id (some (.arr te es elems' fz'))) w' id (.arr te es elems' fz') ∧
         (∀ o v, S.cell b o = some v → ∃ vs t fr, bo = .cells vs t fr ∧ vs[o]? = some v) ∧ (∀ m, S.mapo b = some m → w.heap.size ≤ b) ∧ aQ S (upd μ id (some (b, c))) (upd st'.h id (some (.arr te es elems' fz'))) y v))) :
    Step P n o st rd ⟨some (d, some y), [(id, some (.arr te es elems' fz'))]⟩ := by
  intro st' ha G S μ a w K Q hs hk;have hid' : st'.h id = some (.arr te es elems fz) := by rw [ha.2 id hrd, hid]
  exact zR hd hdn hlen fz' hid' hs hk (h st' ha hid' G S μ a w hs)
theorem tF {t e : TypeId} {i ei : TI} {x y : Operand} {id sz fz : Nat} {elems rows : List (List C)} {vy : V} {ids : List Nat} {st' : St} {G : Ctx} {S : Sto} {μ : Mu} {a : Act} {w : World} (hT : Tok P T) (ho : o.op = .call { callee := .builtin .append, args := #[x, y], argTypes := #[t, t] })
    (hi : T[t]? = some (some i)) (hk : i.k = .sl e) (hei : T[e]? = some (some ei)) (hes : Nat.ble 1 ei.size = true) (heb : Nat.ble 1 ei.bytes = true)
    (hsz : sz = elems.length) (hroom : (elems.length + rows.length) * ei.bytes ≤ 140737488355328) (hh' : st'.h id = some (.arr e ei.size elems fz)) (hs : Sim G n S μ st' a w)
    (hvx : aQ S μ st'.h (.one (.hs id 0 sz sz)) (a.eval x)) (hvy : aQ S μ st'.h vy (a.eval y)) (hsrc : Src st ei.size ids vy rows) (hsi : ∀ i ∈ ids, st'.h i = st.h i) :
    ∃ w' v, (execOp a.eval o).run P w = .ok (.value v) w' ∧
      ((w' = w ∧ elems ++ rows = elems ∧ ((if fz = 0 then 0 else 1) = fz ∨ (if fz = 0 then 0 else 1) = 1) ∧ aQ S μ st'.h (.one (.hs id 0 (elems.length + rows.length) (elems.length + rows.length))) v) ∨
       (elems.length < (elems ++ rows).length ∧ ∃ b bo c, (w.heap.size ≤ b ∨ ∃ c', μ id = some (b, c')) ∧ WChg w w' b bo ∧ j6 S (upd μ id (some (b, c))) (upd st'.h id (some (.arr e ei.size (elems ++ rows) (if fz = 0 then 0 else 1)))) w' id (.arr e ei.size (elems ++ rows) (if fz = 0 then 0 else 1)) ∧
         (∀ o v, S.cell b o = some v → ∃ vs t fr, bo = .cells vs t fr ∧ vs[o]? = some v) ∧ (∀ m, S.mapo b = some m → w.heap.size ≤ b) ∧ aQ S (upd μ id (some (b, c))) (upd st'.h id (some (.arr e ei.size (elems ++ rows) (if fz = 0 then 0 else 1)))) (.one (.hs id 0 (elems.length + rows.length) (elems.length + rows.length))) v)) := by
  subst hsz;have hes' := le_of_ble_eq_true hes;have heb' := le_of_ble_eq_true heb;obtain ⟨ad, c, news, hvy1, hnrep, hrl, hnone, hcell⟩ := hsrc.rel hs hsi hvy;have hnl : news.length = rows.length * ei.size := by rw [hnrep.length, fN hrl]
  obtain ⟨inf, dd, z, g1, g2, g3, g4, g5, g6, g7, g8⟩ := (hT.get hei).ex;have hu := (hT.get hi).slice hk;have hzs : z.cells.size = ei.size := by
    have h1 := (fE (S := S) g7).length;rw [(hT.get hei).len] at h1;simpa using h1
  simp only [aQ, b5] at hvx;obtain ⟨_, hv | ⟨te', es', elems', fz', h1, h2, h3⟩⟩ := hvx
  · rw [hh'] at hv; cases hv
  rw [hh'] at h1; cases h1;obtain ⟨h4, hcase⟩ := h3 rfl;have hbig : elems.length + rows.length ≤ 140737488355328 := by
    have : (elems.length + rows.length) * 1 ≤ (elems.length + rows.length) * ei.bytes := Nat.mul_le_mul_left _ heb';omega
  have hone : ∀ u ∈ news, u.oneCell' = true := (hnrep.toR (μ := μ) (H := st'.h)).one;have hcap : ∀ old, elems.length + rows.length ≤ grownCap w (elems.length + rows.length) old e ∧ grownCap w (elems.length + rows.length) old e ≤ maxLen := fun old =>
    ⟨grownCap_ge _ _ _ _, grownCap_le_maxLen _ _ _ _ (by unfold maxLen; omega)⟩
  have hgrown : ∀ (olds : List Value) (old : Nat), bR S elems.flatten olds → 0 < rows.length → ∀ g0 : (∀ r ∈ elems, r.length = ei.size),
      j6 S (upd μ id (some (w.heap.size, 0, grownCap w (elems.length + rows.length) old e))) (upd st'.h id (some (.arr e ei.size (elems ++ rows) (if fz = 0 then 0 else 1))))
        (w.drew.alloc (.cells (olds.toArray ++ news.toArray ++ Builtin.zeroCells z.cells (grownCap w (elems.length + rows.length) old e - (elems.length + rows.length))) e)) id (.arr e ei.size (elems ++ rows) (if fz = 0 then 0 else 1)) := by
    intro olds old hol hpos g0;obtain ⟨hc1, hc2⟩ := hcap old;have hol' := hol.length;rw [fN g0] at hol';refine ⟨?_, .inr ⟨w.heap.size, 0, grownCap w (elems.length + rows.length) old e, (olds.toArray ++ news.toArray ++ Builtin.zeroCells z.cells (grownCap w (elems.length + rows.length) old e - (elems.length + rows.length))).toList, aC _ _ _, heap_alloc_new w.drew _, ?_, by simpa using hc1, ⟨hc2, lG hs.inv⟩, ?_, fun _ o _ => dY hs.inv o, fun o _ => dY hs.inv o, fun e => by split at e <;> cases e⟩⟩
    · intro r hr
      rcases mem_append.1 hr with hr | hr
      · exact g0 r hr
      · exact hrl r hr
    · simp only [Array.toList_append, length_append, Array.length_toList, size_zeroCells, hzs]
      simp only [hol', hnl, zero_add, ← add_mul];exact mul_le_mul_right _ (by omega)
    · simp only [Array.toList_append, drop_zero, length_append, flatten_append]
      rw [take_append_of_le_length (by simp [hol', hnl, add_mul]), take_of_length_le (by simp [hol', hnl, add_mul])];exact hol.append hnrep
  have hlen' : (elems ++ rows).length = elems.length + rows.length := by simp
  by_cases hm : rows.length = 0
  · -- nothing is appended
    have hr0 : rows = [] := eq_nil_of_length_eq_zero hm;have hfzz : (if fz = 0 then 0 else 1) = fz ∨ (if fz = 0 then 0 else 1) = 1 := by
      by_cases h : fz = 0
      · left; rw [if_pos h, h]
      · right; rw [if_neg h]
    rcases hcase with ⟨h5, h6, h7⟩ | ⟨b, base, cap, h5, h6⟩
    · refine ⟨w, .slice none 0 0, dZ ho h7 hvy1 (by rw [hm]; exact i6 w t o.type e inf hu g1 none ad 0 0 c (le_refl _)), .inl ⟨rfl, by rw [hr0, append_nil], hfzz, ?_⟩⟩
      simp only [aQ, b5];exact ⟨⟨_, _, _, rfl⟩, .inr ⟨e, ei.size, elems, fz, hh', by omega, fun _ => ⟨by omega, .inl ⟨h5, h6, (by first | rfl | trivial)⟩⟩⟩⟩
    · obtain ⟨q0, vs, q1, q2, q3, q4, q5, q6, q7, q8⟩ := (hs.inv.obj id _ hh').arr h5
      refine ⟨w, _, dZ ho h6 hvy1 (by rw [hm]; exact i6 w t o.type e inf hu g1 _ ad elems.length _ c (by omega)), .inl ⟨rfl, by rw [hr0, append_nil], hfzz, ?_⟩⟩;simp only [aQ, b5];exact ⟨⟨_, _, _, rfl⟩, .inr ⟨e, ei.size, elems, fz, hh', by omega, fun _ => ⟨by omega, .inr ⟨b, base, cap, h5, by rw [hm, add_zero]⟩⟩⟩⟩
  · cases ad with
    | none => exact absurd (by rw [hnone rfl]; rfl) hm
    | some ad =>
      have hc := hcell ad rfl;rcases hcase with ⟨h5, h6, h7⟩ | ⟨b, base, cap, h5, h6⟩
      · -- the first elements
        subst h6;simp only [length_nil, zero_add] at hroom hbig hgrown hcap;have hr := run_append_nil (P := P) w t o.type e inf z hu g1 g6 ad rows.length c news (by rw [hnl, g3]) hc (by omega) (by omega) (by rw [g4]; omega);refine ⟨_, _, dZ ho h7 hvy1 hr, .inr ⟨by simp; omega, w.heap.size, _, (0, grownCap w rows.length 0 e), .inl (le_refl _), WChg.alloc_drew w _, ?_, (fun o v e => by rw [dY hs.inv] at e; cases e), fun m e => le_refl _, ?_⟩⟩
        · have := hgrown [] 0 (by simp [bR]) (by omega) (by simp)
          simpa using this
        · simp only [aQ, b5]
          exact ⟨⟨_, _, _, rfl⟩, .inr ⟨e, ei.size, _, _, aC _ _ _, by simp, fun _ => ⟨by simp, .inr ⟨w.heap.size, 0, _, aC _ _ _, by simp⟩⟩⟩⟩
      · obtain ⟨q0, vs, q1, q2, q3, q4, q5, q6, q7, q8⟩ := (hs.inv.obj id _ hh').arr h5
        have hce : elems.length * ei.size ≤ cap * ei.size := mul_le_mul_right _ q3;simp only [sub_zero, Nat.zero_mul, add_zero] at h6;by_cases hroom' : elems.length + rows.length ≤ cap
        · -- there is room
          have hce2 : (elems.length + rows.length) * ei.size ≤ cap * ei.size := mul_le_mul_right _ hroom';rw [add_mul] at hce2;have hr := hZ (P := P) w t o.type e inf hu g1 b base elems.length cap ⟨vs⟩ q1 ad rows.length c news (by rw [hnl, g3]) hc hone hroom' (by rw [g3, hnl]; simp only [size_toArray]; omega);rw [g3] at hr;have hW := WChg.setRow w b ⟨vs⟩ ⟨vs.take (base + elems.length * ei.size) ++ news ++ vs.drop (base + elems.length * ei.size + news.length)⟩ e (0, 0) q1;refine ⟨_, _, dZ ho h6 hvy1 hr, .inr ⟨by simp; omega, b, _, (base, cap), .inr ⟨_, h5⟩, hW, ⟨?_, .inr ⟨b, base, cap, _, aC _ _ _, hW.new, ?_, by rw [hlen']; omega, q4, ?_, ?_, ?_, fun e => by split at e <;> cases e⟩⟩, ?_, fun m e => fM q4.2 m e, ?_⟩⟩
          · intro r hr
            rcases mem_append.1 hr with hr | hr
            · exact q0 r hr
            · exact hrl r hr
          · simp only [length_append, length_take, length_drop]
            omega
          · rw [hlen', flatten_append]
            have e1 : ((vs.take (base + elems.length * ei.size) ++ news ++ vs.drop (base + elems.length * ei.size + news.length)).drop base).take ((elems.length + rows.length) * ei.size) = (vs.drop base).take (elems.length * ei.size) ++ news := by
              rw [append_assoc, List.drop_append_of_le_length (by simp; omega), ← append_assoc, take_append_of_le_length (by simp [add_mul]; omega)];rw [take_of_length_le (by simp [add_mul]; omega), drop_take];rw [show base + elems.length * ei.size - base = elems.length * ei.size by omega]
            rw [e1];exact q5.append hnrep
          · intro e o ho
            exact q6 (Classical.byContradiction fun hne => by rw [if_neg hne] at e; cases e) o ho
          · intro o ho
            rw [hlen', add_mul] at ho;exact q7 o (by omega)
          · intro o v e
            by_cases hlt : o < base + elems.length * ei.size
            · obtain ⟨vs0, t0, fr0, p1, p2⟩ := hs.inv.holds.1 b o v e
              rw [q1] at p1; cases p1;refine ⟨_, _, _, rfl, ?_⟩;simp only [List.getElem?_toArray] at p2 ⊢;rw [append_assoc, List.getElem?_append_left (by simp; omega), List.getElem?_take, if_pos (by omega)];exact p2
            · rw [q7 o (by omega)] at e; cases e
          · simp only [aQ, b5]
            exact ⟨⟨_, _, _, rfl⟩, .inr ⟨e, ei.size, _, _, aC _ _ _, by simp, fun _ => ⟨by simp, .inr ⟨b, base, cap, aC _ _ _, by simp⟩⟩⟩⟩
        · -- into a new block
          have hr := run_append_grow (P := P) w t o.type e inf z hu g1 g6 ⟨b, base, none⟩ elems.length cap ((vs.drop base).take (elems.length * ei.size)) (by rw [g3]; simp; omega) (by
              intro j v hj;rw [Addr.add_mid, cell_of_row w b _ ⟨vs⟩ e (0, 0) q1];rw [List.getElem?_take] at hj;split at hj
              · rw [List.getElem?_drop] at hj
                simpa using hj
              · cases hj) ad rows.length c news (by rw [hnl, g3]) hc (by omega) (by omega) (by rw [g4]; exact growslice_fits (by omega) hroom)
          have hq5 : bR S elems.flatten ((vs.drop base).take (elems.length * ei.size)) := q5;refine ⟨_, _, dZ ho h6 hvy1 hr, .inr ⟨by simp; omega, w.heap.size, _, (0, grownCap w (elems.length + rows.length) cap e), .inl (le_refl _), WChg.alloc_drew w _, ?_, (fun o v e => by rw [dY hs.inv] at e; cases e), fun m e => le_refl _, ?_⟩⟩
          · have := hgrown _ cap hq5 (by omega) q0
            simpa using this
          · simp only [aQ, b5]
            exact ⟨⟨_, _, _, rfl⟩, .inr ⟨e, ei.size, _, _, aC _ _ _, by simp, fun _ => ⟨by simp, .inr ⟨w.heap.size, 0, _, aC _ _ _, by simp⟩⟩⟩⟩
theorem vK {t e : TypeId} {i ei : TI} {x y : Operand} {id sz fz : Nat} {elems rows : List (List C)} {vy : V} {ids : List Nat} (hT : Tok P T) (ho : o.op = .call { callee := .builtin .append, args := #[x, y], argTypes := #[t, t] }) (hd : o.dst = some d) (hdn : d < n)
  (hi : T[t]? = some (some i)) (hk : i.k = .sl e) (hei : T[e]? = some (some ei)) (hes : Nat.ble 1 ei.size = true) (heb : Nat.ble 1 ei.bytes = true)
  (hx : opv st x = some (.one (.hs id 0 sz sz))) (hh : st.h id = some (.arr e ei.size elems fz)) (hsz : sz = elems.length) (hy : opv st y = some vy) (hsrc : Src st ei.size ids vy rows)
  (hroom : (elems.length + rows.length) * ei.bytes ≤ 140737488355328) :
  Step P n o st ⟨opr x ++ opr y, id :: ids⟩ ⟨some (d, some (.one (.hs id 0 (elems.length + rows.length) (elems.length + rows.length)))), [(id, some (.arr e ei.size (elems ++ rows) (if fz = 0 then 0 else 1)))]⟩ := by
 refine Step.grow hd hdn hh (by simp) (by simp) _ fun st' ha hh' G S μ a w hs => ?_
 have hvx := aH hs hx fun t ht => ha.1 t (by simp [ht])
 have hvy := aH hs hy fun t ht => ha.1 t (by simp [ht])
 exact tF hT ho hi hk hei hes heb hsz hroom hh' hs hvx hvy hsrc fun i h => ha.2 i (by simp [h])
end
mutual
def R.ren (σ : Nat → Nat) : R → R
 | .c x => .c x
 | .hs id off len sz => .hs (σ id) off len sz
 | .tl id off len sz => .tl (σ id) off len sz
 | .vp id off => .vp (σ id) off
 | .ep id i fo sz => .ep (σ id) i fo sz
 | .mr id => .mr (σ id)
 | .clo f caps => .clo f (R.renL σ caps)
 | .mth f x => .mth f (x.ren σ)
 | .yl id => .yl (σ id)
 | .ra id off len sz => .ra (σ id) off len sz
 | .rp id i fo sz => .rp (σ id) i fo sz
 | .ras n es l => .ras n es (R.renL σ l)
 | .pas l => .pas (R.renL σ l)
def R.renL (σ : Nat → Nat) : List R → List R
 | [] => []
 | r :: rs => r.ren σ :: R.renL σ rs
end
mutual
def V.ren (σ : Nat → Nat) : V → V
 | .one r => .one (r.ren σ)
 | .pa l => .pa l
 | .ma l => .ma (R.renL σ l)
 | .tup l => .tup (V.renL σ l)
def V.renL (σ : Nat → Nat) : List V → List V
 | [] => []
 | r :: rs => r.ren σ :: V.renL σ rs
end
mutual
def R.refs : R → List Nat
 | .c _ => []
 | .hs id _ _ _ => [id]
 | .tl id _ _ _ => [id]
 | .vp id _ => [id]
 | .ep id _ _ _ => [id]
 | .mr id => [id]
 | .clo _ caps => R.refsL caps
 | .mth _ x => x.refs
 | .yl id => [id]
 | .ra id _ _ _ => [id]
 | .rp id _ _ _ => [id]
 | .ras _ _ l => R.refsL l
 | .pas l => R.refsL l
def R.refsL : List R → List Nat
 | [] => []
 | r :: rs => r.refs ++ R.refsL rs
end
mutual
def V.refs : V → List Nat
 | .one r => r.refs
 | .pa _ => []
 | .ma l => R.refsL l
 | .tup l => V.refsL l
def V.refsL : List V → List Nat
 | [] => []
 | r :: rs => r.refs ++ V.refsL rs
end
def jF : List (Nat × V) → List Nat
 | [] => []
 | (_, v) :: l => v.refs ++ jF l
def gT : List (List R) → List Nat
 | [] => []
 | r :: l => R.refsL r ++ gT l
def yK (σ : Nat → Nat) : List (Nat × V) → List (Nat × V)
 | [] => []
 | (t, v) :: l => (t, v.ren σ) :: yK σ l
def qN (σ : Nat → Nat) : List (List R) → List (List R)
 | [] => []
 | r :: l => R.renL σ r :: qN σ l
theorem mJ : ∀ {l : List (Nat × V)} {t : Nat} {v : V}, (t, v) ∈ l → ∀ i ∈ v.refs, i ∈ jF l
 | (k, u) :: l, t, v, h, i, hi => by
  simp only [jF, mem_append];rcases mem_cons.1 h with h | h
  ·cases h; exact .inl hi
  ·exact .inr (mJ h i hi)
theorem vI {σ : Nat → Nat} : ∀ {l : List (Nat × V)} {t : Nat} {v : V}, (t, v) ∈ l → (t, v.ren σ) ∈ yK σ l
 | (k, u) :: l, t, v, h => by
  simp only [yK];rcases mem_cons.1 h with h | h
  ·cases h; simp
  ·exact mem_cons_of_mem _ (vI h)
theorem R.renL_length {σ : Nat → Nat} : ∀ {l : List R}, (R.renL σ l).length = l.length
 | [] => rfl
 | _ :: l => by simp [R.renL, R.renL_length (l := l)]
theorem dJ {σ : Nat → Nat} : ∀ {l : List (List R)}, (qN σ l).length = l.length
 | [] => rfl
 | _ :: l => by simp [qN, dJ (l := l)]
theorem R.renL_append {σ : Nat → Nat} : ∀ {l m : List R}, R.renL σ (l ++ m) = R.renL σ l ++ R.renL σ m
 | [], _ => rfl
 | _ :: l, m => by simp [R.renL, R.renL_append (l := l)]
theorem R.refsL_append : ∀ {l m : List R}, R.refsL (l ++ m) = R.refsL l ++ R.refsL m
 | [], _ => rfl
 | _ :: l, m => by simp [R.refsL, R.refsL_append (l := l)]
theorem qM {σ : Nat → Nat} : ∀ {l : List (List R)}, (qN σ l).flatten = R.renL σ l.flatten
 | [] => rfl
 | _ :: l => by simp [qN, qM (l := l), R.renL_append]
theorem nY : ∀ {l : List (List R)}, R.refsL l.flatten = gT l
 | [] => rfl
 | _ :: l => by simp [gT, nY (l := l), R.refsL_append]
theorem iB {σ : Nat → Nat} {es : Nat} : ∀ {l : List (List R)}, (∀ r ∈ qN σ l, r.length = es) → ∀ r ∈ l, r.length = es
 | [], _, r, h => by simp at h
 | x :: l, k, r, h => by
  rcases mem_cons.1 h with rfl | h
  ·rw [← R.renL_length (σ := σ)]; exact k _ (by simp [qN])
  ·exact iB (σ := σ) (l := l) (fun r hr => k r (by simp [qN, hr])) r h
def AObj.refs : AObj → List Nat
 | .var _ cells => R.refsL cells
 | .lp _ _ _ e => jF e
 | .rarr _ _ elems => gT elems
 | .tok r _ => r.refs
 | _ => []
inductive Ole (σ : Nat → Nat) : AObj → AObj → Prop
 | var {t cells cells'} : cells = R.renL σ cells' → Ole σ (.var t cells) (.var t cells')
 | arr {te es elems fz} : Ole σ (.arr te es elems fz) (.arr te es elems fz)
 | arr1 {te es elems fz} : Ole σ (.arr te es elems fz) (.arr te es elems 1)
 | map {agg ents} : Ole σ (.map agg ents) (.map agg ents)
 | dead : Ole σ .dead .dead
 | lp {st j i e e'} : e = yK σ e' → Ole σ (.lp st j i e) (.lp st j i e')
 | dfr : Ole σ .dfr .dfr
 | rarr {te es elems elems'} : elems = qN σ elems' → Ole σ (.rarr te es elems) (.rarr te es elems')
 | tok {r r' k} : r = r'.ren σ → Ole σ (.tok r k) (.tok r' k)
theorem Ole.succ {σ : Nat → Nat} {o o' : AObj} (h : Ole σ o o') : o.succ True o' := by
 cases h
 case rarr e => subst e; simp [AObj.succ, dJ]
 all_goals simp [AObj.succ]
section
variable {S : Sto} {μ : Mu} {H H' : cH} {σ : Nat → Nat}
def Good (H H' : cH) (σ : Nat → Nat) (id : Nat) : Prop := ∃ o o', H (σ id) = some o ∧ H' id = some o' ∧ Ole σ o o'
mutual
theorem b5.ren : ∀ (r : R) (v : Value), (∀ id ∈ r.refs, Good H H' σ id) → b5 S μ H (r.ren σ) v → b5 S (fun i => μ (σ i)) H' r v
 | .c x, v, _, k => by simpa only [b5, R.ren] using k
 | .hs id off len sz, v, h, k => by
  obtain ⟨o, o', h1, h2, h3⟩ := h id (by simp [R.refs]);simp only [b5, R.ren] at k ⊢;refine ⟨k.1, ?_⟩;rcases k.2 with k | ⟨te, es, elems, fz, g1, g2, g3⟩
  ·rw [h1] at k; cases k; cases h3; exact .inl h2
  ·rw [h1] at g1; cases g1;cases h3
   ·exact .inr ⟨te, es, elems, _, h2, g2, g3⟩
   ·exact .inr ⟨te, es, elems, _, h2, g2, g3⟩
 | .tl id off len sz, v, h, k => by
  obtain ⟨o, o', h1, h2, h3⟩ := h id (by simp [R.refs]);simp only [b5, R.ren] at k ⊢;refine ⟨k.1, ?_⟩;rcases k.2 with k | ⟨te, es, elems, fz, g1, g2, g3⟩
  ·rw [h1] at k; cases k; cases h3; exact .inl h2
  ·rw [h1] at g1; cases g1;cases h3
   ·exact .inr ⟨te, es, elems, _, h2, g2, g3⟩
   ·exact .inr ⟨te, es, elems, _, h2, g2, g3⟩
 | .vp id off, v, h, k => by
  obtain ⟨o, o', h1, h2, h3⟩ := h id (by simp [R.refs]);simp only [b5, R.ren] at k ⊢;obtain ⟨t, cells, b, c, g1, g2, g3⟩ := k;rw [h1] at g1; cases g1;cases h3;exact ⟨_, _, b, c, h2, g2, g3⟩
 | .ep id i fo sz, v, h, k => by
  obtain ⟨o, o', h1, h2, h3⟩ := h id (by simp [R.refs]);simp only [b5, R.ren] at k ⊢;refine ⟨k.1, ?_⟩;rcases k.2 with k | ⟨te, es, elems, fz, g1, g2, g3⟩
  ·rw [h1] at k; cases k; cases h3; exact .inl h2
  ·rw [h1] at g1; cases g1;cases h3
   ·exact .inr ⟨te, es, elems, _, h2, g2, g3⟩
   ·exact .inr ⟨te, es, elems, _, h2, g2, g3⟩
 | .mr id, v, h, k => by
  obtain ⟨o, o', h1, h2, h3⟩ := h id (by simp [R.refs]);simp only [b5, R.ren] at k ⊢;obtain ⟨agg, ents, b, c, g1, g2, g3⟩ := k;rw [h1] at g1; cases g1;cases h3;exact ⟨_, _, b, c, h2, g2, g3⟩
 | .clo f caps, v, h, k => by
  simp only [b5, R.ren] at k ⊢;obtain ⟨vs, g1, g2⟩ := k;exact ⟨vs, g1, aO.ren caps vs (by simpa only [R.refs] using h) g2⟩
 | .mth f x, v, h, k => by
  simp only [b5, R.ren] at k ⊢;obtain ⟨u, g1, g2⟩ := k;exact ⟨u, g1, b5.ren x u (by simpa only [R.refs] using h) g2⟩
 | .rp id i fo sz, v, h, k => by
  obtain ⟨o, o', h1, h2, h3⟩ := h id (by simp [R.refs]);simp only [b5, R.ren] at k ⊢;refine ⟨k.1, ?_⟩;rcases k.2 with k | ⟨te, es, elems, g1, g2, g3⟩
  ·rw [h1] at k; cases k; cases h3; exact .inl h2
  ·rw [h1] at g1; cases g1;cases h3;rename_i elems' e;subst e;rw [dJ] at g2 g3;exact .inr ⟨te, es, elems', h2, g2, g3⟩
 | .yl id, v, h, k => by
  obtain ⟨o, o', h1, h2, h3⟩ := h id (by simp [R.refs]);simp only [b5, R.ren] at k ⊢;obtain ⟨st, j, i, e, b, c, g1, g2, g3⟩ := k;rw [h1] at g1; cases g1;cases h3;exact ⟨_, _, _, _, b, c, h2, g2, g3⟩
 | .ra id off len sz, v, h, k => by
  obtain ⟨o, o', h1, h2, h3⟩ := h id (by simp [R.refs]);simp only [b5, R.ren] at k ⊢;refine ⟨k.1, ?_⟩;rcases k.2 with k | ⟨te, es, elems, g1, g2, g3⟩
  ·rw [h1] at k; cases k; cases h3; exact .inl h2
  ·rw [h1] at g1; cases g1;cases h3;rename_i elems' e;subst e;rw [dJ] at g2 g3;refine .inr ⟨te, es, elems', h2, g2, fun e => ?_⟩;obtain ⟨q1, q2⟩ := g3 e;refine ⟨q1, ?_⟩;rcases q2 with ⟨q2, q3, q4⟩ | q2
   ·exact .inl ⟨q2, eq_nil_of_length_eq_zero (by rw [← dJ (σ := σ), q3]; rfl), q4⟩
   ·exact .inr q2
 | .ras n es l, v, h, k => by
  simp only [b5, R.ren] at k ⊢;obtain ⟨a, cap, h1, h2, h3, h4, h5, h6, b, o, h7, vs, h8, h9⟩ := k;exact ⟨a, cap, h1, by rw [h2, R.renL_length], h3, h4, h5, h6, b, o, h7, vs, aO.ren l vs (by simpa only [R.refs] using h) h8, h9⟩
 | .pas l, v, h, k => by
  simp only [b5, R.ren] at k ⊢;obtain ⟨b, o, h1, vs, h8, h9⟩ := k;exact ⟨b, o, h1, vs, aO.ren l vs (by simpa only [R.refs] using h) h8, h9⟩
theorem aO.ren : ∀ (r : List R) (v : List Value), (∀ id ∈ R.refsL r, Good H H' σ id) → aO S μ H (R.renL σ r) v → aO S (fun i => μ (σ i)) H' r v
 | [], _, _, k => by simpa only [aO, R.renL] using k
 | r :: rs, vs, h, k => by
  simp only [aO, R.renL] at k ⊢;obtain ⟨v, vs', h1, h2, h3⟩ := k;exact ⟨v, vs', h1, b5.ren r v (fun i hi => h i (by simp [R.refsL, hi])) h2, aO.ren rs vs' (fun i hi => h i (by simp [R.refsL, hi])) h3⟩
end
mutual
theorem aQ.ren : ∀ (r : V) (v : Value), (∀ id ∈ r.refs, Good H H' σ id) → aQ S μ H (r.ren σ) v → aQ S (fun i => μ (σ i)) H' r v
 | .one r, v, h, k => by simp only [aQ, V.ren] at k ⊢; exact b5.ren r v (by simpa only [V.refs] using h) k
 | .pa l, v, _, k => by simpa only [aQ, V.ren] using k
 | .ma l, v, h, k => by
  simp only [aQ, V.ren] at k ⊢;obtain ⟨vs, h1, h2⟩ := k;exact ⟨vs, h1, aO.ren l vs (by simpa only [V.refs] using h) h2⟩
 | .tup l, v, h, k => by
  simp only [aQ, V.ren] at k ⊢;obtain ⟨vs, h1, h2⟩ := k;exact ⟨vs, h1, bO.ren l vs (by simpa only [V.refs] using h) h2⟩
theorem bO.ren : ∀ (r : List V) (v : List Value), (∀ id ∈ V.refsL r, Good H H' σ id) → bO S μ H (V.renL σ r) v → bO S (fun i => μ (σ i)) H' r v
 | [], _, _, k => by simpa only [bO, V.renL] using k
 | r :: rs, vs, h, k => by
  simp only [bO, V.renL] at k ⊢;obtain ⟨v, vs', h1, h2, h3⟩ := k;exact ⟨v, vs', h1, aQ.ren r v (fun i hi => h i (by simp [V.refsL, hi])) h2, bO.ren rs vs' (fun i hi => h i (by simp [V.refsL, hi])) h3⟩
end
end
theorem j6.ren {S : Sto} {μ : Mu} {H H' : cH} {σ : Nat → Nat} {w : World} {id : Nat} {o o' : AObj} (h : j6 S μ H w (σ id) o) (hl : Ole σ o o') (hr : ∀ i ∈ o'.refs, Good H H' σ i) : j6 S (fun i => μ (σ i)) H' w id o' := by
 cases hl with
 | @var t cells cells' hc =>
  subst hc;obtain ⟨b, vs, h1, h2, h3, h4⟩ := h;exact ⟨b, vs, h1, h2, aO.ren _ _ hr h3, h4⟩
 | arr => exact h
 | arr1 =>
  obtain ⟨g0, g1 | ⟨b, base, cap, vs, g1, g2, g3, g4, g5, g6, g7, g8, g9⟩⟩ := h
  ·exact ⟨g0, .inl g1⟩
  ·exact ⟨g0, .inr ⟨b, base, cap, vs, g1, g2, g3, g4, g5, g6, (fun e => by cases e), g8, (fun e => by cases e)⟩⟩
 | map => exact h
 | dead => exact h
 | lp he =>
  subst he;obtain ⟨b, r, fn, tmps, h1, h2, h3, h4, h5⟩ := h;exact ⟨b, r, fn, tmps, h1, h2, h3, fun t v ht => aQ.ren _ _ (fun i hi => hr i (mJ ht i hi)) (h4 t _ (vI ht)), h5⟩
 | dfr => exact h
 | rarr he =>
  subst he;obtain ⟨g0, g1 | ⟨b, base, cap, vs, g1, g2, g3, g4, g5, g6, g7⟩⟩ := h
  ·exact ⟨iB g0, .inl ⟨g1.1, eq_nil_of_length_eq_zero (by rw [← dJ (σ := σ), g1.2]; rfl)⟩⟩
  ·rw [dJ] at g4 g6;rw [qM] at g6;exact ⟨iB g0, .inr ⟨b, base, cap, vs, g1, g2, g3, g4, g5, aO.ren _ _ (fun i hi => hr i (by rw [nY] at hi; exact hi)) g6, g7⟩⟩
 | tok he =>
  subst he;obtain ⟨g1, b, g2, g3⟩ := h;exact ⟨g1, b, b5.ren _ _ hr g2, g3⟩
def Ctx.keeps (G : Ctx) (kf : List Nat) : Prop := (∀ id o, G.h0 id = some o → id ∈ kf) ∧ (997 ∈ kf → G.h0 997 = none → G.S0.noTop)
def Sub (kf : List Nat) (st2 st1 : St) : Prop := ∀ G n S μ a w, G.keeps kf → Sim G n S μ st1 a w → ∃ S' μ', Sim G n S' μ' st2 a w
theorem Sub.refl (kf : List Nat) (st : St) : Sub kf st st := fun _ _ S μ _ _ _ h => ⟨S, μ, h⟩
theorem Sub.trans {kf : List Nat} {a b c : St} (h : Sub kf a b) (k : Sub kf b c) : Sub kf a c := fun G n S μ x w hg hs => by
 obtain ⟨S', μ', h1⟩ := k G n S μ x w hg hs;exact h G n S' μ' x w hg h1
def mk (el : List (Nat × V)) (hl : List (Nat × AObj)) : St := ⟨look el, look hl, []⟩
def mkd (el : List (Nat × V)) (hl : List (Nat × AObj)) (dl : List Nat) : St := ⟨look el, look hl, dl⟩
theorem bW {α : Type} : ∀ {l : List (Nat × α)} {i : Nat} {x : α}, look l i = some x → (i, x) ∈ l
 | [], _, _, h => by simp [look] at h
 | (k, y) :: l, i, x, h => by
  simp only [look] at h;split at h
  ·rename_i hb;cases h;simp [eq_of_beq_eq_true hb]
  ·simp [bW h]
def fU {α : Type} (p : α → Prop) : List α → Prop
 | [] => True
 | x :: l => p x ∧ fU p l
theorem fU.mem {α : Type} {p : α → Prop} : ∀ {l : List α}, fU p l → ∀ x ∈ l, p x
 | [], _, x, h => by simp at h
 | y :: l, h, x, hx => by
  rcases mem_cons.1 hx with rfl | hx
  ·exact h.1
  ·exact fU.mem h.2 x hx
def subset (a b : List Nat) : Bool := a.all fun x => b.contains x
def distinct : List Nat → Bool
 | [] => true
 | x :: l => !(l.contains x) && distinct l
def eS : List (Nat × AObj) → List Nat
 | [] => []
 | (_, o) :: l => o.refs ++ eS l
def aCv (kf : List Nat) (σ : Nat → Nat) (el : List (Nat × V)) (hl : List (Nat × AObj)) : Bool := subset (jF el) (hl.map (·.1)) && subset (eS hl) (hl.map (·.1)) && distinct (hl.map fun p => σ p.1) && subset kf (hl.map (·.1)) && kf.all fun i => Nat.beq (σ i) i
theorem c9 {a b : List Nat} (h : subset a b = true) : ∀ x ∈ a, x ∈ b := fun x hx => by simpa using (all_eq_true.1 h) x hx
theorem hK : ∀ {l : List Nat}, distinct l = true → l.Nodup
 | [], _ => nodup_nil
 | x :: l, h => by
  simp only [distinct, Bool.and_eq_true] at h;refine nodup_cons.2 ⟨?_, hK h.2⟩;simpa using h.1
theorem gI : ∀ {l : List (Nat × AObj)} {t : Nat} {v : AObj}, (t, v) ∈ l → ∀ i ∈ v.refs, i ∈ eS l
 | (k, u) :: l, t, v, h, i, hi => by
  simp only [eS, mem_append];rcases mem_cons.1 h with h | h
  ·cases h; exact .inl hi
  ·exact .inr (gI h i hi)
theorem gC {α : Type} : ∀ {l : List (Nat × α)} {i : Nat}, i ∈ l.map (·.1) → ∃ x, look l i = some x := dU
theorem mR {α β : Type} {f : α → β} : ∀ {l : List α}, (l.map f).Nodup → ∀ x ∈ l, ∀ y ∈ l, f x = f y → x = y
 | [], _, x, h, _, _, _ => by simp at h
 | z :: l, hn, x, hx, y, hy, e => by
  simp only [map_cons, nodup_cons] at hn;rcases mem_cons.1 hx with hx | hx
  ·rcases mem_cons.1 hy with hy | hy
   ·rw [hx, hy]
   ·exact absurd (mem_map.2 ⟨y, hy, by rw [← e, hx]⟩) hn.1
  ·rcases mem_cons.1 hy with hy | hy
   ·exact absurd (mem_map.2 ⟨x, hx, by rw [e, hy]⟩) hn.1
   ·exact mR hn.2 x hx y hy e
def eqL : List Nat → List Nat → Bool
 | [], [] => true
 | a :: l, b :: m => Nat.beq a b && eqL l m
 | _, _ => false
theorem aEd : ∀ {l m : List Nat}, eqL l m = true → l = m
 | [], [], _ => rfl
 | a :: l, b :: m, h => by
  simp only [eqL, Bool.and_eq_true] at h;rw [eq_of_beq_eq_true h.1, aEd h.2]
 | [], _ :: _, h => by simp [eqL] at h
 | _ :: _, [], h => by simp [eqL] at h
theorem Sub.listD {kf : List Nat} {st1 : St} {el : List (Nat × V)} {hl : List (Nat × AObj)} {dl : List Nat} (σ : Nat → Nat) (he : fU (fun p => st1.e p.1 = some (p.2.ren σ)) el) (hh : fU (fun p => ∃ o, st1.h (σ p.1) = some o ∧ Ole σ o p.2) hl) (hok : (aCv kf σ el hl && (eqL (dl.map σ) st1.d && subset dl (hl.map (·.1)))) = true) : Sub kf (mkd el hl dl) st1 := by
 intro G n S μ a w hg hs;rw [Bool.and_eq_true, Bool.and_eq_true] at hok;obtain ⟨hok, hd1, hd2⟩ := hok;have hd1 := aEd hd1;simp only [aCv, Bool.and_eq_true] at hok;obtain ⟨⟨⟨⟨h1, h2⟩, h3⟩, h4⟩, h5⟩ := hok;have hgood : ∀ i ∈ hl.map (·.1), Good st1.h (look hl) σ i := by
  intro i hi;obtain ⟨o', ho'⟩ := dU hi;obtain ⟨o, g1, g2⟩ := hh.mem _ (bW ho');exact ⟨o, o', g1, ho', g2⟩
 have hnd := hK h3;refine ⟨S, fun i => μ (σ i), ⟨⟨hs.inv.holds, fun id o ho => ?_, fun i j o o' b c c' hi hj hm hm' => ?_, fun i o b c hi hm => ?_, hs.inv.frame, hs.inv.sle, hs.inv.sto, ⟨hs.inv.evo.le, fun id o ho => ?_⟩, hs.inv.fre⟩, hs.size, ?_, fun t v ht => ?_⟩⟩
 ·obtain ⟨o1, g1, g2⟩ := hh.mem _ (bW ho);exact (hs.inv.obj _ _ g1).ren g2 fun i hi => hgood i (c9 h2 i (gI (bW ho) i hi))
 ·obtain ⟨o1, g1, g2⟩ := hh.mem _ (bW hi);obtain ⟨o2, g3, g4⟩ := hh.mem _ (bW hj);have hσ := hs.inv.inj _ _ _ _ b c c' g1 g3 hm hm';have := mR hnd _ (bW hi) _ (bW hj) hσ;exact (congrArg Prod.fst this)
 ·obtain ⟨o1, g1, g2⟩ := hh.mem _ (bW hi);exact hs.inv.own _ _ b c g1 hm
 ·obtain ⟨o', g1, g2⟩ := hs.inv.evo.obj id o ho;have hk := hg.1 id o ho;have hσ : σ id = id := eq_of_beq_eq_true ((all_eq_true.1 h5) id hk);obtain ⟨o1, o2, g3, g4, g5⟩ := hgood id (c9 h4 id hk);rw [hσ, g1] at g3; cases g3;refine ⟨o2, g4, ?_⟩;show o.succ (μ (σ id) = G.μ0 id) o2;rw [hσ];exact AObj.succ_trans g2 g5.succ fun e _ => e
 ·refine Marks.ren (H := st1.h) (μ := μ) σ (by show Marks _ μ st1.h (dl.map σ) a.defers; rw [hd1]; exact hs.defers) fun id hid hdf => ⟨rfl, ?_⟩
  obtain ⟨o1, o2, g3, g4, g5⟩ := hgood id (c9 hd2 id hid);rw [hdf] at g3; cases g3;cases g5;exact g4
 ·have hm := bW (show look el t = some v from ht);have h4 := he.mem _ hm;exact aQ.ren v _ (fun i hi => hgood i (c9 h1 i (mJ hm i hi))) (hs.env t _ h4)
theorem Sub.list {kf : List Nat} {st1 : St} {el : List (Nat × V)} {hl : List (Nat × AObj)} (σ : Nat → Nat) (he : fU (fun p => st1.e p.1 = some (p.2.ren σ)) el) (hh : fU (fun p => ∃ o, st1.h (σ p.1) = some o ∧ Ole σ o p.2) hl) (hok : (aCv kf σ el hl && eqL [] st1.d) = true) : Sub kf (mk el hl) st1 :=
 Sub.listD (dl := []) σ he hh (by
  rw [Bool.and_eq_true] at hok;rw [Bool.and_eq_true]
  exact ⟨hok.1, by rw [map_nil, hok.2]; rfl⟩)
def Ctx.rok (G : Ctx) : Option Nat → Prop
 | none => True
 | some l => (∃ r, G.w0.heap[l]? = some (.loop r)) ∧ ¬ G.F l
def AWp (ro : Option Nat) (P : Program) (n : Nat) (kf : List Nat) (c : Code) (st : St) (Q : Exit → St → Prop) : Prop :=
 ∀ G S μ a w (Q' : Exit → Act → World → Prop), G.keeps kf ∧ G.rok ro → Sim G n S μ st a w → (∀ ex st' S' μ' a' w', Q ex st' → Sim G n S' μ' st' a' w' → Q' ex a' w') → c.wpIn (Wd ro) 0 P Q' a w
section
variable {ro : Option Nat} {P : Program} {n : Nat} {kf : List Nat} {st : St} {Q : Exit → St → Prop}
theorem AWp.sub {c : Code} {st2 : St} (h : Sub kf st2 st) (k : AWp ro P n kf c st2 Q) : AWp ro P n kf c st Q := fun G S μ a w Q' hg hs hQ => by
 obtain ⟨S', μ', h'⟩ := h G n S μ a w hg.1 hs;exact k G S' μ' a w Q' hg h' hQ
theorem AWp.post {c : Code} {Q2 : Exit → St → Prop} (h : AWp ro P n kf c st Q) (hq : ∀ ex st', Q ex st' → ∃ st'', Sub kf st'' st' ∧ Q2 ex st'') : AWp ro P n kf c st Q2 := fun G S μ a w Q' hg hs hQ =>
 h G S μ a w Q' hg hs fun ex st' S' μ' a' w' q s => by
  obtain ⟨st'', h1, h2⟩ := hq ex st' q;obtain ⟨S2, μ2, h3⟩ := h1 G n S' μ' a' w' hg.1 s;exact hQ ex st'' S2 μ2 a' w' h2 h3
theorem aD (h : Q .normal st) : AWp ro P n kf .skip st Q := fun _ S μ a w _ _ hs hQ => wpIn_skip (hQ _ _ S μ a w h hs)
theorem aF (h : Q .ret st) : AWp ro P n kf .ret st Q := fun _ S μ a w _ _ hs hQ => wpIn_ret (hQ _ _ S μ a w h hs)
theorem aM {id : Nat} (h : Q (.exit id) st) : AWp ro P n kf (.exit id) st Q := fun _ S μ a w _ _ hs hQ => wpIn_exit (hQ _ _ S μ a w h hs)
def Then (ro : Option Nat) (P : Program) (n : Nat) (kf : List Nat) (c : Code) (Q : Exit → St → Prop) : Exit → St → Prop
 | .normal, st => AWp ro P n kf c st Q
 | ex, st => Q ex st
theorem a8 {x y : Code} (h : AWp ro P n kf x st (Then ro P n kf y Q)) : AWp ro P n kf (.seq x y) st Q := fun G S μ a w Q' hg hs hQ =>
 wpIn_seq (h G S μ a w _ hg hs fun ex st' S' μ' a' w' q s => by
  cases ex with
  | normal => exact q G S' μ' a' w' Q' hg s hQ
  | _ => exact hQ _ st' S' μ' a' w' q s)
theorem aA {c : Operand} {x y : Code} {b : Bool} (hc : opv st c = some (B b)) (ht : b = true → AWp ro P n kf x st Q) (hf : b = false → AWp ro P n kf y st Q) : AWp ro P n kf (.cond c x y) st Q := fun G S μ a w Q' hg hs hQ => by
 have hb := gB (aH hs hc fun _ _ => rfl);cases b with
 | true => exact wpIn_cond_true hb (ht rfl G S μ a w Q' hg hs hQ)
 | false => exact wpIn_cond_false hb (hf rfl G S μ a w Q' hg hs hQ)
def aBq (id : Nat) (Q : Exit → St → Prop) : Exit → St → Prop
 | .exit id', st => if Nat.beq id' id then Q .normal st else Q (.exit id') st
 | ex, st => Q ex st
theorem aB {id : Nat} {c : Code} (h : AWp ro P n kf c st (aBq id Q)) : AWp ro P n kf (.block id c) st Q := fun G S μ a w Q' hg hs hQ =>
 wpIn_block (h G S μ a w _ hg hs fun ex st' S' μ' a' w' q s => by
  cases ex with
  | exit id' =>
   simp only [aBq] at q;simp only [Exit.inBlock];by_cases hb : id' = id
   ·subst hb;simp only [beq_refl, if_true] at q;simpa using hQ _ st' S' μ' a' w' q s
   ·have : Nat.beq id' id = false := by
     cases hq : Nat.beq id' id with
     | false => rfl
     | true => exact absurd (eq_of_beq_eq_true hq) hb
    simp only [this, Bool.false_eq_true, if_false] at q;simpa [hb] using hQ _ st' S' μ' a' w' q s
  | _ => exact hQ _ st' S' μ' a' w' q s)
def aJc {α : Type} (kf : List Nat) (σ : α → St) (I : α → Prop) (m : α → Nat) (x : α) (Q : Exit → St → Prop) : Exit → St → Prop
 | .normal, st => ∃ y, I y ∧ m y < m x ∧ Sub kf (σ y) st
 | ex, st => Q ex st
theorem mC {F : Fence} {m : Nat} {P : Program} {Q : Exit → Act → World → Prop} {a : Act} {w : World} {c : Code} (I : Nat → Act → World → Prop) (n₀ : Nat) (h₀ : I n₀ a w)
  (round : ∀ n a w, I n a w → c.wpIn F m P (Exit.then (fun a' w' => ∃ n', n' < n ∧ I n' a' w') Q) a w) : (Code.loop c).wpIn F m P Q a w := by
 refine wpIn_loop (fun a w => ∃ n, I n a w) (fun a w => leastOf (fun n => I n a w)) ⟨n₀, h₀⟩ ?_;intro a w hI;refine wpIn_mono (round _ a w (leastOf_spec hI).1) ?_;intro e a' w' hq;cases e with
 | normal =>
  obtain ⟨n', hlt, hI'⟩ := hq;exact show (∃ n, I n a' w') ∧ leastOf (fun n => I n a' w') < leastOf (fun n => I n a w) from ⟨⟨n', hI'⟩, Nat.lt_of_le_of_lt ((leastOf_spec ⟨n', hI'⟩).2 n' hI') hlt⟩
 | _ => exact hq
theorem aL {α : Type} {c : Code} (σ : α → St) (I : α → Prop) (m : α → Nat) (x0 : α) (hI : I x0) (h0 : Sub kf (σ x0) st) (h : ∀ x, I x → AWp ro P n kf c (σ x) (aJc kf σ I m x Q)) : AWp ro P n kf (.loop c) st Q := fun G S μ a w Q' hg hs hQ => by
 obtain ⟨S', μ', hs'⟩ := h0 G n S μ a w hg.1 hs;refine mC (fun k a w => ∃ x S μ, m x = k ∧ I x ∧ Sim G n S μ (σ x) a w) (m x0) ⟨x0, S', μ', rfl, hI, hs'⟩ ?_;rintro k a w ⟨x, S, μ, hk, hx, hs⟩;refine h x hx G S μ a w _ hg hs fun ex st' S1 μ1 a' w' q s => ?_
 cases ex with
 | normal =>
  obtain ⟨y, hy, hlt, hsub⟩ := q;obtain ⟨S2, μ2, h2⟩ := hsub G n S1 μ1 a' w' hg.1 s;exact ⟨m y, hk ▸ hlt, y, S2, μ2, rfl, hy, h2⟩
 | _ => exact hQ _ st' S1 μ1 a' w' q s
theorem oQ {id : Nat} {ops : Array Oper} {draw : Bool} {st' : St} {xs : REs} (hm : P.follows .mixedOrders = true) (hr : Run P n ops 0 st xs st') (hlen : Nat.beq xs.length ops.size = true)
  (hap : (!draw || (eQ (nN ops) xs [] && hJ ops)) = true) (h : Q .normal st') : AWp ro P n kf (.region id ops draw) st Q := fun G S μ a w Q' hg hs hQ => by
 have hlen' := eq_of_beq_eq_true hlen;cases draw with
 | true =>
  simp only [Bool.not_true, Bool.false_or, Bool.and_eq_true] at hap;refine wpIn_region_any hm ?_;refine aE0 (G := G) hr hlen' hap.1 hap.2 (fun S' μ' a' w' s => hQ _ st' S' μ' a' w' h s) ops.size _ (by simp) ?_ ?_ S μ a _ ?_ ro
  ·have : ((List.range ops.size).filter fun i => !(Array.replicate ops.size false).getD i false) = List.range ops.size := by
    apply List.filter_eq_self.2;intro i hi;simp at hi;simp [hi]
   rw [this, List.length_range]
  ·intro i o ho hl;simp [Array.getD_eq_getD_getElem?, Array.getElem?_replicate] at hl;split at hl <;> simp at hl
  ·have hz : ∀ (ys : REs) (k : Nat) (s : St), dE (fun j => (Array.replicate ops.size false).getD j false) k ys s = s := by
    intro ys
    induction ys with
    | nil => intro k s; rfl
    | cons y ys ih =>
     intro k s;have hf : (Array.replicate ops.size false).getD k false = false := by
      simp [Array.getD_eq_getD_getElem?, Array.getElem?_replicate];split <;> rfl
     simp only [dE, hf, cond_false];exact ih _ _
   rw [hz];exact ⟨hs.inv.same rfl rfl rfl rfl, hs.size, hs.defers, hs.env⟩
 | false =>
  refine wpIn_region ?_;have key : ∀ (k : Nat) (st st' : St) (xs : REs), Run P n ops k st xs st' → k + xs.length = ops.size → (∀ S' μ' a' w', Sim G n S' μ' st' a' w' → Q' .normal a' w') → ∀ S μ a w, Sim G n S μ st a w → wpOpsIn (Wd ro) 0 P ops Q' (List.range' k xs.length) a w := by
   intro k st st' xs hr
   induction hr with
   | nil => intro _ hq S μ a w hs; exact hq S μ a w hs
   | @cons k st rd f xs st' hg _ ih =>
    intro hl hq S μ a w hs;simp only [length_cons, List.range'_succ, wpOpsIn_cons];exact hg st (lD.refl _ _) G S μ a w _ Q' hs (fun S1 μ1 a1 w1 s1 => ih (by simp at hl; omega) hq S1 μ1 a1 w1 s1) ro
  have := key 0 st st' xs hr (by omega) (fun S' μ' a' w' s => hQ _ st' S' μ' a' w' h s) S μ a w hs;rwa [List.range_eq_range', ← hlen']
end
end Go.AM
