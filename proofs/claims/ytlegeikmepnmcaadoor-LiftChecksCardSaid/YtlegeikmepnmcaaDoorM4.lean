/-
  Texts Ax1 to Am23 in one.
-/
import Derived.Test.YtlegeikmepnmcaaDoorM3
import Derived.Laws.BytesArg
open List (append_assoc append_nil drop_drop drop_take drop_zero eq_nil_of_length_eq_zero flatten_append flatten_cons length_append length_cons length_drop length_nil length_take map_cons map_nil map_toArray mem_append mem_cons set_eq_take_append_cons_drop size_toArray take_append_of_le_length take_of_length_le take_take)
open Nat (add_assoc add_mul add_zero eq_of_beq_eq_true le_of_ble_eq_true le_refl le_trans min_eq_left mul_le_mul_right sub_zero zero_add)
namespace Go.AM
open Go
inductive BndV (st : St) : Option Operand → Nat → Nat → Prop
 | no {m} : BndV st none m m
 | yes {x kk m k} : opv st x = some (I kk ((k : Nat) : Int)) → BndV st (some x) m k
def aDh : Option Operand → List Nat
 | none => []
 | some x => opr x
section
variable {P : Program} {n : Nat} {o : Oper} {st : St} {d : Nat} {T : TT}
theorem BndV.val {G : Ctx} {S : Sto} {μ : Mu} {st' : St} {a : Act} {w : World} {x : Option Operand} {m k : Nat} (h : BndV st x m k) (hs : Sim G n S μ st' a w) (ha : ∀ t ∈ aDh x, st'.e t = st.e t) :
  (x = none ∧ k = m) ∨ ∃ kk, x.map a.eval = some (.int kk ((k : Nat) : Int)) := by
 cases h with
 | no => exact .inl ⟨rfl, rfl⟩
 | @yes x kk _ _ h => exact .inr ⟨kk, by rw [Option.map_some, dX (aH hs h ha)]⟩
theorem nW {w : World} {b : Bool} {len cap lo hi : Nat} {low high : Option Value} (hl : (low = none ∧ lo = 0) ∨ ∃ kk, low = some (.int kk ((lo : Nat) : Int))) (hh : (high = none ∧ hi = len) ∨ ∃ kk, high = some (.int kk ((hi : Nat) : Int))) (h1 : lo ≤ hi) (h2 : hi ≤ len) (h3 : len ≤ cap) :
  (Instr.sliceBounds b len cap low high none).run P w = .ok (lo, hi, cap) w := by
 have h4 : hi ≤ cap := le_trans h2 h3;rcases hl with ⟨rfl, rfl⟩ | ⟨kl, rfl⟩ <;> rcases hh with ⟨rfl, rfl⟩ | ⟨kh, rfl⟩ <;> simp [Instr.sliceBounds, Instr.sliceBound, asIntOf, h1, h4]
theorem aIu {t e : TypeId} {i ei : TI} {x : Operand} {low high : Option Operand} {es lo hi : Nat} {l : List (List C)} (hT : Tok P T) (ho : o.op = .slice t x low high none) (hd : o.dst = some d) (hdn : d < n) (hi' : T[t]? = some (some i)) (hk : i.k = .sl e) (hei : T[e]? = some (some ei)) (hes : ei.size = es)
  (hx : opv st x = some (.one (.c (.sl es l)))) (hlo : BndV st low 0 lo) (hhi : BndV st high l.length hi) (h1 : lo ≤ hi) (h2 : hi ≤ l.length) :
  Step P n o st ⟨opr x ++ aDh low ++ aDh high, []⟩ ⟨some (d, some (.one (.c (.sl es ((l.take hi).drop lo))))), []⟩ := by
 refine Step.value hd hdn fun st' ha G S μ a w hs => ?_
 have hv := aH hs hx fun t ht => ha.1 t (by simp [ht])
 have hl := hlo.val hs fun t ht => ha.1 t (by simp [ht])
 have hh := hhi.val hs fun t ht => ha.1 t (by simp [ht])
 simp only [aQ, b5, Rep] at hv;obtain ⟨ad, len, cap, p1, p2, p3, p4, p5, p6, b, of, p7, p8⟩ := hv;subst p2;have hb := nW (P := P) (w := w) (b := true) (low := low.map a.eval) (high := high.map a.eval) (len := l.length) (cap := cap) (by rcases hl with ⟨rfl, h⟩ | h; exact .inl ⟨rfl, h⟩; exact .inr h) (by rcases hh with ⟨rfl, h⟩ | h; exact .inl ⟨rfl, h⟩; exact .inr h) h1 h2 p3;refine ⟨.slice (if cap = lo then ad else ad.map (·.add (lo * ei.size))) (hi - lo) (cap - lo), ?_, ?_⟩
 ·have hu := run_underlying ((hT.get hi').slice hk) w;simp only [execOp, ho, p1, Option.map_none, Sem.run_bind, Instr.sliceAt, hu, Result.andThen_ok, Instr.slice, hb, (hT.get hei).size_run w, Sem.run_pure]
 ·simp only [aQ, b5, Rep];have hlen : ((l.take hi).drop lo).length = hi - lo := by simp; omega
  refine ⟨_, _, _, rfl, hlen.symm, by omega, by omega, ?_, ?_, ?_⟩
  ·intro e;have : ad = none := by
    split at e
    ·exact e
    ·cases ad <;> simp at e; rfl
   obtain ⟨h3, h4⟩ := p5 this;omega
  ·intro y e hcc;split at e
   ·omega
   ·cases ad with
    | none => cases e
    | some z =>
     simp at e;subst e;have := p6 z rfl (by omega);obtain ⟨zb, zo, zs⟩ := z;simp at this;subst this;rw [Addr.add_mid]
  ·by_cases hc : cap = lo
   ·have : (l.take hi).drop lo = [] := eq_nil_of_length_eq_zero (by omega);rw [this];refine ⟨b, of, fun y e => p7 y (by rwa [if_pos hc] at e), by simp [aR]⟩
   ·refine ⟨b, of + lo * es, fun y e => ?_, (p8.take hi).drop lo⟩;rw [if_neg hc] at e;cases ad with
    | none => cases e
    | some z =>
     simp at e;subst e;obtain ⟨h3, h4⟩ := p7 z rfl;have := p6 z rfl (by omega);obtain ⟨zb, zo, zs⟩ := z;simp at this h3 h4;subst this h3 h4;rw [Addr.add_mid, hes];exact ⟨rfl, rfl⟩
theorem extract_mk (s : List UInt8) (lo hi : Nat) : (ByteArray.mk ⟨s⟩).extract lo hi = ⟨⟨(s.take hi).drop lo⟩⟩ := by
 apply ByteArray.ext;simp;rw [drop_take]
theorem aGx {t : TypeId} {i : TI} {x : Operand} {low high : Option Operand} {lo hi : Nat} {s : List UInt8} (hT : Tok P T) (ho : o.op = .slice t x low high none) (hd : o.dst = some d) (hdn : d < n) (hi' : T[t]? = some (some i)) (hk : i.k = .str)
  (hx : opv st x = some (Go.AM.T s)) (hlo : BndV st low 0 lo) (hhi : BndV st high s.length hi) (h1 : lo ≤ hi) (h2 : hi ≤ s.length) :
  Step P n o st ⟨opr x ++ aDh low ++ aDh high, []⟩ ⟨some (d, some (Go.AM.T ((s.take hi).drop lo))), []⟩ := by
 refine Step.value hd hdn fun st' ha G S μ a w hs => ?_
 have hv := iD (aH hs hx fun t ht => ha.1 t (by simp [ht]));have hl := hlo.val hs fun t ht => ha.1 t (by simp [ht])
 have hh := hhi.val hs fun t ht => ha.1 t (by simp [ht])
 have hb := nW (P := P) (w := w) (b := false) (low := low.map a.eval) (high := high.map a.eval) (len := s.length) (cap := s.length) (by rcases hl with ⟨rfl, h⟩ | h; exact .inl ⟨rfl, h⟩; exact .inr h) (by rcases hh with ⟨rfl, h⟩ | h; exact .inl ⟨rfl, h⟩; exact .inr h) h1 h2 (le_refl _);refine ⟨.string ⟨⟨(s.take hi).drop lo⟩⟩, ?_, by simp [aQ, b5, Rep]⟩;have hu := run_underlying ((hT.get hi').str hk) w;have hsz : (ByteArray.mk ⟨s⟩).size = s.length := rfl;simp only [execOp, ho, hv, Option.map_none, Sem.run_bind, Instr.sliceAt, hu, Result.andThen_ok, Instr.slice, hsz, hb, Option.isSome_none, Bool.false_eq_true, if_false, Sem.run_pure, extract_mk]
theorem aD0 {t : TypeId} {i : TI} {x y : Operand} {s : List UInt8} {kk : IntKind} {m : Int} {k : Nat} {b : UInt8} (hT : Tok P T) (ho : o.op = .index t x y) (hd : o.dst = some d) (hdn : d < n) (hi' : T[t]? = some (some i)) (hk : i.k = .str)
  (hx : opv st x = some (Go.AM.T s)) (hy : opv st y = some (I kk m)) (hm : m = (k : Int)) (hb : s[k]? = some b) : Step P n o st ⟨opr x ++ opr y, []⟩ ⟨some (d, some (I .u8 ((b.toNat : Nat) : Int))), []⟩ := by
 refine Step.value hd hdn fun st' ha G S μ a w hs => ?_
 have hv := iD (aH hs hx fun t ht => ha.1 t (by simp [ht]));have h2 := dX (aH hs hy fun t ht => ha.1 t (by simp [ht]));subst hm;refine ⟨.int .u8 ((b.toNat : Nat) : Int), ?_, by simp [aQ, b5, Rep]⟩;have hu := run_underlying ((hT.get hi').str hk) w;have hg : (ByteArray.mk ⟨s⟩)[k]? = some b := by
  have hlt := (List.getElem?_eq_some_iff.1 hb).1
  have hsz : (ByteArray.mk ⟨s⟩).size = s.length := rfl;rw [getElem?_pos (ByteArray.mk ⟨s⟩) k (by rw [hsz]; exact hlt)];have := (List.getElem?_eq_some_iff.1 hb).2
  rw [← this];rfl
 simp only [execOp, ho, hv, h2, Sem.run_bind, Instr.index, asIntOf, Sem.run_pure, Result.andThen_ok, hu];simp [hg]
theorem aIn {t1 t2 : TypeId} {x y : Operand} {k : IntKind} {a b r : Int} (ho : o.op = .call { callee := .builtin .min, args := #[x, y], argTypes := #[t1, t2] }) (hd : o.dst = some d) (hdn : d < n) (hx : opv st x = some (I k a)) (hy : opv st y = some (I k b)) (hr : (if b < a then b else a) = r) :
  Step P n o st ⟨opr x ++ opr y, []⟩ ⟨some (d, some (I k r)), []⟩ := by
 refine Step.value hd hdn fun st' ha G S μ ac w hs => ?_
 have h1 := dX (aH hs hx fun t h => ha.1 t (by simp [h]));have h2 := dX (aH hs hy fun t h => ha.1 t (by simp [h]));refine ⟨.int k r, ?_, by simp [aQ, b5, Rep]⟩;simp only [execOp, ho, resolve, map_toArray, map_cons, map_nil, h1, h2, Sem.run_bind, Sem.run_pure, Result.andThen_ok, invoke, builtin, Builtin.min_, List.foldlM_cons, List.foldlM_nil, Builtin.min2, hr]
end
section
variable {P : Program} {n : Nat} {o : Oper} {st : St} {d : Nat} {T : TT}
theorem j6.rarr {S : Sto} {μ : Mu} {H : cH} {w : World} {id : Nat} {te es : Nat} {elems : List (List R)} (h : j6 S μ H w id (.rarr te es elems)) {b base cap : Nat} (hm : μ id = some (b, base, cap)) :
  (∀ r ∈ elems, r.length = es) ∧ ∃ vs, w.heap[b]? = some (.cells ⟨vs⟩ te (0, 0)) ∧ base + cap * es ≤ vs.length ∧ elems.length ≤ cap ∧ (cap ≤ maxLen ∧ S.mapo b = none) ∧ aO S μ H elems.flatten ((vs.drop base).take (elems.length * es)) ∧ (∀ o, base ≤ o → S.cell b o = none) := by
 obtain ⟨h0, h1 | ⟨b', base', cap', vs, h1, h2, h3, h4, h5, h6, h7⟩⟩ := h
 ·rw [h1.1] at hm; cases hm
 ·rw [h1] at hm; cases hm;exact ⟨h0, vs, h2, h3, h4, h5, h6, h7⟩
def pB (st : St) (es : Nat) : Nat → List (Nat × Operand) → Option (List (List R))
 | _, [] => some []
 | k, (i, x) :: ps => bif Nat.beq i k then (opv st x).bind fun v => (eW v).bind fun rs => bif Nat.beq rs.length es then (pB st es (k + 1) ps).bind fun l => some (rs :: l) else none else none
theorem qJ {es : Nat} : ∀ {ps : List (Nat × Operand)} {k : Nat} {l : List (List R)}, pB st es k ps = some l → l.length = ps.length ∧ ∀ r ∈ l, r.length = es
 | [], k, l, h => by simp [pB] at h; subst h; simp
 | (i, x) :: ps, k, l, h => by
  simp only [pB] at h;cases hi : Nat.beq i k with
  | false => rw [hi] at h; cases h
  | true =>
   rw [hi] at h;simp only [cond_true, Option.bind_eq_some_iff] at h;obtain ⟨v, hv, rs, hrs, h⟩ := h;cases hl : Nat.beq rs.length es with
   | false => rw [hl] at h; cases h
   | true =>
    rw [hl] at h;simp only [cond_true, Option.bind_eq_some_iff] at h;obtain ⟨l', hl', h⟩ := h;cases h;obtain ⟨h1, h2⟩ := qJ hl';refine ⟨by simp [h1], fun r hr => ?_⟩;rcases mem_cons.1 hr with rfl | hr
    ·exact eq_of_beq_eq_true hl
    ·exact h2 r hr
theorem x9 {G : Ctx} {S : Sto} {μ : Mu} {st' : St} {a : Act} {w : World} (hs : Sim G n S μ st' a w) {es : Nat} : ∀ {k : Nat} {ps : List (Nat × Operand)} {rows : List (List R)}, pB st es k ps = some rows → (∀ t ∈ eJ ps, st'.e t = st.e t) →
  ∀ (cells : Array Value), cells.size = (k + ps.length) * es → ∃ out : Array Value, Instr.fill (fun i => some (i * es, es)) cells (ps.map fun (i, x) => (i, a.eval x)) = some out ∧ out.size = cells.size ∧
   ∃ us, aO S μ st'.h rows.flatten us ∧ out.toList = cells.toList.take (k * es) ++ us := by
 intro k ps
 induction ps generalizing k with
 | nil =>
  intro rows h _ cells hc;simp only [pB] at h;cases h;refine ⟨cells, rfl, rfl, [], by simp [aO], ?_⟩;rw [append_nil, take_of_length_le];simp at hc;simp [hc]
 | cons p ps ih =>
  obtain ⟨i, x⟩ := p;intro rows h ha cells hsz;simp only [pB] at h;cases hi : Nat.beq i k with
  | false => rw [hi] at h; cases h
  | true =>
   rw [hi] at h;have hik := eq_of_beq_eq_true hi;subst hik;simp only [cond_true, Option.bind_eq_some_iff] at h;obtain ⟨v, hv, rs, hrs, h⟩ := h;cases hl : Nat.beq rs.length es with
   | false => rw [hl] at h; cases h
   | true =>
    rw [hl] at h;simp only [cond_true, Option.bind_eq_some_iff] at h;obtain ⟨l', hl'', h⟩ := h;cases h;have hl' := eq_of_beq_eq_true hl;have hrel := dD (aH hs hv fun t ht => ha t (by simp [eJ, ht])) hrs;have hvl := hrel.length;simp only [Array.length_toList] at hvl;simp only [length_cons] at hsz;have hke : (i + (ps.length + 1)) * es = i * es + es + ps.length * es := by
     rw [add_mul, add_mul]; omega
    have hset := k7 (i * es) (a.eval x).cells.toList 0 cells (by simp only [Array.length_toList]; omega);have hsl : (bU cells.toList (i * es) (a.eval x).cells.toList).length = cells.size := by
     unfold bU;simp;omega
    obtain ⟨out, h1, h2, us, h3, h4⟩ := ih hl'' (fun t ht => ha t (by simp [eJ, ht])) ⟨bU cells.toList (i * es) (a.eval x).cells.toList⟩ (by
     simp only [size_toArray, hsl, hsz];congr 1
     omega)
    refine ⟨out, ?_, by rw [h2]; simpa using hsl, (a.eval x).cells.toList ++ us, ?_, ?_⟩
    ·simp only [map_cons, Instr.fill];have hcond : ((a.eval x).cells.size ≠ es || decide (i * es + (a.eval x).cells.size > cells.size)) = false := by
      simp only [Bool.or_eq_false_iff, decide_eq_false_iff_not];exact ⟨by simp; omega, by omega⟩
     simp only [hcond, Bool.false_eq_true, if_false];have hset' : ((a.eval x).cells.zipIdx.foldl (fun cs (x : Value × Nat) => cs.setIfInBounds (i * es + x.2) x.1) cells) = ⟨bU cells.toList (i * es) (a.eval x).cells.toList⟩ := by
      rw [← Array.foldl_toList, Array.toList_zipIdx];simpa using hset
     rw [← h1];congr 1
    ·rw [flatten_cons]; exact hrel.append h3
    ·rw [h4];have : (bU cells.toList (i * es) (a.eval x).cells.toList).take ((i + 1) * es) = cells.toList.take (i * es) ++ (a.eval x).cells.toList := by
      unfold bU;apply List.take_left';simp;rw [add_mul];omega
     show (bU cells.toList (i * es) (a.eval x).cells.toList).take ((i + 1) * es) ++ us = _;rw [this, append_assoc]
theorem aCc {t e : TypeId} {i ei : TI} {len : Nat} {parts : Array (Nat × Operand)} {rows : List (List R)} (id : Nat) (hT : Tok P T) (ho : o.op = .buildSlice t len parts) (hd : o.dst = some d) (hdn : d < n) (hi : T[t]? = some (some i)) (hk : i.k = .sl e) (hei : T[e]? = some (some ei))
  (hrows : pB st ei.size 0 parts.toList = some rows) (hlen : Nat.beq len parts.size = true) (hsmall : Nat.ble (len * ei.size) 16777216 = true) (hsm1 : Nat.ble len 16777216 = true) (hid : st.h id = none) :
  Step P n o st ⟨eJ parts.toList, [id]⟩ ⟨some (d, some (.one (.ra id 0 len len))), [(id, some (.rarr e ei.size rows))]⟩ := by
 refine Step.new hd hdn hid (by simp) fun st' ha hid' G S μ a w hs => ?_
 have hlen' := eq_of_beq_eq_true hlen;have hsm := le_of_ble_eq_true hsmall;obtain ⟨z, hz, hzr, _⟩ := (hT.get hei).zero_run;have hzl := (hzr S).length;rw [(hT.get hei).len] at hzl;simp only [Array.length_toList] at hzl;obtain ⟨hrl, hrw⟩ := qJ hrows;simp only [Array.length_toList] at hrl;have key : ∀ (cells : Array Value), cells.size = len * ei.size → ∃ out : Array Value, Instr.fill (fun i => some (i * ei.size, ei.size)) cells (parts.map fun (i, x) => (i, a.eval x)).toList = some out ∧ out.size = len * ei.size ∧ aO S μ st'.h rows.flatten out.toList := by
  intro cells hc;obtain ⟨out, h1, h2, us, h3, h4⟩ := x9 hs hrows ha.1 cells (by rw [hc, hlen']; simp);refine ⟨out, by rw [← h1]; simp, by rw [h2, hc], ?_⟩;simp at h4;rw [h4]; exact h3
 have hrun : ∃ out : Array Value, (Instr.buildSlice t len (parts.map fun (i, x) => (i, a.eval x))).run P w = .ok (.slice (some ⟨w.heap.size, 0, none⟩) len len) (w.alloc (.cells out e)) ∧ out.size = len * ei.size ∧ aO S μ st'.h rows.flatten out.toList := by
  by_cases h0 : len * ei.size = 0
  ·obtain ⟨out, h1, h2, h3⟩ := key ((Array.range (len * ei.size)).map ((#[] : Array Value)[· % (#[] : Array Value).size]!)) (by simp);refine ⟨out, ?_, h2, h3⟩;have hgt : ¬ len * ei.size > 2 ^ 24 := by omega
   simp only [Instr.buildSlice, Sem.run_bind, run_underlying ((hT.get hi).slice hk) w, Result.andThen_ok, (hT.get hei).size_run w];rw [if_neg hgt, if_pos h0];simp only [Sem.run_bind, Result.andThen_ok, Sem.run_pure, h1, fD]
  ·obtain ⟨out, h1, h2, h3⟩ := key ((Array.range (len * ei.size)).map (z.cells[· % z.cells.size]!)) (by simp);refine ⟨out, ?_, h2, h3⟩;have hgt : ¬ len * ei.size > 2 ^ 24 := by omega
   simp only [Instr.buildSlice, Sem.run_bind, run_underlying ((hT.get hi).slice hk) w, Result.andThen_ok, (hT.get hei).size_run w];rw [if_neg hgt, if_neg h0];simp only [Sem.run_bind, hz w, Result.andThen_ok, Sem.run_pure, h1, fD]
 obtain ⟨out, h1, h2, h3⟩ := hrun;have hlm : len ≤ maxLen := by
  have := le_of_ble_eq_true hsm1;unfold maxLen;omega
 have hrl' : rows.length = len := by omega
 refine ⟨_, _, .slice (some ⟨w.heap.size, 0, none⟩) len len, (0, len), ?_, WChg.alloc w (.cells out e), ?_, ?_⟩
 ·simp only [execOp, ho, Sem.run_bind, h1, Result.andThen_ok, Sem.run_pure]
 ·refine ⟨hrw, .inr ⟨w.heap.size, 0, len, out.toList, aC _ _ _, heap_alloc_new w _, by simp [h2], by omega, ⟨hlm, lG hs.inv⟩, ?_, fun o _ => dY hs.inv o⟩⟩;simp only [drop_zero];rw [take_of_length_le (by simp [h2, hrl'])];exact aO.evolve (eB hid' _ _) _ _ h3
 ·simp only [aQ, b5];exact ⟨⟨_, _, _, rfl⟩, .inr ⟨e, ei.size, rows, aC _ _ _, by omega, fun _ => ⟨by omega, .inr ⟨w.heap.size, 0, len, aC _ _ _, by simp⟩⟩⟩⟩
theorem xG {t e : TypeId} {i ei : TI} {x y : Operand} {te es k id off len sz : Nat} {kk : IntKind} {m : Int} {elems : List (List R)} (hT : Tok P T) (ho : o.op = .indexAddr t x y) (hd : o.dst = some d) (hdn : d < n) (hi : T[t]? = some (some i)) (hk : i.k = .sl e) (hei : T[e]? = some (some ei)) (hes : ei.size = es)
  (hx : opv st x = some (.one (.ra id off len sz))) (hh : st.h id = some (.rarr te es elems)) (hsz : sz = elems.length) (hy : opv st y = some (I kk m)) (hm : m = (k : Int)) (hlt : k < len) : Step P n o st ⟨opr x ++ opr y, [id]⟩ ⟨some (d, some (.one (.rp id (off + k) 0 sz))), []⟩ := by
 refine Step.value hd hdn fun st' ha G S μ a w hs => ?_
 have hv := aH hs hx fun t ht => ha.1 t (by simp [ht])
 have hv2 := dX (aH hs hy fun t ht => ha.1 t (by simp [ht]));have hh' : st'.h id = some (.rarr te es elems) := by rw [ha.2 id (by simp), hh]
 simp only [aQ, b5] at hv;obtain ⟨_, hv | ⟨te', es', elems', h1, h2, h3⟩⟩ := hv
 ·rw [hh'] at hv; cases hv
 rw [hh'] at h1; cases h1;obtain ⟨h4, ⟨h5, h6, h7⟩ | ⟨b, base, cap, h5, h6⟩⟩ := h3 hsz
 ·subst h6; simp at hsz; omega
 subst hm;refine ⟨.pointer (some ⟨b, base + (off + k) * es + 0, none⟩), ?_, ?_⟩
 ·simp only [execOp, ho, h6, hv2, Sem.run_bind, gS hT hi hk hei w b (base + off * es) len _ k kk hlt, Result.andThen_ok, Sem.run_pure, hes, add_zero];rw [show base + off * es + k * es = base + (off + k) * es by rw [add_mul]; omega]
 ·simp only [aQ, b5];exact ⟨⟨_, rfl⟩, .inr ⟨te, es, elems, hh', h2, fun _ => ⟨by omega, b, base, cap, h5, rfl⟩⟩⟩
theorem xJ {t ft : TypeId} {i fi : TI} {fs : List (Nat × TypeId)} {f foff : Nat} {x : Operand} {id k fo sz : Nat} (hT : Tok P T) (ho : o.op = .fieldAddr t x f) (hd : o.dst = some d) (hdn : d < n) (hi : T[t]? = some (some i)) (hk : i.k = .st fs) (hf : fs[f]? = some (foff, ft)) (hfi : T[ft]? = some (some fi)) (hz : fi.size ≠ 0)
  {te es : Nat} {elems : List (List R)} (hx : opv st x = some (.one (.rp id k fo sz))) (hh : st.h id = some (.rarr te es elems)) (hsz : sz = elems.length) : Step P n o st ⟨opr x, [id]⟩ ⟨some (d, some (.one (.rp id k (fo + foff) sz))), []⟩ := by
 refine Step.value hd hdn fun st' ha G S μ a w hs => ?_
 have hv := aH hs hx ha.1;have hh' : st'.h id = some (.rarr te es elems) := by rw [ha.2 id (by simp), hh]
 simp only [aQ, b5] at hv;obtain ⟨_, hv | ⟨te', es', elems', h1, h2, h3⟩⟩ := hv
 ·rw [hh'] at hv; cases hv
 rw [hh'] at h1; cases h1;obtain ⟨h4, b, base, cap, h5, h6⟩ := h3 hsz;refine ⟨.pointer (some ⟨b, base + k * es + fo + foff, none⟩), ?_, ?_⟩
 ·simp only [execOp, ho, h6, Sem.run_bind, fF hT hi hk hf hfi hz, Result.andThen_ok, Sem.run_pure]
 ·simp only [aQ, b5];exact ⟨⟨_, rfl⟩, .inr ⟨te, es, elems, hh', h2, fun _ => ⟨h4, b, base, cap, h5, by rw [add_assoc]⟩⟩⟩
theorem aCh {t e : TypeId} {i : TI} {x : Operand} {te es id off len sz : Nat} {elems : List (List R)} (hT : Tok P T) (ho : o.op = .call { callee := .builtin .len, args := #[x], argTypes := #[t] }) (hd : o.dst = some d) (hdn : d < n) (hi : T[t]? = some (some i)) (hk : i.k = .sl e)
  (hx : opv st x = some (.one (.ra id off len sz))) (hh : st.h id = some (.rarr te es elems)) (hsz : sz = elems.length) : Step P n o st ⟨opr x, [id]⟩ ⟨some (d, some (I .i64 (len : Int))), []⟩ := by
 refine Step.value hd hdn fun st' ha G S μ a w hs => ?_
 have hv := aH hs hx ha.1;have hh' : st'.h id = some (.rarr te es elems) := by rw [ha.2 id (by simp), hh]
 simp only [aQ, b5] at hv;obtain ⟨_, hv | ⟨te', es', elems', h1, h2, h3⟩⟩ := hv
 ·rw [hh'] at hv; cases hv
 rw [hh'] at h1; cases h1;obtain ⟨h4, ⟨h5, h6, h7⟩ | ⟨b, base, cap, h5, h6⟩⟩ := h3 hsz
 ·have hl : len = 0 := by subst h6; simp at hsz; omega
  subst hl;refine ⟨goInt 0, gQ ho h7 ?_, by simp [aQ, b5, Rep, goInt]⟩;simp [Builtin.len_, run_underlying ((hT.get hi).slice hk) w]
 ·refine ⟨goInt len, gQ ho h6 ?_, by simp [aQ, b5, Rep, goInt]⟩;simp [Builtin.len_, run_underlying ((hT.get hi).slice hk) w]
theorem yY {S : Sto} {μ : Mu} {H : cH} {es base : Nat} {elems : List (List R)} {vs : List Value} (h0 : ∀ r ∈ elems, r.length = es) (h : aO S μ H elems.flatten ((vs.drop base).take (elems.length * es))) {k : Nat} {r : List R} (hk : elems[k]? = some r) :
  aO S μ H r ((vs.drop (base + k * es)).take es) := by
 have hlt : k < elems.length := (List.getElem?_eq_some_iff.1 hk).1
 have hmul : (k + 1) * es ≤ elems.length * es := mul_le_mul_right _ hlt;rw [add_mul] at hmul;have h1 := (h.drop (k * es)).take es;rw [mG h0 k r hk] at h1;rw [drop_take, take_take, drop_drop, min_eq_left (by omega)] at h1;exact h1
theorem z7 {t te es : Nat} {i : TI} {x : Operand} {id k fo sz : Nat} {elems : List (List R)} {r : List R} {y : V} (hT : Tok P T) (ho : o.op = .load t x) (hd : o.dst = some d) (hdn : d < n) (hi : T[t]? = some (some i)) (hx : opv st x = some (.one (.rp id k fo sz)))
  (hh : st.h id = some (.rarr te es elems)) (hsz : sz = elems.length) (hr : elems[k]? = some r) (hl : fo + i.size ≤ es) (hy : nO i ((r.drop fo).take i.size) = some y) : Step P n o st ⟨opr x, [id]⟩ ⟨some (d, some y), []⟩ := by
 refine Step.value hd hdn fun st' ha G S μ a w hs => ?_
 have hv := aH hs hx ha.1;have hh' : st'.h id = some (.rarr te es elems) := by rw [ha.2 id (by simp), hh]
 simp only [aQ, b5] at hv;obtain ⟨_, hv | ⟨te', es', elems', h1, h2, h3⟩⟩ := hv
 ·rw [hh'] at hv; cases hv
 rw [hh'] at h1; cases h1;obtain ⟨h4, b, base, cap, h5, h6⟩ := h3 hsz;obtain ⟨g0, vs, g1, g2, g3, g4, g5, g6⟩ := (hs.inv.obj id _ hh').rarr h5;have hrow := yY g0 g5 hr;have hrow2 := (hrow.drop fo).take i.size;rw [drop_take, take_take, drop_drop, min_eq_left (by omega)] at hrow2;have hlt : k < elems.length := (List.getElem?_eq_some_iff.1 hr).1
 have hmul : (k + 1) * es ≤ cap * es := mul_le_mul_right _ (by omega);rw [add_mul] at hmul;have hcl : ((vs.drop (base + k * es + fo)).take i.size).length = i.size := aI4 (by omega);have hrg := gU g1 (base + k * es + fo) i.size;refine ⟨_, ?_, iH hrow2 hy⟩;have hrun := run_load (hT.get hi) w b (base + k * es + fo) _ hrg hcl;simp only [execOp, ho, h6, Sem.run_bind, Sem.run_pure] at hrun ⊢;rw [hrun];rfl
theorem pE {x : Operand} {te es id k fo sz : Nat} {elems : List (List C)} {fz : Nat} (ho : o.op = .nilCheck x) (hd : o.dst = some d) (hdn : d < n) (hx : opv st x = some (.one (.ep id k fo sz))) (hh : st.h id = some (.arr te es elems fz)) (hsz : sz = elems.length) :
  Step P n o st ⟨opr x, [id]⟩ ⟨some (d, some (.one (.ep id k fo sz))), []⟩ := by
 refine Step.value hd hdn fun st' ha G S μ a w hs => ⟨a.eval x, ?_, aH hs hx ha.1⟩
 have hv := aH hs hx ha.1;have hh' : st'.h id = some (.arr te es elems fz) := by rw [ha.2 id (by simp), hh]
 simp only [aQ, b5] at hv;obtain ⟨_, hv | ⟨te', es', elems', fz', h1, h2, h3⟩⟩ := hv
 ·rw [hh'] at hv; cases hv
 rw [hh'] at h1; cases h1;obtain ⟨h4, b, base, cap, h5, h6⟩ := h3 hsz;simp [execOp, ho, h6]
theorem pD {x : Operand} {te es id k fo sz : Nat} {elems : List (List R)} (ho : o.op = .nilCheck x) (hd : o.dst = some d) (hdn : d < n) (hx : opv st x = some (.one (.rp id k fo sz))) (hh : st.h id = some (.rarr te es elems)) (hsz : sz = elems.length) :
  Step P n o st ⟨opr x, [id]⟩ ⟨some (d, some (.one (.rp id k fo sz))), []⟩ := by
 refine Step.value hd hdn fun st' ha G S μ a w hs => ⟨a.eval x, ?_, aH hs hx ha.1⟩
 have hv := aH hs hx ha.1;have hh' : st'.h id = some (.rarr te es elems) := by rw [ha.2 id (by simp), hh]
 simp only [aQ, b5] at hv;obtain ⟨_, hv | ⟨te', es', elems', h1, h2, h3⟩⟩ := hv
 ·rw [hh'] at hv; cases hv
 rw [hh'] at h1; cases h1;obtain ⟨h4, b, base, cap, h5, h6⟩ := h3 hsz;simp [execOp, ho, h6]
end
section
variable {P : Program} {n : Nat} {o : Oper} {st : St} {d : Nat} {T : TT}
theorem oT {t e : TypeId} {i ei : TI} {x y : Operand} {id id2 sz te2 : Nat} {elems rows : List (List R)} {st' : St} {G : Ctx} {S : Sto} {μ : Mu} {a : Act} {w : World} (hT : Tok P T) (ho : o.op = .call { callee := .builtin .append, args := #[x, y], argTypes := #[t, t] })
  (hi : T[t]? = some (some i)) (hk : i.k = .sl e) (hei : T[e]? = some (some ei)) (hes : Nat.ble 1 ei.size = true) (heb : Nat.ble 1 ei.bytes = true)
  (hsz : sz = elems.length) (hpos : 0 < rows.length) (hroom : (elems.length + rows.length) * ei.bytes ≤ 140737488355328) (hh' : st'.h id = some (.rarr e ei.size elems)) (hs : Sim G n S μ st' a w)
  (hvx : aQ S μ st'.h (.one (.ra id 0 sz sz)) (a.eval x)) (hvy : aQ S μ st'.h (.one (.ra id2 0 rows.length rows.length)) (a.eval y)) (hh2 : st'.h id2 = some (.rarr te2 ei.size rows)) :
  ∃ w' v b bo c, (execOp a.eval o).run P w = .ok (.value v) w' ∧ (w.heap.size ≤ b ∨ ∃ c', μ id = some (b, c')) ∧ WChg w w' b bo ∧
   j6 S (upd μ id (some (b, c))) (upd st'.h id (some (.rarr e ei.size (elems ++ rows)))) w' id (.rarr e ei.size (elems ++ rows)) ∧ (∀ o v, S.cell b o = some v → ∃ vs t fr, bo = .cells vs t fr ∧ vs[o]? = some v) ∧ (∀ m, S.mapo b = some m → w.heap.size ≤ b) ∧
   Evolve S μ st'.h S (upd μ id (some (b, c))) (upd st'.h id (some (.rarr e ei.size (elems ++ rows)))) ∧
   aQ S (upd μ id (some (b, c))) (upd st'.h id (some (.rarr e ei.size (elems ++ rows)))) (.one (.ra id 0 (elems.length + rows.length) (elems.length + rows.length))) v := by
 subst hsz;have hes' := le_of_ble_eq_true hes;have heb' := le_of_ble_eq_true heb
 have hE : ∀ b c, Evolve S μ st'.h S (upd μ id (some (b, c))) (upd st'.h id (some (.rarr e ei.size (elems ++ rows)))) := fun b c => ⟨S.le_refl, fun j x hj => by
  by_cases hne : j = id
  ·subst hne;rw [hh'] at hj; cases hj;exact ⟨_, aC _ _ _, by simp only [AObj.succ, true_and]; exact ⟨by simp, fun e => by rw [length_append] at e; omega⟩⟩
  ·exact ⟨x, by rw [aT _ _ _ hne]; exact hj, x.succ_refl (aT _ _ _ hne)⟩⟩
 obtain ⟨ad, cc, news, hvy1, hnrep, hrl, hcell⟩ : ∃ ad cc news, a.eval y = .slice (some ad) rows.length cc ∧ aO S μ st'.h rows.flatten news ∧ (∀ r ∈ rows, r.length = ei.size) ∧ ∀ j u, news[j]? = some u → w.cell? (ad.add j) = some u := by
  simp only [aQ, b5] at hvy;obtain ⟨_, hv | ⟨te', es', elems', h1, h2, h3⟩⟩ := hvy
  ·rw [hh2] at hv; cases hv
  rw [hh2] at h1; cases h1;obtain ⟨h4, ⟨h5, h6, h7⟩ | ⟨b, base, cap, h5, h6⟩⟩ := h3 rfl
  ·rw [h6] at hpos; simp at hpos
  obtain ⟨g0, vs, g1, g2, g3, g4, g5, g6⟩ := (hs.inv.obj id2 _ hh2).rarr h5;refine ⟨_, _, _, h6, g5, g0, fun j u hj => ?_⟩;rw [Addr.add_mid, cell_of_row w b _ ⟨vs⟩ te2 (0, 0) g1];rw [List.getElem?_take] at hj;split at hj
  ·rw [List.getElem?_drop] at hj;simpa using hj
  ·cases hj
 have hnl : news.length = rows.length * ei.size := by rw [hnrep.length, fN hrl]
 obtain ⟨inf, dd, z, g1, g2, g3, g4, g5, g6, g7, g8⟩ := (hT.get hei).ex;have hu := (hT.get hi).slice hk;have hzs : z.cells.size = ei.size := by
  have h1 := (fE (S := S) g7).length;rw [(hT.get hei).len] at h1;simpa using h1
 simp only [aQ, b5] at hvx;obtain ⟨_, hv | ⟨te', es', elems', h1, h2, h3⟩⟩ := hvx
 ·rw [hh'] at hv; cases hv
 rw [hh'] at h1; cases h1;obtain ⟨h4, hcase⟩ := h3 rfl;have hbig : elems.length + rows.length ≤ 140737488355328 := by
  have : (elems.length + rows.length) * 1 ≤ (elems.length + rows.length) * ei.bytes := Nat.mul_le_mul_left _ heb';omega
 have hone : ∀ u ∈ news, u.oneCell' = true := hnrep.one;have hcap : ∀ old, elems.length + rows.length ≤ grownCap w (elems.length + rows.length) old e ∧ grownCap w (elems.length + rows.length) old e ≤ maxLen := fun old =>
  ⟨grownCap_ge _ _ _ _, grownCap_le_maxLen _ _ _ _ (by unfold maxLen; omega)⟩
 have hlen' : (elems ++ rows).length = elems.length + rows.length := by simp
 have hgrown : ∀ (olds : List Value) (old : Nat), aO S μ st'.h elems.flatten olds → ∀ g0 : (∀ r ∈ elems, r.length = ei.size),
   j6 S (upd μ id (some (w.heap.size, 0, grownCap w (elems.length + rows.length) old e))) (upd st'.h id (some (.rarr e ei.size (elems ++ rows))))
    (w.drew.alloc (.cells (olds.toArray ++ news.toArray ++ Builtin.zeroCells z.cells (grownCap w (elems.length + rows.length) old e - (elems.length + rows.length))) e)) id (.rarr e ei.size (elems ++ rows)) := by
  intro olds old hol g0;obtain ⟨hc1, hc2⟩ := hcap old;have hol' := hol.length;rw [fN g0] at hol';refine ⟨?_, .inr ⟨w.heap.size, 0, grownCap w (elems.length + rows.length) old e, (olds.toArray ++ news.toArray ++ Builtin.zeroCells z.cells (grownCap w (elems.length + rows.length) old e - (elems.length + rows.length))).toList, aC _ _ _, heap_alloc_new w.drew _, ?_, by simpa using hc1, ⟨hc2, lG hs.inv⟩, ?_, fun o _ => dY hs.inv o⟩⟩
  ·intro r hr;rcases mem_append.1 hr with hr | hr
   ·exact g0 r hr
   ·exact hrl r hr
  ·simp only [Array.toList_append, length_append, Array.length_toList, size_zeroCells, hzs];simp only [hol', hnl, zero_add, ← add_mul];exact mul_le_mul_right _ (by omega)
  ·simp only [Array.toList_append, drop_zero, length_append, flatten_append];rw [take_append_of_le_length (by simp [hol', hnl, add_mul]), take_of_length_le (by simp [hol', hnl, add_mul])];exact (aO.evolve (hE _ _) _ _ hol).append (aO.evolve (hE _ _) _ _ hnrep)
 rcases hcase with ⟨h5, h6, h7⟩ | ⟨b, base, cap, h5, h6⟩
 ·-- the first elements
  subst h6;simp only [length_nil, zero_add] at hroom hbig hgrown hcap;have hr := run_append_nil (P := P) w t o.type e inf z hu g1 g6 ad rows.length cc news (by rw [hnl, g3]) hcell (by omega) (by omega) (by rw [g4]; omega);refine ⟨_, _, w.heap.size, _, (0, grownCap w rows.length 0 e), dZ ho h7 hvy1 hr, .inl (le_refl _), WChg.alloc_drew w _, ?_, fun o v e => (by rw [dY hs.inv o] at e; cases e), fun m e => le_refl _, hE _ _, ?_⟩
  ·have := hgrown [] 0 (by simp [aO]) (by simp);simpa using this
  ·simp only [aQ, b5];exact ⟨⟨_, _, _, rfl⟩, .inr ⟨e, ei.size, _, aC _ _ _, by simp, fun _ => ⟨by simp, .inr ⟨w.heap.size, 0, _, aC _ _ _, by simp⟩⟩⟩⟩
 ·obtain ⟨q0, vs, q1, q2, q3, q4, q5, q6⟩ := (hs.inv.obj id _ hh').rarr h5;have hce : elems.length * ei.size ≤ cap * ei.size := mul_le_mul_right _ q3;simp only [sub_zero, Nat.zero_mul, add_zero] at h6;by_cases hroom' : elems.length + rows.length ≤ cap
  ·-- there is room
   have hce2 : (elems.length + rows.length) * ei.size ≤ cap * ei.size := mul_le_mul_right _ hroom';rw [add_mul] at hce2;have hr := hZ (P := P) w t o.type e inf hu g1 b base elems.length cap ⟨vs⟩ q1 ad rows.length cc news (by rw [hnl, g3]) hcell hone hroom' (by rw [g3, hnl]; simp only [size_toArray]; omega);rw [g3] at hr;have hW := WChg.setRow w b ⟨vs⟩ ⟨vs.take (base + elems.length * ei.size) ++ news ++ vs.drop (base + elems.length * ei.size + news.length)⟩ e (0, 0) q1
   refine ⟨_, _, b, _, (base, cap), dZ ho h6 hvy1 hr, .inr ⟨_, h5⟩, hW, ⟨?_, .inr ⟨b, base, cap, _, aC _ _ _, hW.new, ?_, by rw [hlen']; omega, q4, ?_, q6⟩⟩, fun o v e => (by
     by_cases hb : base ≤ o
     ·rw [q6 o hb] at e; cases e
     ·obtain ⟨vs0, t0, fr0, p1, p2⟩ := hs.inv.holds.1 b o v e;rw [q1] at p1; cases p1;refine ⟨_, _, _, rfl, ?_⟩;simp only [List.getElem?_toArray] at p2 ⊢;have hlt : o < vs.length := (List.getElem?_eq_some_iff.1 p2).1
      rw [append_assoc, List.getElem?_append_left (by simp; omega), List.getElem?_take, if_pos (by omega)]
      exact p2), fun m e => fM q4.2 m e, hE _ _, ?_⟩
   ·intro r hr;rcases mem_append.1 hr with hr | hr
    ·exact q0 r hr
    ·exact hrl r hr
   ·simp only [length_append, length_take, length_drop];omega
   ·rw [hlen', flatten_append];have e1 : ((vs.take (base + elems.length * ei.size) ++ news ++ vs.drop (base + elems.length * ei.size + news.length)).drop base).take ((elems.length + rows.length) * ei.size) = (vs.drop base).take (elems.length * ei.size) ++ news := by
     rw [append_assoc, List.drop_append_of_le_length (by simp; omega), ← append_assoc, take_append_of_le_length (by simp [add_mul]; omega)];rw [take_of_length_le (by simp [add_mul]; omega), drop_take];rw [show base + elems.length * ei.size - base = elems.length * ei.size by omega]
    rw [e1];exact (aO.evolve (hE _ _) _ _ q5).append (aO.evolve (hE _ _) _ _ hnrep)
   ·simp only [aQ, b5];exact ⟨⟨_, _, _, rfl⟩, .inr ⟨e, ei.size, _, aC _ _ _, by simp, fun _ => ⟨by simp, .inr ⟨b, base, cap, aC _ _ _, by simp⟩⟩⟩⟩
  ·-- into a new block
   have hr := run_append_grow (P := P) w t o.type e inf z hu g1 g6 ⟨b, base, none⟩ elems.length cap ((vs.drop base).take (elems.length * ei.size)) (by rw [g3]; simp; omega) (by
     intro j v hj;rw [Addr.add_mid, cell_of_row w b _ ⟨vs⟩ e (0, 0) q1];rw [List.getElem?_take] at hj;split at hj
     ·rw [List.getElem?_drop] at hj;simpa using hj
     ·cases hj) ad rows.length cc news (by rw [hnl, g3]) hcell (by omega) (by omega) (by rw [g4]; exact growslice_fits (by omega) hroom)
   refine ⟨_, _, w.heap.size, _, (0, grownCap w (elems.length + rows.length) cap e), dZ ho h6 hvy1 hr, .inl (le_refl _), WChg.alloc_drew w _, ?_, fun o v e => (by rw [dY hs.inv o] at e; cases e), fun m e => le_refl _, hE _ _, ?_⟩
   ·have := hgrown _ cap q5 q0;simpa using this
   ·simp only [aQ, b5];exact ⟨⟨_, _, _, rfl⟩, .inr ⟨e, ei.size, _, aC _ _ _, by simp, fun _ => ⟨by simp, .inr ⟨w.heap.size, 0, _, aC _ _ _, by simp⟩⟩⟩⟩
theorem wA {y : V} {id te es : Nat} {elems : List (List R)} (hd : o.dst = some d) (hdn : d < n) {st' : St} {G : Ctx} {S : Sto} {μ : Mu} {a : Act} {w : World} {K : Act → World → Prop} {Q : Exit → Act → World → Prop}
  (hs : Sim G n S μ st' a w) (hown : ∀ b c', μ id = some (b, c') → ∃ ao, st'.h id = some ao) (hk : ∀ S' μ' a' w', Sim G n S' μ' (Eff.apply ⟨some (d, some y), [(id, some (.rarr te es elems))]⟩ st') a' w' → K a' w')
  (h : ∃ w' v b bo c, (execOp a.eval o).run P w = .ok (.value v) w' ∧ (w.heap.size ≤ b ∨ ∃ c', μ id = some (b, c')) ∧ WChg w w' b bo ∧ j6 S (upd μ id (some (b, c))) (upd st'.h id (some (.rarr te es elems))) w' id (.rarr te es elems) ∧
   (∀ o v, S.cell b o = some v → ∃ vs t fr, bo = .cells vs t fr ∧ vs[o]? = some v) ∧ (∀ m, S.mapo b = some m → w.heap.size ≤ b) ∧ Evolve S μ st'.h S (upd μ id (some (b, c))) (upd st'.h id (some (.rarr te es elems))) ∧ aQ S (upd μ id (some (b, c))) (upd st'.h id (some (.rarr te es elems))) y v) :
  ∀ ro, o.wpIn (Wd ro) 0 P a w K Q := by
 obtain ⟨w', v, b, bo, c, hr, hb, hw, hO, hS, hSm, hE, hv⟩ := h;refine fun ro => eX hr ?_
 rw [hd];have hi := hs.inv.chg (id := id) (cap := c) (ao := .rarr te es elems) hw (hb.imp (fun h => h) fun ⟨c', h⟩ => by obtain ⟨ao, hao⟩ := hown _ _ h; exact ⟨_, c', hao, h⟩) hE hO hS hSm;have := hs.put hi hE hdn (x := some y) (v := v) (fun z hz => by cases hz; exact hv);refine hk S (upd μ id (some (b, c))) _ _ ?_;unfold Eff.apply;rw [cD];exact this
theorem zG {t e : TypeId} {i ei : TI} {x y : Operand} {id id2 sz te2 : Nat} {elems rows : List (List R)} (hT : Tok P T) (ho : o.op = .call { callee := .builtin .append, args := #[x, y], argTypes := #[t, t] }) (hd : o.dst = some d) (hdn : d < n)
  (hi : T[t]? = some (some i)) (hk : i.k = .sl e) (hei : T[e]? = some (some ei)) (hes : Nat.ble 1 ei.size = true) (heb : Nat.ble 1 ei.bytes = true)
  (hx : opv st x = some (.one (.ra id 0 sz sz))) (hh : st.h id = some (.rarr e ei.size elems)) (hsz : sz = elems.length) (hy : opv st y = some (.one (.ra id2 0 rows.length rows.length))) (hh2 : st.h id2 = some (.rarr te2 ei.size rows)) (hpos : 0 < rows.length)
  (hroom : (elems.length + rows.length) * ei.bytes ≤ 140737488355328) :
  Step P n o st ⟨opr x ++ opr y, [id, id2]⟩ ⟨some (d, some (.one (.ra id 0 (elems.length + rows.length) (elems.length + rows.length)))), [(id, some (.rarr e ei.size (elems ++ rows)))]⟩ := by
 intro st' ha G S μ a w K Q hs hk';have hvx := aH hs hx fun t ht => ha.1 t (by simp [ht])
 have hvy := aH hs hy fun t ht => ha.1 t (by simp [ht])
 have hh' : st'.h id = some (.rarr e ei.size elems) := by rw [ha.2 id (by simp), hh]
 have hh2' : st'.h id2 = some (.rarr te2 ei.size rows) := by rw [ha.2 id2 (by simp), hh2]
 exact wA hd hdn hs (fun _ _ _ => ⟨_, hh'⟩) hk' (oT hT ho hi hk hei hes heb hsz hpos hroom hh' hs hvx hvy hh2')
theorem Inv.emptyR {G : Ctx} {S : Sto} {μ : Mu} {H : cH} {w : World} {id : Nat} (te es : Nat) (h : Inv G S μ H w) (hid : H id = none) : Inv G S (upd μ id none) (upd H id (some (.rarr te es []))) w ∧ Evolve S μ H S (upd μ id none) (upd H id (some (.rarr te es []))) := by
 have hE : Evolve S μ H S (upd μ id none) (upd H id (some (.rarr te es []))) := eB hid _ _;refine ⟨⟨h.holds, fun j x hj => ?_, fun i j x x' b c c' hi hj hm hm' => ?_, fun i x b c hi hm => ?_, h.frame, h.sle, h.sto, h.evo.trans hE, h.fre⟩, hE⟩
 ·by_cases hne : j = id
  ·subst hne;rw [aC] at hj; cases hj;exact ⟨by simp, .inl ⟨aC _ _ _, rfl⟩⟩
  ·rw [aT _ _ _ hne] at hj;exact (h.obj j x hj).evolve hE (aT _ _ _ hne) fun _ _ _ => ⟨rfl, fun _ => rfl, rfl⟩
 ·have h1 : i ≠ id := fun e => by subst e; rw [aC] at hm; cases hm
  have h2 : j ≠ id := fun e => by subst e; rw [aC] at hm'; cases hm'
  rw [aT _ _ _ h1] at hi hm;rw [aT _ _ _ h2] at hj hm';exact h.inj i j x x' b c c' hi hj hm hm'
 ·have h1 : i ≠ id := fun e => by subst e; rw [aC] at hm; cases hm
  rw [aT _ _ _ h1] at hi hm;exact h.own i x b c hi hm
theorem xM {t e : TypeId} {i ei : TI} {x y : Operand} {id2 te2 : Nat} {rows : List (List R)} (id : Nat) (hT : Tok P T) (ho : o.op = .call { callee := .builtin .append, args := #[x, y], argTypes := #[t, t] }) (hd : o.dst = some d) (hdn : d < n)
  (hi : T[t]? = some (some i)) (hk : i.k = .sl e) (hei : T[e]? = some (some ei)) (hes : Nat.ble 1 ei.size = true) (heb : Nat.ble 1 ei.bytes = true)
  (hx : opv st x = some (.one (.c .nl))) (hid : st.h id = none) (hy : opv st y = some (.one (.ra id2 0 rows.length rows.length))) (hh2 : st.h id2 = some (.rarr te2 ei.size rows)) (hpos : 0 < rows.length)
  (hroom : rows.length * ei.bytes ≤ 140737488355328) :
  Step P n o st ⟨opr x ++ opr y, [id, id2]⟩ ⟨some (d, some (.one (.ra id 0 rows.length rows.length))), [(id, some (.rarr e ei.size rows))]⟩ := by
 intro st' ha G S μ a w K Q hs hk';have hid' : st'.h id = none := by rw [ha.2 id (by simp), hid]
 obtain ⟨hi', hE⟩ := hs.inv.emptyR e ei.size hid';have hs2 : Sim G n S (upd μ id none) ⟨st'.e, upd st'.h id (some (.rarr e ei.size [])), st'.d⟩ a w := ⟨hi', hs.size, hs.defers.evolve hE, fun t v e => aQ.evolve hE v _ (hs.env t v e)⟩
 have hvx := aH hs hx fun t ht => ha.1 t (by simp [ht])
 have hvy := aH hs hy fun t ht => ha.1 t (by simp [ht])
 have hh2' : st'.h id2 = some (.rarr te2 ei.size rows) := by rw [ha.2 id2 (by simp), hh2]
 simp only [aQ, b5, Rep] at hvx;have hvx' : aQ S (upd μ id none) (upd st'.h id (some (.rarr e ei.size []))) (.one (.ra id 0 0 0)) (a.eval x) := by
  simp only [aQ, b5];exact ⟨⟨_, _, _, hvx⟩, .inr ⟨e, ei.size, [], aC _ _ _, le_refl _, fun _ => ⟨le_refl _, .inl ⟨aC _ _ _, rfl, hvx⟩⟩⟩⟩
 have hne : id2 ≠ id := fun e => by subst e; rw [hid'] at hh2'; cases hh2'
 have := oT (elems := []) (id := id) hT ho hi hk hei hes heb rfl hpos (by simpa using hroom) (aC _ _ _) hs2 hvx' (aQ.evolve hE _ _ hvy) (by
  show upd st'.h id (some (.rarr e ei.size [])) id2 = _;rw [aT _ _ _ hne]
  exact hh2')
 refine wA hd hdn hs2 (fun _ _ _ => ⟨_, aC _ _ _⟩) (fun S' μ' a' w' h => hk' S' μ' a' w' ?_) this;have e1 : Eff.apply ⟨some (d, some (.one (.ra id 0 (([] : List (List R)).length + rows.length) (([] : List (List R)).length + rows.length)))), [(id, some (.rarr e ei.size ([] ++ rows)))]⟩ ⟨st'.e, upd st'.h id (some (.rarr e ei.size [])), st'.d⟩
   = Eff.apply ⟨some (d, some (.one (.ra id 0 rows.length rows.length))), [(id, some (.rarr e ei.size rows))]⟩ st' := by
  unfold Eff.apply;rw [cD, cD, jC];simp
 rw [e1] at h;exact h
theorem Sub.ownR {kf : List Nat} {st : St} {t id : Nat} (te es : Nat) (h : st.e t = some (.one (.c .nl))) (hid : st.h id = none) : Sub kf ⟨upd st.e t (some (.one (.ra id 0 0 0))), upd st.h id (some (.rarr te es [])), st.d⟩ st := by
 intro G n S μ a w _ hs;obtain ⟨hi, hE⟩ := hs.inv.emptyR te es hid;refine ⟨S, upd μ id none, ⟨hi, hs.size, hs.defers.evolve hE, fun s v e => ?_⟩⟩;by_cases hst : s = t
 ·subst hst;have hv := hs.env s _ h;have e' : v = .one (.ra id 0 0 0) := by
   have : some v = some (V.one (.ra id 0 0 0)) := by rw [← e]; exact aC _ _ _
   cases this; rfl
  subst e';simp only [aQ, b5, Rep] at hv ⊢;exact ⟨⟨_, _, _, hv⟩, .inr ⟨te, es, [], aC _ _ _, le_refl _, fun _ => ⟨le_refl _, .inl ⟨aC _ _ _, rfl, hv⟩⟩⟩⟩
 ·have e' : st.e s = some v := by rw [← e]; exact (aT _ _ _ hst).symm
  exact aQ.evolve hE v _ (hs.env s v e')
end
section
variable {P : Program} {n : Nat} {o : Oper} {st : St} {d : Nat} {T : TT}
theorem aE7 {src dst : TypeId} {i j : TI} {x : Operand} {k k' : IntKind} {m : Int} (hT : Tok P T) (ho : o.op = .convert src dst x) (hd : o.dst = some d) (hdn : d < n) (hi : T[src]? = some (some i)) (hik : i.k = .int k) (hj : T[dst]? = some (some j)) (hjk : j.k = .int k')
  (hx : opv st x = some (I k m)) : Step P n o st ⟨opr x, []⟩ ⟨some (d, some (I k' (k'.wrap m))), []⟩ := by
 refine Step.value hd hdn fun st' ha G S μ a w hs => ?_
 have hv := dX (aH hs hx ha.1);refine ⟨.int k' (k'.wrap m), ?_, by simp [aQ, b5, Rep]⟩;have h1 := (hT.get hi).int hik;have h2 := (hT.get hj).int hjk;simp only [execOp, ho, hv, Sem.run_bind, convert, run_underlying h1 w, run_underlying h2 w, Result.andThen_ok, Conv.intToInt, Sem.run_pure]
theorem aE8 {src dst e : TypeId} {i j ei : TI} {x : Operand} {v : V} {ids : List Nat} {rows : List (List C)} {ns : List Int} (hT : Tok P T) (ho : o.op = .convert src dst x) (hd : o.dst = some d) (hdn : d < n) (hi : T[src]? = some (some i)) (hik : i.k = .sl e) (hei : T[e]? = some (some ei)) (hek : ei.k = .int .u8)
  (hj : T[dst]? = some (some j)) (hjk : j.k = .str) (hx : opv st x = some v) (hsrc : Src st 1 ids v rows) (hr : rows = ns.map fun m => [C.int .u8 m]) : Step P n o st ⟨opr x, ids⟩ ⟨some (d, some (Go.AM.T (ns.map fun m => UInt8.ofNat m.toNat))), []⟩ := by
 refine Step.value hd hdn fun st' ha G S μ a w hs => ?_
 have hv := aH hs hx ha.1;obtain ⟨ad, c, news, h1, h2, h3, h4, h5⟩ := hsrc.rel hs ha.2 hv;have hsu := (hT.get hi).slice hik;have heu := (hT.get hei).int hek;have hdu := (hT.get hj).str hjk;have hnews : ∀ (ns : List Int) (news : List Value), bR S (ns.map fun m => [C.int .u8 m]).flatten news → news = ns.map (Value.int .u8) := by
  intro ns
  induction ns with
  | nil => intro news h; simpa [bR] using h
  | cons m ns ih =>
   intro news h;simp only [map_cons, flatten_cons, List.singleton_append, bR, Rep] at h;obtain ⟨u, us, rfl, rfl, h⟩ := h;rw [ih us h]; rfl
 rw [hr] at h2;have hn := hnews ns news h2;have hrun : (convert src dst (a.eval x)).run P w = .ok (.string ⟨⟨ns.map fun m => UInt8.ofNat m.toNat⟩⟩) w := by
  rw [h1];cases ad with
  | none =>
   have h6 := h4 rfl;rw [hr] at h6;have : ns = [] := by simpa using h6
   subst this;exact run_convert_bytes_nil w src e hsu heu _ _ dst hdu
  | some ad =>
   have hlen : rows.length = ns.length := by rw [hr]; simp
   have hl : (loadCells ad ns.length).run P w = .ok (ns.map (Value.int .u8)).toArray w := by
    have := run_loadCells_list (P := P) w ad (ns.map (Value.int .u8)) (fun j v hj => h5 ad rfl j v (by rw [hn]; exact hj));simpa using this
   rw [hlen, run_convert_bytes_string w src dst e _ _ _ hsu heu hdu, run_bytesToString w _ _ _ ns hl, foldl_push_bytes];simp [ByteArray.empty, ByteArray.emptyWithCapacity];rfl
 refine ⟨.string ⟨⟨ns.map fun m => UInt8.ofNat m.toNat⟩⟩, ?_, by simp [aQ, b5, Rep]⟩;simp only [execOp, ho, Sem.run_bind, hrun, Result.andThen_ok, Sem.run_pure]
theorem aZ.length {S : Sto} {agg : Bool} : ∀ {l : List (List C)} {es : List MapEntry}, aZ S agg l es → es.length = l.length
 | [], es, h => by simp only [aZ] at h; subst h; rfl
 | r :: rs, es, h => by
  simp only [aZ] at h;obtain ⟨e, es', rfl, _, h⟩ := h;simp [aZ.length h]
theorem zD {t kt et : TypeId} {i : TI} {x : Operand} {id : Nat} {agg : Bool} {ents : List (List C)} (hT : Tok P T) (ho : o.op = .call { callee := .builtin .len, args := #[x], argTypes := #[t] }) (hd : o.dst = some d) (hdn : d < n) (hi : T[t]? = some (some i)) (hk : i.k = .mp kt et)
  (hx : opv st x = some (.one (.mr id))) (hh : st.h id = some (.map agg ents)) (hms : i4 ents) : Step P n o st ⟨opr x, [id]⟩ ⟨some (d, some (I .i64 (ents.length : Int))), []⟩ := by
 refine Step.value hd hdn fun st' ha G S μ a w hs => ?_
 have hv := aH hs hx ha.1;have hh' : st'.h id = some (.map agg ents) := by rw [ha.2 id (by simp), hh]
 simp only [aQ, b5] at hv;obtain ⟨agg', ents', b, c, h1, h2, h3⟩ := hv;rw [hh'] at h1; cases h1;obtain ⟨b', es, clk, q1, q2, q3, q4⟩ := hs.inv.obj id _ hh';rw [h2] at q1; cases q1;have hl := (q3.rep hms).length;refine ⟨goInt ents.length, gQ ho h3 ?_, by simp [aQ, b5, Rep, goInt]⟩;have hg : (getObj b).run P w = .ok (.map es clk) w := MapKept.run_getObj_map q2;simp at hl;simp [Builtin.len_, run_underlying ((hT.get hi).map hk) w, hg, hl]
end
section
variable {P : Program} {n : Nat} {T : TT} {o : Oper} {st : St} {d : Nat}
theorem mK {t e : TypeId} {i ei : TI} {x y : Operand} {n' es k : Nat} {kk : IntKind} {m : Int} {l r : List R} (hT : Tok P T) (ho : o.op = .indexAddr t x y) (hd : o.dst = some d) (hdn : d < n) (hi : T[t]? = some (some i)) (hk : i.k = .sl e) (hei : T[e]? = some (some ei)) (hes : ei.size = es)
  (hx : opv st x = some (.one (.ras n' es l))) (hy : opv st y = some (I kk m)) (hm : m = (k : Int)) (hlt : k < n') (hr : (l.drop (k * es)).take es = r) : Step P n o st ⟨opr x ++ opr y, []⟩ ⟨some (d, some (.one (.pas r))), []⟩ := by
 refine Step.value hd hdn fun st' ha G S μ a w hs => ?_
 have hv := aH hs hx (dH ha).1;have hv2 := dX (aH hs hy (dH ha).2);simp only [aQ, b5] at hv;obtain ⟨ad, cap, h1, h2, h3, h4, h5, h6, b, off, h7, vs, h8, h9⟩ := hv;cases ad with
 | none => have := (h5 rfl).1; omega
 | some ad =>
  obtain ⟨h10, h10'⟩ := h7 ad rfl;have h11 := h6 ad rfl;have had : ad = ⟨b, off, none⟩ := by cases ad; simp_all
  subst had;subst hm;refine ⟨.pointer (some ⟨b, off + k * es, none⟩), ?_, ?_⟩
  ·simp only [execOp, ho, h1, hv2, Sem.run_bind, gS hT hi hk hei w b off n' cap k kk hlt, Result.andThen_ok, Sem.run_pure, hes]
  ·simp only [aQ, b5];subst hr;refine ⟨b, off + k * es, rfl, (vs.drop (k * es)).take es, (h8.drop (k * es)).take es, fun j v hj => ?_⟩;rw [List.getElem?_take] at hj;split at hj
   ·rw [List.getElem?_drop] at hj;have := h9 _ v hj;rwa [← add_assoc] at this
   ·cases hj
theorem xF {t : TypeId} {i : TI} {x : Operand} {l : List R} {y : V} (hT : Tok P T) (ho : o.op = .load t x) (hd : o.dst = some d) (hdn : d < n) (hi : T[t]? = some (some i)) (hx : opv st x = some (.one (.pas l)))
  (hl : i.size ≤ l.length) (hy : nO i (l.take i.size) = some y) : Step P n o st ⟨opr x, []⟩ ⟨some (d, some y), []⟩ := by
 refine Step.value hd hdn fun st' ha G S μ a w hs => ?_
 have hv := aH hs hx ha.1;simp only [aQ, b5] at hv;obtain ⟨b, off, h1, vs, h2, h3⟩ := hv;have hvl := h2.length;refine ⟨_, ?_, iH (h2.take i.size) hy⟩;have hr := j9 hs.inv.holds h3;have hr' : w.rangeAt b off (vs.take i.size) := fun j v hj => by
  rw [List.getElem?_take] at hj;split at hj
  ·exact hr j v hj
  ·cases hj
 simp only [execOp, ho, h1, Sem.run_bind, run_load (hT.get hi) w b off _ hr' (by simp; omega), Result.andThen_ok, Sem.run_pure]
theorem tT {t ft : TypeId} {i fi : TI} {fs : List (Nat × TypeId)} {f foff : Nat} {x : Operand} {l : List R} (hT : Tok P T) (ho : o.op = .fieldAddr t x f) (hd : o.dst = some d) (hdn : d < n) (hi : T[t]? = some (some i)) (hk : i.k = .st fs) (hf : fs[f]? = some (foff, ft)) (hfi : T[ft]? = some (some fi)) (hz : fi.size ≠ 0)
  (hx : opv st x = some (.one (.pas l))) : Step P n o st ⟨opr x, []⟩ ⟨some (d, some (.one (.pas (l.drop foff)))), []⟩ := by
 refine Step.value hd hdn fun st' ha G S μ a w hs => ?_
 have hv := aH hs hx ha.1;simp only [aQ, b5] at hv;obtain ⟨b, off, h1, vs, h2, h3⟩ := hv;refine ⟨.pointer (some ⟨b, off + foff, none⟩), ?_, ?_⟩
 ·simp only [execOp, ho, h1, Sem.run_bind, fF hT hi hk hf hfi hz, Result.andThen_ok, Sem.run_pure]
 ·simp only [aQ, b5];refine ⟨b, off + foff, rfl, vs.drop foff, h2.drop foff, fun j v hj => ?_⟩;rw [List.getElem?_drop] at hj;have := h3 (foff + j) v hj;rwa [← add_assoc] at this
theorem zC {t e : TypeId} {i : TI} {x : Operand} {n' es : Nat} {l : List R} (hT : Tok P T) (ho : o.op = .call { callee := .builtin .len, args := #[x], argTypes := #[t] }) (hd : o.dst = some d) (hdn : d < n) (hi : T[t]? = some (some i)) (hk : i.k = .sl e)
  (hx : opv st x = some (.one (.ras n' es l))) : Step P n o st ⟨opr x, []⟩ ⟨some (d, some (I .i64 (n' : Int))), []⟩ := by
 refine Step.value hd hdn fun st' ha G S μ a w hs => ?_
 have hv := aH hs hx ha.1;simp only [aQ, b5] at hv;obtain ⟨ad, cap, h1, _⟩ := hv;refine ⟨goInt n', gQ ho h1 ?_, by simp [aQ, b5, Rep, goInt]⟩;simp [Builtin.len_, run_underlying ((hT.get hi).slice hk) w]
theorem xB {t te es : Nat} {i : TI} {x y : Operand} {id k fo sz : Nat} {elems : List (List R)} {v : V} {cs r : List R} (hT : Tok P T) (ho : o.op = .store t x y) (hd : o.dst = none) (hi : T[t]? = some (some i)) (hx : opv st x = some (.one (.rp id k fo sz)))
  (hy : opv st y = some v) (hc : eW v = some cs) (hh : st.h id = some (.rarr te es elems)) (hsz : sz = elems.length) (hr : elems[k]? = some r) (hcs : cs.length = i.size) (hl : fo + i.size ≤ es) :
  Step P n o st ⟨opr x ++ opr y, [id]⟩ ⟨none, [(id, some (.rarr te es (elems.set k (bU r fo cs))))]⟩ := by
 refine Step.turn hd hh (by simp) (by simp [AObj.succ]) fun st' ha hh' G S μ a w hs => ?_
 have hvx := aH hs hx fun t ht => ha.1 t (by simp [ht])
 have hvy := aH hs hy fun t ht => ha.1 t (by simp [ht])
 simp only [aQ, b5] at hvx;obtain ⟨_, hv | ⟨te', es', elems', h1, h2, h3⟩⟩ := hvx
 ·rw [hh'] at hv; cases hv
 rw [hh'] at h1; cases h1;obtain ⟨h4, b, base, cap, h5, h6⟩ := h3 hsz;obtain ⟨g0, vs, g1, g2, g3, g4, g5, g6⟩ := (hs.inv.obj id _ hh').rarr h5;have hrel := dD hvy hc;have hrep := hrel;have hone := hrel.one;have hnl := hrep.length;have hk : k < elems.length := (List.getElem?_eq_some_iff.1 hr).1
 have hres : r.length = es := g0 r (List.mem_of_getElem? hr);have hke : (k + 1) * es ≤ elems.length * es := mul_le_mul_right _ hk;have hce : elems.length * es ≤ cap * es := mul_le_mul_right _ g3;rw [add_mul] at hke;generalize hnews : (a.eval y).cells.toList = news at *;have hrun := run_store (hT.get hi) w b (base + k * es + fo) vs news te (a.eval y) g1 hnews (by omega) (by omega) hone;have hE := hD (S := S) (μ := μ) (o' := .rarr te es (elems.set k (bU r fo cs))) hh' h5 (by simp [AObj.succ]);have hrow := yY g0 g5 hr;have hflat := u4 g0 k r hr;have hlen : (elems.set k (bU r fo cs)).length = elems.length := by simp
 have hW := WChg.setRow w b ⟨vs⟩ ⟨vs.take (base + k * es + fo) ++ news ++ vs.drop (base + k * es + fo + news.length)⟩ te (0, 0) g1;refine ⟨_, _, b, (base, cap), ?_, h5, hW, ⟨?_, .inr ⟨b, base, cap, _, aC _ _ _, hW.new, ?_, by rw [hlen]; exact g3, g4, ?_, g6⟩⟩, fun o v e => ?_, fun m e => fM g4.2 m e⟩
 ·simp only [execOp, ho, h6, Sem.run_bind, hrun, Result.andThen_ok, Sem.run_pure]
 ·intro q hq;rcases List.mem_or_eq_of_mem_set hq with hq | rfl
  ·exact g0 q hq
  ·unfold bU;simp;omega
 ·simp only [length_append, length_take, length_drop];omega
 ·rw [hlen];have e1 : (elems.set k (bU r fo cs)).flatten = elems.flatten.take (k * es) ++ (r.take fo ++ cs ++ r.drop (fo + cs.length)) ++ elems.flatten.drop (k * es + es) := by
   rw [set_eq_take_append_cons_drop, if_pos hk, flatten_append, flatten_cons, hflat.1, hflat.2, ← append_assoc];rfl
  have e2 : ((vs.take (base + k * es + fo) ++ news ++ vs.drop (base + k * es + fo + news.length)).drop base).take (elems.length * es) =
    ((vs.drop base).take (elems.length * es)).take (k * es) ++ ((((vs.drop (base + k * es)).take es).take fo) ++ news ++ (((vs.drop (base + k * es)).take es).drop (fo + cs.length))) ++ ((vs.drop base).take (elems.length * es)).drop (k * es + es) := by
   apply List.ext_getElem?;intro j;simp only [List.getElem?_take, List.getElem?_drop, List.getElem?_append, length_append, length_take, length_drop];have hm1 : min (k * es) (min (elems.length * es) (vs.length - base)) = k * es := by omega
   have hm2 : min (base + k * es + fo) vs.length = base + k * es + fo := by omega
   have hm3 : min fo es = fo := by omega
   have hm4 : min es (vs.length - (base + k * es)) = es := by omega
   simp only [hm1, hm2, hm3, hm4, hnl];by_cases c1 : j < k * es
   ·have a1 : j < elems.length * es := by omega
    have a2 : base + j < base + k * es + fo := by omega
    have a3 : base + j < base + k * es + fo + cs.length := by omega
    have a4 : j < k * es + (fo + cs.length + (es - (fo + cs.length))) := by omega
    simp [c1, a1, a2, a3, a4]
   ·by_cases c2 : j < k * es + fo
    ·have a1 : j < elems.length * es := by omega
     have a2 : base + j < base + k * es + fo := by omega
     have a3 : base + j < base + k * es + fo + cs.length := by omega
     have a4 : j < k * es + (fo + cs.length + (es - (fo + cs.length))) := by omega
     have a5 : j - k * es < fo + cs.length := by omega
     have a6 : j - k * es < fo := by omega
     have a7 : j - k * es < es := by omega
     simp [c1, a1, a2, a3, a4, a5, a6, a7, show base + k * es + (j - k * es) = base + j by omega]
    ·by_cases c3 : j < k * es + fo + cs.length
     ·have a1 : j < elems.length * es := by omega
      have a2 : ¬ base + j < base + k * es + fo := by omega
      have a3 : base + j < base + k * es + fo + cs.length := by omega
      have a4 : j < k * es + (fo + cs.length + (es - (fo + cs.length))) := by omega
      have a5 : j - k * es < fo + cs.length := by omega
      have a6 : ¬ j - k * es < fo := by omega
      simp [c1, a1, a2, a3, a4, a5, a6, show base + j - (base + k * es + fo) = j - k * es - fo by omega]
     ·by_cases c4 : j < k * es + es
      ·have a1 : j < elems.length * es := by omega
       have a3 : ¬ base + j < base + k * es + fo + cs.length := by omega
       have a4 : j < k * es + (fo + cs.length + (es - (fo + cs.length))) := by omega
       have a5 : ¬ j - k * es < fo + cs.length := by omega
       have a6 : fo + cs.length + (j - k * es - (fo + cs.length)) < es := by omega
       simp [c1, a1, a3, a4, a5, a6, show base + k * es + fo + cs.length + (base + j - (base + k * es + fo + cs.length)) = base + j by omega, show base + k * es + (fo + cs.length + (j - k * es - (fo + cs.length))) = base + j by omega]
      ·have a3 : ¬ base + j < base + k * es + fo + cs.length := by omega
       have a4 : ¬ j < k * es + (fo + cs.length + (es - (fo + cs.length))) := by omega
       by_cases c5 : j < elems.length * es
       ·have a5 : k * es + es + (j - (k * es + (fo + cs.length + (es - (fo + cs.length))))) < elems.length * es := by omega
        simp [a3, a4, c5, a5, show base + k * es + fo + cs.length + (base + j - (base + k * es + fo + cs.length)) = base + j by omega, show base + (k * es + es + (j - (k * es + (fo + cs.length + (es - (fo + cs.length)))))) = base + j by omega]
       ·have a5 : ¬ k * es + es + (j - (k * es + (fo + cs.length + (es - (fo + cs.length))))) < elems.length * es := by omega
        simp [a4, c5, a5]
  rw [e1];show aO S _ _ _ (((vs.take (base + k * es + fo) ++ news ++ vs.drop (base + k * es + fo + news.length)).drop base).take (elems.length * es));rw [e2];refine aO.evolve hE _ _ ?_;exact ((g5.take (k * es)).append (((hrow.take fo).append hrep).append (hrow.drop (fo + cs.length)))).append (g5.drop (k * es + es))
 ·-- what stays is not touched
  by_cases hb : base ≤ o
  ·rw [g6 o hb] at e; cases e
  ·obtain ⟨vs0, t0, fr0, q1, q2⟩ := hs.inv.holds.1 b o v e;rw [g1] at q1; cases q1;refine ⟨_, _, _, rfl, ?_⟩;simp only [List.getElem?_toArray] at q2 ⊢;have hlt : o < vs.length := (List.getElem?_eq_some_iff.1 q2).1
   rw [append_assoc, List.getElem?_append_left (by simp; omega), List.getElem?_take, if_pos (by omega)];exact q2
end
def frc {α : Type} : List α → Option (List α)
 | [] => some []
 | x :: xs => (frc xs).bind fun l => some (x :: l)
theorem i0 {α : Type} : ∀ l : List α, frc l = some l
 | [] => rfl
 | x :: xs => by simp [frc, i0 xs]
def tak {α : Type} : Nat → List α → Option (List α)
 | 0, _ => some []
 | _ + 1, [] => none
 | k + 1, x :: xs => (tak k xs).bind fun l => some (x :: l)
theorem mH {α : Type} : ∀ {k : Nat} {l r : List α}, tak k l = some r → k ≤ l.length ∧ l.take k = r
 | 0, l, r, h => by simp [tak] at h; simp [h]
 | k + 1, [], r, h => by simp [tak] at h
 | k + 1, x :: xs, r, h => by
  simp only [tak, Option.bind_eq_some_iff] at h;obtain ⟨l, h1, h2⟩ := h;cases h2;obtain ⟨h3, h4⟩ := mH h1;exact ⟨by simp; omega, by simp [h4]⟩
inductive Tr where
 | leaf (o : Option TI)
 | node (k : Nat) (l r : Tr)
def Tr.get : Tr → Nat → Option TI
 | .leaf o, t => bif Nat.beq t 0 then o else none
 | .node k l r, t => bif Nat.blt t k then l.get t else r.get (t - k)
def Tr.flat : Tr → TT
 | .leaf o => [o]
 | .node _ l r => l.flat ++ r.flat
def Tr.wf : Tr → Bool
 | .leaf _ => true
 | .node k l r => Nat.beq k l.flat.length && (l.wf && r.wf)
theorem Tr.get_ok : ∀ {tr : Tr} {t : Nat} {i : TI}, tr.wf = true → tr.get t = some i → tr.flat[t]? = some (some i)
 | .leaf o, t, i, _, h => by
  simp only [Tr.get] at h;cases hb : Nat.beq t 0 with
  | false => rw [hb] at h; cases h
  | true =>
   rw [hb] at h;have := eq_of_beq_eq_true hb;subst this;simp only [cond_true] at h;simp [Tr.flat, h]
 | .node k l r, t, i, hw, h => by
  simp only [Tr.wf, Bool.and_eq_true] at hw;have hk := eq_of_beq_eq_true hw.1;simp only [Tr.get] at h;simp only [Tr.flat, List.getElem?_append];cases hb : Nat.blt t k with
  | true =>
   rw [hb] at h;have : t < k := le_of_ble_eq_true hb;rw [if_pos (by omega)];exact Tr.get_ok hw.2.1 h
  | false =>
   rw [hb] at h;have : ¬ t < k := fun hlt => by
    have : Nat.blt t k = true := Nat.ble_eq_true_of_le hlt;rw [hb] at this; cases this
   rw [if_neg (by omega), ← hk];exact Tr.get_ok hw.2.2 h
def gF : List Prop → Prop
 | [] => True
 | p :: l => p ∧ gF l
def fJ (md : Bool) (p : Prop) [Decidable p] (ob : List Prop) : Option (List Prop) := bif md then some (p :: ob) else bif decide p then some ob else none
theorem aS {md : Bool} {p : Prop} [Decidable p] {ob ob' : List Prop} (h : fJ md p ob = some ob') : gF ob' → gF ob ∧ p := by
 unfold fJ at h;cases md with
 | true => cases h; exact fun h => ⟨h.2, h.1⟩
 | false =>
  simp only [cond_false] at h;cases hp : decide p with
  | false => rw [hp] at h; cases h
  | true => rw [hp] at h; cases h; exact fun h => ⟨h, of_decide_eq_true hp⟩
inductive Hn where
 | no
 | id (n : Nat)
 | bv (b : Bool)
 | row (k : Nat) (r : List C)
 | all
 | look (r : Option (List C))
 | c (rows : List (List C))
 | byte (k : Nat) (b : UInt8)
 | pc (res : V)
 | fz
 | rr (r : List R)
 | rowR (k : Nat) (r : List R)
def aC0 : List (Nat × Hn) → Nat → Hn
 | [], _ => .no
 | (k, h) :: l, i => bif Nat.beq i k then h else aC0 l i
abbrev Ans := Option (Rd × Eff × List Prop)
def Snd (P : Program) (n : Nat) (o : Oper) (st : St) (ob : List Prop) (r : Ans) : Prop := ∀ rd f ob', r = some (rd, f, ob') → gF ob' → gF ob ∧ Step P n o st rd f
def val (o : Oper) (n : Nat) (rd : Rd) (v : V) (h : List (Nat × Option AObj)) (ob : List Prop) : Ans :=
 match o.dst with
 | some d => bif Nat.blt d n then some (rd, ⟨some (d, some v), h⟩, ob) else none
 | none => none
def eff (o : Oper) (rd : Rd) (h : List (Nat × Option AObj)) (ob : List Prop) : Ans :=
 match o.dst with
 | none => some (rd, ⟨none, h⟩, ob)
 | some _ => none
def opO (st : St) : Operand → Option V
 | .tmp t => st.e t
 | .const v => match v with
  | .int k n => some (.one (.c (.int k n)))
  | .bool b => some (.one (.c (.bool b)))
  | .string ⟨⟨l⟩⟩ => some (.one (.c (.str l)))
  | .slice none 0 0 => some (.one (.c .nl))
  | .pointer none => some (.one (.c .np))
  | .map none => some (.one (.c (.zv 0)))
  | .nilFunc => some (.one (.c (.zv 1)))
  | .nilIface => some (.one (.c (.zv 2)))
  | _ => none
 | .func f => some (.one (.clo f []))
 | .global _ => none
theorem bY (st : St) (x : Operand) : opO st x = opv st x := by
 cases x with
 | const v =>
  cases v with
  | string s => obtain ⟨⟨l⟩⟩ := s; rfl
  | slice a l c =>
   cases a with
   | some _ => rfl
   | none =>
    cases l with
    | zero => cases c <;> rfl
    | succ _ => rfl
  | pointer p => cases p <;> rfl
  | map m => cases m <;> rfl
  | _ => rfl
 | _ => rfl
def aId (rs : List R) : Option V := match fV rs with | some l => some (.pa l) | none => some (.ma rs)
theorem aBm (rs : List R) : aId rs = some (aGj rs) := by
 unfold aId aGj;cases fV rs <;> rfl
def xV (i : TI) (rs : List R) : Option V := bif i.k.agg then aId rs else match rs with | [r] => some (.one r) | _ => none
theorem m9 (i : TI) (rs : List R) : xV i rs = nO i rs := by
 unfold xV nO;cases i.k.agg
 ·rfl
 ·exact aBm rs
def w7 (i : TI) (l : List C) : Option V := bif i.k.agg then some (.pa l) else match l with | [c] => some (.one (.c c)) | _ => none
theorem rP (i : TI) (l : List C) : w7 i l = xW i l := by
 unfold w7 xW;cases i.k.agg <;> rfl
def iO (v : V) : Option (List R) := (eW v).bind frc
theorem fS (v : V) : iO v = eW v := by
 unfold iO;cases eW v with
 | none => rfl
 | some l => simp [i0]
theorem dC {α : Type} {b : Bool} {x : Option α} {y : α} (h : (bif b then x else none) = some y) : b = true ∧ x = some y := by
 cases b
 ·cases h
 ·exact ⟨rfl, h⟩
theorem lK {d n : Nat} (h : Nat.blt d n = true) : d < n := le_of_ble_eq_true h
theorem aGm {o : Oper} {n : Nat} {rd rd' : Rd} {v : V} {h : List (Nat × Option AObj)} {ob ob' : List Prop} {f : Eff} (e : val o n rd v h ob = some (rd', f, ob')) : ∃ d, o.dst = some d ∧ d < n ∧ rd' = rd ∧ f = ⟨some (d, some v), h⟩ ∧ ob' = ob := by
 unfold val at e;split at e
 ·rename_i d hd;obtain ⟨h1, h2⟩ := dC e;cases h2;exact ⟨d, hd, lK h1, rfl, rfl, rfl⟩
 ·cases e
theorem aHo {o : Oper} {rd rd' : Rd} {h : List (Nat × Option AObj)} {ob ob' : List Prop} {f : Eff} (e : eff o rd h ob = some (rd', f, ob')) : o.dst = none ∧ rd' = rd ∧ f = ⟨none, h⟩ ∧ ob' = ob := by
 unfold eff at e;split at e
 ·rename_i hd;cases e;exact ⟨hd, rfl, rfl, rfl⟩
 ·cases e
theorem Snd.val {P : Program} {n : Nat} {o : Oper} {st : St} {ob ob' : List Prop} {rd : Rd} {v : V} {h : List (Nat × Option AObj)} (hk : ∀ d, o.dst = some d → d < n → gF ob' → gF ob ∧ Step P n o st rd ⟨some (d, some v), h⟩) : Snd P n o st ob (Go.AM.val o n rd v h ob') := by
 intro rd' f ob'' e hc;obtain ⟨d, h1, h2, rfl, rfl, rfl⟩ := aGm e;exact hk d h1 h2 hc
theorem Snd.eff {P : Program} {n : Nat} {o : Oper} {st : St} {ob ob' : List Prop} {rd : Rd} {h : List (Nat × Option AObj)} (hk : o.dst = none → gF ob' → gF ob ∧ Step P n o st rd ⟨none, h⟩) : Snd P n o st ob (Go.AM.eff o rd h ob') := by
 intro rd' f ob'' e hc;obtain ⟨h1, rfl, rfl, rfl⟩ := aHo e;exact hk h1 hc
theorem Snd.none {P : Program} {n : Nat} {o : Oper} {st : St} {ob : List Prop} : Snd P n o st ob none := by
 intro rd f ob' e; cases e
theorem Snd.bind {P : Program} {n : Nat} {o : Oper} {st : St} {ob : List Prop} {α : Type} {x : Option α} {k : α → Ans} (h : ∀ y, x = some y → Snd P n o st ob (k y)) : Snd P n o st ob (x.bind k) := by
 intro rd f ob' e;rw [Option.bind_eq_some_iff] at e;obtain ⟨y, h1, h2⟩ := e;exact h y h1 rd f ob' h2
theorem Snd.cond {P : Program} {n : Nat} {o : Oper} {st : St} {ob : List Prop} {b : Bool} {r : Ans} (h : b = true → Snd P n o st ob r) : Snd P n o st ob (bif b then r else Option.none) := by
 cases b
 ·exact Snd.none
 ·exact h rfl
section
variable {P : Program} {n : Nat} {o : Oper} {st : St} {ob : List Prop} {tr : Tr} {md : Bool}
def wT (o : Oper) (n : Nat) (st : St) (ob : List Prop) (x : Operand) : Ans := (opO st x).bind fun y => val o n ⟨opr x, []⟩ y [] ob
theorem aBb {x : Operand} (ho : o.op = .move x) : Snd P n o st ob (wT o n st ob x) :=
 Snd.bind fun y hy => Snd.val fun _ hd hdn hc => ⟨hc, aG5 ho hd hdn (by rw [← bY]; exact hy)⟩
theorem uT {x : Operand} (ho : o.op = .assign x) : Snd P n o st ob (wT o n st ob x) :=
 Snd.bind fun y hy => Snd.val fun _ hd hdn hc => ⟨hc, aCl ho hd hdn (by rw [← bY]; exact hy)⟩
def aB3 (hn : Hn) (b : Bool) (ob : List Prop) : Bool × List Prop := match hn with
 | .bv w => (w, (b = w) :: ob)
 | _ => match b with
  | true => (true, ob)
  | false => (false, ob)
theorem lS {hn : Hn} {b w : Bool} {ob ob' : List Prop} (h : aB3 hn b ob = (w, ob')) : gF ob' → gF ob ∧ b = w := by
 unfold aB3 at h;split at h
 ·cases h; exact fun h => ⟨h.2, h.1⟩
 ·cases b <;> (cases h; exact fun h => ⟨h, rfl⟩)
def aEl (o : Oper) (n : Nat) (st : St) (ob : List Prop) (hn : Hn) (c x y : Operand) : Ans := (opO st c).bind fun v => match v with
 | .one (.c (.bool b)) => match aB3 hn b ob with
  | (true, ob') => (opO st x).bind fun z => val o n ⟨opr c ++ opr x, []⟩ z [] ob'
  | (false, ob') => (opO st y).bind fun z => val o n ⟨opr c ++ opr y, []⟩ z [] ob'
 | _ => none
theorem aA9 {hn : Hn} {c x y : Operand} (ho : o.op = .pick c x y) : Snd P n o st ob (aEl o n st ob hn c x y) := by
 refine Snd.bind fun v hv => ?_
 rw [bY] at hv;split
 ·rename_i b;split
  ·rename_i ob' ht;refine Snd.bind fun z hz => Snd.val fun _ hd hdn hc => ?_
   rw [bY] at hz;obtain ⟨h1, h2⟩ := lS ht hc;exact ⟨h1, aCe ho hd hdn hv h2 hz⟩
  ·rename_i ob' ht;refine Snd.bind fun z hz => Snd.val fun _ hd hdn hc => ?_
   rw [bY] at hz;obtain ⟨h1, h2⟩ := lS ht hc;exact ⟨h1, aCf ho hd hdn hv h2 hz⟩
 ·exact Snd.none
def tC (o : Oper) (n : Nat) (st : St) (ob : List Prop) (x : Operand) (i : Nat) : Ans := (opO st x).bind fun v => match v with
 | .tup l => (l[i]?).bind fun z => val o n ⟨opr x, []⟩ z [] ob
 | _ => none
theorem tB {x : Operand} {i : Nat} (ho : o.op = .extract x i) : Snd P n o st ob (tC o n st ob x i) := by
 refine Snd.bind fun v hv => ?_
 rw [bY] at hv;split
 ·exact Snd.bind fun z hz => Snd.val fun _ hd hdn hc => ⟨hc, zE ho hd hdn hv hz⟩
 ·exact Snd.none
def aBl (tr : Tr) (o : Oper) (n : Nat) (st : St) (ob : List Prop) (id : Nat) (t : TypeId) : Ans := (tr.get t).bind fun i => (frc (i.zero.map R.c)).bind fun z => match st.h id with
 | none => val o n ⟨[], [id]⟩ (.one (.vp id 0)) [(id, some (.var t z))] ob
 | some _ => none
theorem yG {id : Nat} {t : TypeId} (hw : tr.wf = true) (hT : Tok P tr.flat) (ho : o.op = .alloc t) : Snd P n o st ob (aBl tr o n st ob id t) := by
 refine Snd.bind fun i hi => Snd.bind fun z hz => ?_
 rw [i0] at hz;cases hz;split
 ·rename_i hid;exact Snd.val fun _ hd hdn hc => ⟨hc, aFc id hT ho hd hdn (Tr.get_ok hw hi) hid⟩
 ·exact Snd.none
def aH5 (o : Oper) (n : Nat) (st : St) (ob : List Prop) (id : Nat) (t : TypeId) (x : Operand) : Ans := (opO st x).bind fun v => (iO v).bind fun rs => match st.h id with
 | none => val o n ⟨opr x, [id]⟩ (.one (.vp id 0)) [(id, some (.var t rs))] ob
 | some _ => none
theorem aDo {id : Nat} {t : TypeId} {x : Operand} (ho : o.op = .box t x) : Snd P n o st ob (aH5 o n st ob id t x) := by
 refine Snd.bind fun v hv => Snd.bind fun rs hrs => ?_
 rw [bY] at hv;rw [fS] at hrs;split
 ·rename_i hid;exact Snd.val fun _ hd hdn hc => ⟨hc, aIv id ho hd hdn hv hrs hid⟩
 ·exact Snd.none
def aF5 (tr : Tr) (o : Oper) (n : Nat) (st : St) (ob : List Prop) (id : Nat) (t : TypeId) (r : Option Operand) : Ans := match r with
 | some _ => none
 | none => (tr.get t).bind fun i => match i.k with
  | .mp _ e => (tr.get e).bind fun ei => match st.h id with
   | none => val o n ⟨[], [id]⟩ (.one (.mr id)) [(id, some (.map ei.k.agg []))] ob
   | some _ => none
  | _ => none
theorem aDk {id : Nat} {t : TypeId} {r : Option Operand} (ho : o.op = .makeMap t r) : Snd P n o st ob (aF5 tr o n st ob id t r) := by
 unfold aF5;split
 ·exact Snd.none
 ·refine Snd.bind fun i hi => ?_
  split
  ·refine Snd.bind fun ei hei => ?_
   split
   ·rename_i hid;exact Snd.val fun _ hd hdn hc => ⟨hc, z5 id _ ho hd hdn hid⟩
   ·exact Snd.none
  ·exact Snd.none
def aGr (hn : Hn) (elems : List (List C)) (k : Nat) (ob : List Prop) : Option (List C × List Prop) := match hn with
 | .row _ r => some (r, (elems[k]? = some r) :: ob)
 | _ => match elems[k]? with
  | some r => some (r, ob)
  | none => none
theorem tP {hn : Hn} {elems : List (List C)} {k : Nat} {ob ob' : List Prop} {r : List C} (h : aGr hn elems k ob = some (r, ob')) : gF ob' → gF ob ∧ elems[k]? = some r := by
 unfold aGr at h;split at h
 ·cases h; exact fun h => ⟨h.2, h.1⟩
 ·split at h
  ·rename_i h1;cases h;exact fun h => ⟨h, h1⟩
  ·cases h
def aCa (hn : Hn) (elems : List (List R)) (k : Nat) (ob : List Prop) : Option (List R × List Prop) := match hn with
 | .rr r => some (r, (elems[k]? = some r) :: ob)
 | _ => match elems[k]? with
  | some r => some (r, ob)
  | none => none
theorem vG {hn : Hn} {elems : List (List R)} {k : Nat} {ob ob' : List Prop} {r : List R} (h : aCa hn elems k ob = some (r, ob')) : gF ob' → gF ob ∧ elems[k]? = some r := by
 unfold aCa at h;split at h
 ·cases h; exact fun h => ⟨h.2, h.1⟩
 ·split at h
  ·rename_i h1;cases h;exact fun h => ⟨h, h1⟩
  ·cases h
def aEm (tr : Tr) (md : Bool) (o : Oper) (n : Nat) (st : St) (ob : List Prop) (hn : Hn) (t : TypeId) (x : Operand) : Ans := (tr.get t).bind fun i => (opO st x).bind fun v => match v with
 | .one (.vp id off) => match st.h id with
  | some (.var _ cells) => bif Nat.ble (off + i.size) cells.length then (tak i.size (cells.drop off)).bind fun rs => (xV i rs).bind fun y => val o n ⟨opr x, [id]⟩ y [] ob else none
  | _ => none
 | .one (.c (.pt l)) => (tak i.size l).bind fun cs => (w7 i cs).bind fun y => val o n ⟨opr x, []⟩ y [] ob
 | .one (.pas l) => (tak i.size l).bind fun cs => (xV i cs).bind fun y => val o n ⟨opr x, []⟩ y [] ob
 | .one (.ep id k fo sz) => match st.h id with
  | some (.arr _ es elems _) => (fJ md (sz = elems.length) ob).bind fun ob1 => (aGr hn elems k ob1).bind fun (r, ob2) =>
   bif Nat.ble (fo + i.size) es then (tak i.size (r.drop fo)).bind fun cs => (w7 i cs).bind fun y => val o n ⟨opr x, [id]⟩ y [] ob2 else none
  | _ => none
 | .one (.rp id k fo sz) => match st.h id with
  | some (.rarr _ es elems) => (fJ md (sz = elems.length) ob).bind fun ob1 => (aCa hn elems k ob1).bind fun (r, ob2) =>
   bif Nat.ble (fo + i.size) es then (tak i.size (r.drop fo)).bind fun cs => (xV i cs).bind fun y => val o n ⟨opr x, [id]⟩ y [] ob2 else none
  | _ => none
 | _ => none
theorem aBc {hn : Hn} {t : TypeId} {x : Operand} (hw : tr.wf = true) (hT : Tok P tr.flat) (ho : o.op = .load t x) : Snd P n o st ob (aEm tr md o n st ob hn t x) := by
 refine Snd.bind fun i hi => Snd.bind fun v hv => ?_
 rw [bY] at hv
 replace hi := Tr.get_ok hw hi
 split
 ·rename_i id off;split
  ·rename_i tv cells hh;refine Snd.cond fun hb => Snd.bind fun rs hrs => Snd.bind fun y hy => Snd.val fun _ hd hdn hc => ⟨hc, ?_⟩
   obtain ⟨h1, h2⟩ := mH hrs;rw [m9, ← h2] at hy;exact aG6 hT ho hd hdn hi hv hh hb hy
  ·exact Snd.none
 ·rename_i l;refine Snd.bind fun cs hcs => Snd.bind fun y hy => Snd.val fun _ hd hdn hc => ⟨hc, ?_⟩
  obtain ⟨h1, h2⟩ := mH hcs;rw [rP, ← h2] at hy;exact z8 hT ho hd hdn hi hv h1 hy
 ·rename_i l;refine Snd.bind fun cs hcs => Snd.bind fun y hy => Snd.val fun _ hd hdn hc => ⟨hc, ?_⟩
  obtain ⟨h1, h2⟩ := mH hcs;rw [m9, ← h2] at hy;exact xF hT ho hd hdn hi hv h1 hy
 ·rename_i id k fo sz;split
  ·rename_i te es elems fz hh;refine Snd.bind fun ob1 h1 => Snd.bind fun p h2 => ?_
   obtain ⟨r, ob2⟩ := p;refine Snd.cond fun h3 => Snd.bind fun cs hcs => Snd.bind fun y hy => Snd.val fun _ hd hdn hc => ?_
   obtain ⟨g1, g2⟩ := tP h2 hc;obtain ⟨g3, g4⟩ := aS h1 g1;obtain ⟨h4, h5⟩ := mH hcs;rw [rP, ← h5] at hy;exact ⟨g3, zA hT ho hd hdn hi hv hh g4 g2 (le_of_ble_eq_true h3) hy⟩
  ·exact Snd.none
 ·rename_i id k fo sz;split
  ·rename_i te es elems hh;refine Snd.bind fun ob1 h1 => Snd.bind fun p h2 => ?_
   obtain ⟨r, ob2⟩ := p;refine Snd.cond fun h3 => Snd.bind fun cs hcs => Snd.bind fun y hy => Snd.val fun _ hd hdn hc => ?_
   obtain ⟨g1, g2⟩ := vG h2 hc;obtain ⟨g3, g4⟩ := aS h1 g1;obtain ⟨h4, h5⟩ := mH hcs;rw [m9, ← h5] at hy;exact ⟨g3, z7 hT ho hd hdn hi hv hh g4 g2 (le_of_ble_eq_true h3) hy⟩
  ·exact Snd.none
 ·exact Snd.none
def aGd {α : Type} (l : List α) (off : Nat) (new : List α) : Option (List α) := frc (bU l off new)
def aA6 (tr : Tr) (md : Bool) (o : Oper) (st : St) (ob : List Prop) (hn : Hn) (t : TypeId) (x y : Operand) : Ans := (tr.get t).bind fun i => (opO st x).bind fun v => (opO st y).bind fun u => (iO u).bind fun rs => bif Nat.beq rs.length i.size then (match v with
 | .one (.vp id off) => match st.h id with
  | some (.var tv cells) => bif Nat.ble (off + i.size) cells.length then (aGd cells off rs).bind fun cs => eff o ⟨opr x ++ opr y, [id]⟩ [(id, some (.var tv cs))] ob else none
  | _ => none
 | .one (.ep id k fo sz) => match st.h id with
  | some (.arr te es elems 0) => (fV rs).bind fun cs => (fJ md (sz = elems.length) ob).bind fun ob1 => (aGr hn elems k ob1).bind fun (r, ob2) =>
   bif Nat.ble (fo + i.size) es then (aGd r fo cs).bind fun r' => eff o ⟨opr x ++ opr y, [id]⟩ [(id, some (.arr te es (elems.set k r') 0))] ob2 else none
  | _ => none
 | .one (.rp id k fo sz) => match st.h id with
  | some (.rarr te es elems) => (fJ md (sz = elems.length) ob).bind fun ob1 => (aCa hn elems k ob1).bind fun (r, ob2) =>
   bif Nat.ble (fo + i.size) es then (aGd r fo rs).bind fun r' => eff o ⟨opr x ++ opr y, [id]⟩ [(id, some (.rarr te es (elems.set k r')))] ob2 else none
  | _ => none
 | _ => none) else none
theorem yA {hn : Hn} {t : TypeId} {x y : Operand} (hw : tr.wf = true) (hT : Tok P tr.flat) (ho : o.op = .store t x y) : Snd P n o st ob (aA6 tr md o st ob hn t x y) := by
 refine Snd.bind fun i hi => Snd.bind fun v hv => Snd.bind fun u hu => Snd.bind fun rs hrs => Snd.cond fun hl => ?_
 rw [bY] at hv hu;rw [fS] at hrs
 replace hi := Tr.get_ok hw hi
 have hl' := eq_of_beq_eq_true hl;split
 ·rename_i id off;split
  ·rename_i tv cells hh;refine Snd.cond fun hb => Snd.bind fun cs hcs => Snd.eff fun hd hc => ⟨hc, ?_⟩
   unfold aGd at hcs;rw [i0] at hcs;cases hcs;exact aE2 hT ho hd hi hv hu hrs hh hl' hb
  ·exact Snd.none
 ·rename_i id k fo sz;split
  ·rename_i te es elems hh;refine Snd.bind fun cs hcs => Snd.bind fun ob1 h1 => Snd.bind fun p h2 => ?_
   obtain ⟨r, ob2⟩ := p;refine Snd.cond fun h3 => Snd.bind fun r' hr' => Snd.eff fun hd hc => ?_
   obtain ⟨g1, g2⟩ := tP h2 hc;obtain ⟨g3, g4⟩ := aS h1 g1;unfold aGd at hr';rw [i0] at hr';cases hr';refine ⟨g3, xC hT ho hd hi hv hu hrs hcs hh g4 g2 ?_ (le_of_ble_eq_true h3)⟩;have := jP hcs;rw [this] at hl';simpa using hl'
  ·exact Snd.none
 ·rename_i id k fo sz;split
  ·rename_i te es elems hh;refine Snd.bind fun ob1 h1 => Snd.bind fun p h2 => ?_
   obtain ⟨r, ob2⟩ := p;refine Snd.cond fun h3 => Snd.bind fun r' hr' => Snd.eff fun hd hc => ?_
   obtain ⟨g1, g2⟩ := vG h2 hc;obtain ⟨g3, g4⟩ := aS h1 g1;unfold aGd at hr';rw [i0] at hr';cases hr';exact ⟨g3, xB hT ho hd hi hv hu hrs hh g4 g2 hl' (le_of_ble_eq_true h3)⟩
  ·exact Snd.none
 ·exact Snd.none
def nI (tr : Tr) (md : Bool) (o : Oper) (n : Nat) (st : St) (ob : List Prop) (t : TypeId) (x : Operand) (f : Nat) : Ans := (tr.get t).bind fun i => match i.k with
 | .st fs => (fs[f]?).bind fun (foff, ft) => (tr.get ft).bind fun fi => bif Nat.ble 1 fi.size then ((opO st x).bind fun v => match v with
  | .one (.vp id off) => val o n ⟨opr x, []⟩ (.one (.vp id (off + foff))) [] ob
  | .one (.c (.pt l)) => val o n ⟨opr x, []⟩ (.one (.c (.pt (l.drop foff)))) [] ob
  | .one (.pas l) => val o n ⟨opr x, []⟩ (.one (.pas (l.drop foff))) [] ob
  | .one (.ep id k fo sz) => match st.h id with
   | some (.arr _ _ elems _) => (fJ md (sz = elems.length) ob).bind fun ob1 => val o n ⟨opr x, [id]⟩ (.one (.ep id k (fo + foff) sz)) [] ob1
   | _ => none
  | .one (.rp id k fo sz) => match st.h id with
   | some (.rarr _ _ elems) => (fJ md (sz = elems.length) ob).bind fun ob1 => val o n ⟨opr x, [id]⟩ (.one (.rp id k (fo + foff) sz)) [] ob1
   | _ => none
  | _ => none) else none
 | _ => none
theorem nS {t : TypeId} {x : Operand} {f : Nat} (hw : tr.wf = true) (hT : Tok P tr.flat) (ho : o.op = .fieldAddr t x f) : Snd P n o st ob (nI tr md o n st ob t x f) := by
 refine Snd.bind fun i hi => ?_
 replace hi := Tr.get_ok hw hi
 split
 ·rename_i fs hk;refine Snd.bind fun p hf => ?_
  obtain ⟨foff, ft⟩ := p;refine Snd.bind fun fi hfi => Snd.cond fun hz => Snd.bind fun v hv => ?_
  replace hfi := Tr.get_ok hw hfi
  have hz' : fi.size ≠ 0 := by have := le_of_ble_eq_true hz; omega
  rw [bY] at hv;split
  ·exact Snd.val fun _ hd hdn hc => ⟨hc, xI hT ho hd hdn hi hk hf hfi hz' hv⟩
  ·exact Snd.val fun _ hd hdn hc => ⟨hc, xK hT ho hd hdn hi hk hf hfi hz' hv⟩
  ·exact Snd.val fun _ hd hdn hc => ⟨hc, tT hT ho hd hdn hi hk hf hfi hz' hv⟩
  ·split
   ·rename_i hh;exact Snd.bind fun ob1 h1 => Snd.val fun _ hd hdn hc => ⟨(aS h1 hc).1, xL hT ho hd hdn hi hk hf hfi hz' hv hh (aS h1 hc).2⟩
   ·exact Snd.none
  ·split
   ·rename_i hh;exact Snd.bind fun ob1 h1 => Snd.val fun _ hd hdn hc => ⟨(aS h1 hc).1, xJ hT ho hd hdn hi hk hf hfi hz' hv hh (aS h1 hc).2⟩
   ·exact Snd.none
  ·exact Snd.none
 ·exact Snd.none
def aBg (tr : Tr) (o : Oper) (n : Nat) (st : St) (ob : List Prop) (t : TypeId) (x : Operand) (f : Nat) : Ans := (tr.get t).bind fun i => match i.k with
 | .st fs => (fs[f]?).bind fun (foff, ft) => (tr.get ft).bind fun fi => (opO st x).bind fun v => (iO v).bind fun rs =>
  bif (match v with | .pa _ => true | .ma _ => true | _ => false) then bif Nat.ble (foff + fi.size) rs.length then (tak fi.size (rs.drop foff)).bind fun l => (xV fi l).bind fun y => val o n ⟨opr x, []⟩ y [] ob else none else none
 | _ => none
theorem yE {t : TypeId} {x : Operand} {f : Nat} (hw : tr.wf = true) (hT : Tok P tr.flat) (ho : o.op = .field t x f) : Snd P n o st ob (aBg tr o n st ob t x f) := by
 refine Snd.bind fun i hi => ?_
 replace hi := Tr.get_ok hw hi
 split
 ·rename_i fs hk;refine Snd.bind fun p hf => ?_
  obtain ⟨foff, ft⟩ := p;refine Snd.bind fun fi hfi => Snd.bind fun v hv => Snd.bind fun rs hrs => Snd.cond fun hag => Snd.cond fun hl => Snd.bind fun l hl' => Snd.bind fun y hy => ?_
  replace hfi := Tr.get_ok hw hfi
  rw [bY] at hv;rw [fS] at hrs;rw [m9, ← (mH hl').2] at hy;exact Snd.val fun _ hd hdn hc => ⟨hc, aE6 hT ho hd hdn hi hk hf hfi hv (by cases v <;> first | rfl | exact hag) hrs hl hy⟩
 ·exact Snd.none
def atO (hn : Hn) (m : Int) (ob : List Prop) : Option (Nat × List Prop) := match hn with
 | .row k _ => some (k, (m = (k : Int)) :: ob)
 | .rowR k _ => some (k, (m = (k : Int)) :: ob)
 | _ => match m with
  | .ofNat k => some (k, ob)
  | .negSucc _ => none
theorem oR {hn : Hn} {m : Int} {k : Nat} {ob ob' : List Prop} (h : atO hn m ob = some (k, ob')) : gF ob' → gF ob ∧ m = (k : Int) := by
 unfold atO at h;split at h
 ·cases h; exact fun h => ⟨h.2, h.1⟩
 ·cases h; exact fun h => ⟨h.2, h.1⟩
 ·split at h
  ·cases h; exact fun h => ⟨h, rfl⟩
  ·cases h
def aIe (a b : Nat) : Option Nat := match a with
 | 0 => some b
 | a + 1 => some (a + 1 + b)
theorem aBn {a b c : Nat} (h : aIe a b = some c) : a + b = c := by
 unfold aIe at h;split at h <;> cases h
 ·exact zero_add _
 ·rfl
def nH (tr : Tr) (md : Bool) (o : Oper) (n : Nat) (st : St) (ob : List Prop) (hn : Hn) (t : TypeId) (x y : Operand) : Ans := (tr.get t).bind fun i => match i.k with
 | .sl e => (tr.get e).bind fun ei => (opO st x).bind fun v => (opO st y).bind fun u => match u with
  | .one (.c (.int _ m)) => (atO hn m ob).bind fun (k, ob1) => match v with
   | .one (.c (.sl es l)) => bif Nat.beq ei.size es then (aGr hn l k ob1).bind fun (r, ob2) => val o n ⟨opr x ++ opr y, []⟩ (.one (.c (.pt r))) [] ob2 else none
   | .one (.hs id off len sz) => match st.h id with
    | some (.arr _ es elems _) => bif Nat.beq ei.size es then (fJ md (sz = elems.length) ob1).bind fun ob2 => (fJ md (k < len) ob2).bind fun ob3 => (aIe off k).bind fun j => val o n ⟨opr x ++ opr y, [id]⟩ (.one (.ep id j 0 sz)) [] ob3 else none
    | _ => none
   | .one (.ra id off len sz) => match st.h id with
    | some (.rarr _ es elems) => bif Nat.beq ei.size es then (fJ md (sz = elems.length) ob1).bind fun ob2 => (fJ md (k < len) ob2).bind fun ob3 => (aIe off k).bind fun j => val o n ⟨opr x ++ opr y, [id]⟩ (.one (.rp id j 0 sz)) [] ob3 else none
    | _ => none
   | .one (.ras n' es l) => bif Nat.beq ei.size es then (fJ md (k < n') ob1).bind fun ob2 => match hn with
    | .rowR _ r => val o n ⟨opr x ++ opr y, []⟩ (.one (.pas r)) [] (((l.drop (k * es)).take es = r) :: ob2)
    | _ => (frc ((l.drop (k * es)).take es)).bind fun r => val o n ⟨opr x ++ opr y, []⟩ (.one (.pas r)) [] ob2 else none
   | _ => none
  | _ => none
 | .ar m' e => (tr.get e).bind fun ei => (opO st x).bind fun v => (opO st y).bind fun u => match u with
  | .one (.c (.int _ m)) => (atO hn m ob).bind fun (k, ob1) => match v with
   | .one (.vp id off) => (fJ md (k < m') ob1).bind fun ob2 => val o n ⟨opr x ++ opr y, []⟩ (.one (.vp id (off + k * ei.size))) [] ob2
   | _ => none
  | _ => none
 | _ => none
theorem nR {hn : Hn} {t : TypeId} {x y : Operand} (hw : tr.wf = true) (hT : Tok P tr.flat) (ho : o.op = .indexAddr t x y) : Snd P n o st ob (nH tr md o n st ob hn t x y) := by
 refine Snd.bind fun i hi => ?_
 replace hi := Tr.get_ok hw hi
 split
 ·rename_i e hk;refine Snd.bind fun ei hei => Snd.bind fun v hv => Snd.bind fun u hu => ?_
  replace hei := Tr.get_ok hw hei
  rw [bY] at hv hu;split
  ·rename_i kk m;refine Snd.bind fun p hp => ?_
   obtain ⟨k, ob1⟩ := p;dsimp only;split
   ·rename_i es l;refine Snd.cond fun hes => Snd.bind fun p h2 => ?_
    obtain ⟨r, ob2⟩ := p;refine Snd.val fun _ hd hdn hc => ?_
    obtain ⟨g1, g2⟩ := tP h2 hc;obtain ⟨g3, g4⟩ := oR hp g1;exact ⟨g3, aE5 hT ho hd hdn hi hk hei (eq_of_beq_eq_true hes) hv hu g4 g2⟩
   ·rename_i id off len sz;split
    ·rename_i te es elems fz hh;refine Snd.cond fun hes => Snd.bind fun ob2 h2 => Snd.bind fun ob3 h3 => Snd.bind fun j hj => Snd.val fun _ hd hdn hc => ?_
     have hj := aBn hj;subst hj;obtain ⟨g1, g2⟩ := aS h3 hc;obtain ⟨g3, g4⟩ := aS h2 g1;obtain ⟨g5, g6⟩ := oR hp g3;exact ⟨g5, xH hT ho hd hdn hi hk hei (eq_of_beq_eq_true hes) hv hh g4 hu g6 g2⟩
    ·exact Snd.none
   ·rename_i id off len sz;split
    ·rename_i te es elems hh;refine Snd.cond fun hes => Snd.bind fun ob2 h2 => Snd.bind fun ob3 h3 => Snd.bind fun j hj => Snd.val fun _ hd hdn hc => ?_
     have hj := aBn hj;subst hj;obtain ⟨g1, g2⟩ := aS h3 hc;obtain ⟨g3, g4⟩ := aS h2 g1;obtain ⟨g5, g6⟩ := oR hp g3;exact ⟨g5, xG hT ho hd hdn hi hk hei (eq_of_beq_eq_true hes) hv hh g4 hu g6 g2⟩
    ·exact Snd.none
   ·rename_i n' es l;refine Snd.cond fun hes => Snd.bind fun ob2 h2 => ?_
    have hes := eq_of_beq_eq_true hes;split
    ·refine Snd.val fun _ hd hdn hc => ?_
     obtain ⟨c1, c2⟩ := hc;obtain ⟨g1, g2⟩ := aS h2 c2;obtain ⟨g3, g4⟩ := oR hp g1;exact ⟨g3, mK hT ho hd hdn hi hk hei hes hv hu g4 g2 c1⟩
    ·refine Snd.bind fun r hr => Snd.val fun _ hd hdn hc => ?_
     rw [i0] at hr;cases hr;obtain ⟨g1, g2⟩ := aS h2 hc;obtain ⟨g3, g4⟩ := oR hp g1;exact ⟨g3, mK hT ho hd hdn hi hk hei hes hv hu g4 g2 rfl⟩
   ·exact Snd.none
  ·exact Snd.none
 ·rename_i m' e hk;refine Snd.bind fun ei hei => Snd.bind fun v hv => Snd.bind fun u hu => ?_
  replace hei := Tr.get_ok hw hei
  rw [bY] at hv hu;split
  ·rename_i kk m;refine Snd.bind fun p hp => ?_
   obtain ⟨k, ob1⟩ := p;dsimp only;split
   ·rename_i id off;refine Snd.bind fun ob2 h2 => Snd.val fun _ hd hdn hc => ?_
    obtain ⟨g1, g2⟩ := aS h2 hc;obtain ⟨g3, g4⟩ := oR hp g1;exact ⟨g3, tS hT ho hd hdn hi hk hei hv hu g4 g2⟩
   ·exact Snd.none
  ·exact Snd.none
 ·exact Snd.none
def aH3 (md : Bool) (o : Oper) (n : Nat) (st : St) (ob : List Prop) (x : Operand) : Ans := (opO st x).bind fun v => match v with
 | .one (.ep id k fo sz) => match st.h id with
  | some (.arr _ _ elems _) => (fJ md (sz = elems.length) ob).bind fun ob1 => val o n ⟨opr x, [id]⟩ (.one (.ep id k fo sz)) [] ob1
  | _ => none
 | .one (.rp id k fo sz) => match st.h id with
  | some (.rarr _ _ elems) => (fJ md (sz = elems.length) ob).bind fun ob1 => val o n ⟨opr x, [id]⟩ (.one (.rp id k fo sz)) [] ob1
  | _ => none
 | v => bif notNil v then val o n ⟨opr x, []⟩ v [] ob else none
theorem aDj {x : Operand} (ho : o.op = .nilCheck x) : Snd P n o st ob (aH3 md o n st ob x) := by
 refine Snd.bind fun v hv => ?_
 rw [bY] at hv;split
 ·split
  ·rename_i hh;exact Snd.bind fun ob1 h1 => Snd.val fun _ hd hdn hc => ⟨(aS h1 hc).1, pE ho hd hdn hv hh (aS h1 hc).2⟩
  ·exact Snd.none
 ·split
  ·rename_i hh;exact Snd.bind fun ob1 h1 => Snd.val fun _ hd hdn hc => ⟨(aS h1 hc).1, pD ho hd hdn hv hh (aS h1 hc).2⟩
  ·exact Snd.none
 ·exact Snd.cond fun h => Snd.val fun _ hd hdn hc => ⟨hc, xD ho hd hdn hv h⟩
def mO (tr : Tr) : List (Nat × TypeId) → Option (List (Nat × Nat))
 | [] => some []
 | (off, t) :: fs => (tr.get t).bind fun i => (mO tr fs).bind fun l => some ((off, i.size) :: l)
theorem o7 {tr : Tr} (hw : tr.wf = true) : ∀ {fs : List (Nat × TypeId)} {l : List (Nat × Nat)}, mO tr fs = some l → iC tr.flat fs = some l
 | [], l, h => by simpa [mO, iC] using h
 | (off, t) :: fs, l, h => by
  simp only [mO, Option.bind_eq_some_iff] at h;obtain ⟨i, hi, l', hl', h⟩ := h;simp only [iC, Tr.get_ok hw hi, o7 hw hl', h]
def vL (st : St) : List (Nat × Operand) → Option (List (Nat × List R))
 | [] => some []
 | (i, x) :: ps => (opO st x).bind fun v => (iO v).bind fun rs => (vL st ps).bind fun l => some ((i, rs) :: l)
theorem qZ (st : St) : ∀ ps : List (Nat × Operand), vL st ps = lF st ps
 | [] => rfl
 | (i, x) :: ps => by
  simp only [vL, lF, bY, fS, qZ st ps];cases opv st x with
  | none => rfl
  | some v =>
   simp only [Option.bind_some];cases eW v with
   | none => rfl
   | some rs =>
    simp only [Option.bind_some];cases lF st ps <;> rfl
def aDa (st : St) : List Operand → Option (List R)
 | [] => some []
 | x :: xs => (opO st x).bind fun v => match v with
  | .one r => (aDa st xs).bind fun l => some (r :: l)
  | _ => none
theorem wM (st : St) : ∀ xs : List Operand, aDa st xs = sL st xs
 | [] => rfl
 | x :: xs => by
  simp only [aDa, sL, bY, wM st xs];cases opv st x with
  | none => rfl
  | some v =>
   simp only [Option.bind_some];cases v <;> try rfl
   cases sL st xs <;> rfl
def aBk (tr : Tr) (o : Oper) (n : Nat) (st : St) (ob : List Prop) (t : TypeId) (parts : Array (Nat × Operand)) : Ans := (tr.get t).bind fun i => match i.k with
 | .st fs => (mO tr fs).bind fun places => (vL st parts.toList).bind fun ps => (y0 places (i.zero.map R.c) ps).bind fun out => (frc out).bind fun out => (aId out).bind fun y => val o n ⟨eJ parts.toList, []⟩ y [] ob
 | _ => none
theorem yF {t : TypeId} {parts : Array (Nat × Operand)} (hw : tr.wf = true) (hT : Tok P tr.flat) (ho : o.op = .build t parts) : Snd P n o st ob (aBk tr o n st ob t parts) := by
 refine Snd.bind fun i hi => ?_
 replace hi := Tr.get_ok hw hi
 split
 ·rename_i fs hk;refine Snd.bind fun places hpl => Snd.bind fun ps hps => Snd.bind fun out hf => Snd.bind fun out' hf' => Snd.bind fun y hy => Snd.val fun _ hd hdn hc => ⟨hc, ?_⟩
  replace hpl := o7 hw hpl
  rw [qZ] at hps;rw [i0] at hf';cases hf';rw [aBm] at hy;cases hy;exact aFb hT ho hd hdn hi hk hpl hps hf
 ·exact Snd.none
def kB (tr : Tr) : Nat → List TypeId → List Nat
 | 0, _ => []
 | _ + 1, [] => []
 | f + 1, t :: ts => match tr.get t with
  | some i => match i.k with
   | .sl e => match tr.get e with
    | some ei => (ei.size + 1) :: kB tr f ts
    | none => 0 :: kB tr f ts
   | .st fs => kB tr f (fs.map (·.2) ++ ts)
   | _ => 0 :: kB tr f ts
  | none => 0 :: kB tr f ts
def nrm : List Nat → List C → List C
 | _, [] => []
 | [], cs => cs
 | 0 :: es, c :: cs => c :: nrm es cs
 | (e + 1) :: es, c :: cs => (match c with | .nl => .sl e [] | c => c) :: nrm es cs
theorem iV {h : cH} : ∀ (es : List Nat) (cs : List C), PureL h [] (cs.map R.c) (nrm es cs)
 | es, [] => by cases es <;> exact .nil
 | [], c :: cs => .of_pure
 | 0 :: es, c :: cs => .c .refl (iV es cs)
 | (e + 1) :: es, c :: cs => by
  simp only [nrm, map_cons];split
  ·exact .c .nl (iV es cs)
  ·exact .c .refl (iV es cs)
def yM : List Nat → List C → Option (List C)
 | _, [] => some []
 | [], cs => frc cs
 | 0 :: es, c :: cs => (yM es cs).bind fun l => some (c :: l)
 | (e + 1) :: es, c :: cs => match c with
  | .nl => (yM es cs).bind fun l => some (.sl e [] :: l)
  | c => (yM es cs).bind fun l => some (c :: l)
theorem mQ : ∀ (es : List Nat) (cs : List C), yM es cs = some (nrm es cs)
 | es, [] => by cases es with
  | nil => simp [yM, nrm]
  | cons e es => cases e <;> simp [yM, nrm]
 | [], c :: cs => by simp [yM, nrm, i0]
 | 0 :: es, c :: cs => by simp [yM, nrm, mQ es cs]
 | (e + 1) :: es, c :: cs => by
  simp only [yM, nrm, mQ es cs, Option.bind_some];split <;> rfl
def yW (st : St) (tys : List Nat) (es : Nat) : Nat → List (Nat × Operand) → Option (List (List C))
 | _, [] => some []
 | k, (i, x) :: ps => bif Nat.beq i k then (opO st x).bind fun v => (iO v).bind fun rs => (fV rs).bind fun cs => bif Nat.beq rs.length es then (yM tys cs).bind fun cs => (yW st tys es (k + 1) ps).bind fun l => some (cs :: l) else none else none
theorem vF {st : St} {tys : List Nat} {es : Nat} : ∀ {ps : List (Nat × Operand)} {k : Nat} {l : List (List C)}, yW st tys es k ps = some l → RowsV st es k [] ps l
 | [], k, l, h => by simp [yW] at h; subst h; exact .nil
 | (i, x) :: ps, k, l, h => by
  simp only [yW] at h;obtain ⟨h0, h⟩ := dC h;have := eq_of_beq_eq_true h0;subst this;rw [Option.bind_eq_some_iff] at h;obtain ⟨v, hv, h⟩ := h;rw [Option.bind_eq_some_iff] at h;obtain ⟨rs, hrs, h⟩ := h;rw [Option.bind_eq_some_iff] at h;obtain ⟨cs, hcs, h⟩ := h;obtain ⟨hl, h⟩ := dC h;rw [Option.bind_eq_some_iff] at h;obtain ⟨cs', hcs', h⟩ := h;rw [mQ] at hcs';cases hcs';rw [Option.bind_eq_some_iff] at h;obtain ⟨l', hl', h⟩ := h;cases h;rw [bY] at hv;rw [fS] at hrs;have hp : PureL st.h [] rs (nrm tys cs) := by rw [jP hcs]; exact iV tys cs
  exact .cons (ids := []) hv hrs hp hl (vF hl')
def aA7 (tr : Tr) (o : Oper) (n : Nat) (st : St) (ob : List Prop) (hn : Hn) (id : Nat) (t : TypeId) (len : Nat) (parts : Array (Nat × Operand)) : Ans := (tr.get t).bind fun i => match i.k with
 | .sl e => (tr.get e).bind fun ei => bif Nat.beq len parts.size && (Nat.ble (len * ei.size) 16777216 && Nat.ble len 16777216) then (match st.h id with
  | none => match yW st (kB tr 300 [e]) ei.size 0 parts.toList with
   | some rows => match hn with
    | .all => val o n ⟨eJ parts.toList, [id]⟩ (.one (.c (.sl ei.size rows))) [(id, some (.arr e ei.size rows 2))] ob
    | _ => val o n ⟨eJ parts.toList, [id]⟩ (.one (.hs id 0 len len)) [(id, some (.arr e ei.size rows 0))] ob
   | none => (pB st ei.size 0 parts.toList).bind fun rows => val o n ⟨eJ parts.toList, [id]⟩ (.one (.ra id 0 len len)) [(id, some (.rarr e ei.size rows))] ob
  | some _ => none) else none
 | _ => none
theorem yB {hn : Hn} {id : Nat} {t : TypeId} {len : Nat} {parts : Array (Nat × Operand)} (hw : tr.wf = true) (hT : Tok P tr.flat) (ho : o.op = .buildSlice t len parts) : Snd P n o st ob (aA7 tr o n st ob hn id t len parts) := by
 refine Snd.bind fun i hi => ?_
 replace hi := Tr.get_ok hw hi
 split
 ·rename_i e hk;refine Snd.bind fun ei hei => Snd.cond fun hb => ?_
  replace hei := Tr.get_ok hw hei
  simp only [Bool.and_eq_true] at hb;split
  ·rename_i hid;split
   ·rename_i rows hrows;have hr := vF hrows;split
    ·exact Snd.val fun _ hd hdn hc => ⟨hc, aCd id hT ho hd hdn hi hk hei hr hb.1 hb.2.1 hb.2.2 hid⟩
    ·exact Snd.val fun _ hd hdn hc => ⟨hc, z2 id hT ho hd hdn hi hk hei hr hb.1 hb.2.1 hb.2.2 hid⟩
   ·exact Snd.bind fun rows hr => Snd.val fun _ hd hdn hc => ⟨hc, aCc id hT ho hd hdn hi hk hei hr hb.1 hb.2.1 hb.2.2 hid⟩
  ·exact Snd.none
 ·exact Snd.none
def aBf (o : Oper) (n : Nat) (st : St) (ob : List Prop) (f : Fn) (first caps : Array Operand) : Ans := match f with
 | .func f => match first.toList with
  | [] => (aDa st caps.toList).bind fun l => val o n ⟨cG caps.toList, []⟩ (.one (.clo f l)) [] ob
  | [x] => match caps.toList with
   | [] => (opO st x).bind fun v => match v with
    | .one c => val o n ⟨opr x, []⟩ (.one (.mth f c)) [] ob
    | _ => none
   | _ => none
  | _ => none
 | _ => none
theorem toList_nil {α : Type} {a : Array α} (h : a.toList = []) : a = #[] := by
 cases a; simp at h; simp [h]
theorem x7 {α : Type} {a : Array α} {x : α} (h : a.toList = [x]) : a = #[x] := by
 cases a; simp at h; simp [h]
theorem aBe {f : Fn} {first caps : Array Operand} (ho : o.op = .makeFunc f first caps) : Snd P n o st ob (aBf o n st ob f first caps) := by
 unfold aBf;split
 ·rename_i f;split
  ·rename_i h1;have := toList_nil h1;subst this;refine Snd.bind fun l hl => Snd.val fun _ hd hdn hc => ⟨hc, xE ho hd hdn (by rw [← wM]; exact hl)⟩
  ·rename_i x h1;have := x7 h1;subst this;split
   ·rename_i h2;have := toList_nil h2;subst this;refine Snd.bind fun v hv => ?_
    split
    ·exact Snd.val fun _ hd hdn hc => ⟨hc, qV ho hd hdn (by rw [← bY]; exact hv)⟩
    ·exact Snd.none
   ·exact Snd.none
  ·exact Snd.none
 ·exact Snd.none
def aGh (st : St) (m : Nat) : Option Operand → Option Nat
 | none => some m
 | some x => (opO st x).bind fun v => match v with
  | .one (.c (.int _ (.ofNat k))) => some k
  | _ => none
theorem iP {m k : Nat} {x : Option Operand} (h : aGh st m x = some k) : BndV st x m k := by
 cases x with
 | none => cases h; exact .no
 | some x =>
  simp only [aGh, Option.bind_eq_some_iff, bY] at h;obtain ⟨v, hv, h⟩ := h;split at h
  ·cases h; exact .yes hv
  ·cases h
def aIa {α : Type} (l : List α) (lo hi : Nat) (low high : Option Operand) : Option (List α) := match low, high with
 | none, none => some l
 | none, some _ => some (l.take hi)
 | some _, none => some (l.drop lo)
 | some _, some _ => some ((l.take hi).drop lo)
theorem aAf {α : Type} {l r : List α} {lo hi : Nat} {low high : Option Operand} (h1 : BndV st low 0 lo) (h2 : BndV st high l.length hi) (h : aIa l lo hi low high = some r) : r = (l.take hi).drop lo := by
 cases h1 <;> cases h2 <;> simp [aIa] at h <;> simp [h]
def aF7 (tr : Tr) (md : Bool) (o : Oper) (n : Nat) (st : St) (ob : List Prop) (t : TypeId) (x : Operand) (low high mx : Option Operand) : Ans := match mx with
 | some _ => none
 | none => (tr.get t).bind fun i => (opO st x).bind fun v => match i.k with
  | .sl e => (tr.get e).bind fun ei => match v with
   | .one (.c (.sl es l)) => bif Nat.beq ei.size es then (aGh st 0 low).bind fun lo => (aGh st l.length high).bind fun hi => (fJ md (lo ≤ hi) ob).bind fun ob1 => (fJ md (hi ≤ l.length) ob1).bind fun ob2 =>
     (aIa l lo hi low high).bind fun r => val o n ⟨opr x ++ aDh low ++ aDh high, []⟩ (.one (.c (.sl es r))) [] ob2 else none
   | _ => none
  | .str => match v with
   | .one (.c (.str s)) => (aGh st 0 low).bind fun lo => (aGh st s.length high).bind fun hi => (fJ md (lo ≤ hi) ob).bind fun ob1 => (fJ md (hi ≤ s.length) ob1).bind fun ob2 =>
     (aIa s lo hi low high).bind fun r => val o n ⟨opr x ++ aDh low ++ aDh high, []⟩ (.one (.c (.str r))) [] ob2
   | _ => none
  | _ => none
theorem aDn {t : TypeId} {x : Operand} {low high mx : Option Operand} (hw : tr.wf = true) (hT : Tok P tr.flat) (ho : o.op = .slice t x low high mx) : Snd P n o st ob (aF7 tr md o n st ob t x low high mx) := by
 unfold aF7;split
 ·exact Snd.none
 ·refine Snd.bind fun i hi' => Snd.bind fun v hv => ?_
  replace hi' := Tr.get_ok hw hi'
  rw [bY] at hv;split
  ·rename_i e hk;refine Snd.bind fun ei hei => ?_
   replace hei := Tr.get_ok hw hei
   split
   ·rename_i es l;refine Snd.cond fun hes => Snd.bind fun lo hlo => Snd.bind fun hi hhi => Snd.bind fun ob1 h1 => Snd.bind fun ob2 h2 => Snd.bind fun r hr => Snd.val fun _ hd hdn hc => ?_
    obtain ⟨g1, g2⟩ := aS h2 hc;obtain ⟨g3, g4⟩ := aS h1 g1;rw [aAf (iP hlo) (iP hhi) hr];exact ⟨g3, aIu hT ho hd hdn hi' hk hei (eq_of_beq_eq_true hes) hv (iP hlo) (iP hhi) g4 g2⟩
   ·exact Snd.none
  ·rename_i hk;split
   ·rename_i s;refine Snd.bind fun lo hlo => Snd.bind fun hi hhi => Snd.bind fun ob1 h1 => Snd.bind fun ob2 h2 => Snd.bind fun r hr => Snd.val fun _ hd hdn hc => ?_
    obtain ⟨g1, g2⟩ := aS h2 hc;obtain ⟨g3, g4⟩ := aS h1 g1;rw [aAf (iP hlo) (iP hhi) hr];exact ⟨g3, aGx hT ho hd hdn hi' hk hv (iP hlo) (iP hhi) g4 g2⟩
   ·exact Snd.none
  ·exact Snd.none
def aBd (tr : Tr) (o : Oper) (n : Nat) (st : St) (ob : List Prop) (hn : Hn) (t : TypeId) (x y : Operand) : Ans := (tr.get t).bind fun i => match i.k with
 | .str => (opO st x).bind fun v => (opO st y).bind fun u => match v, u with
  | .one (.c (.str s)), .one (.c (.int _ m)) => match hn with
   | .byte k b => val o n ⟨opr x ++ opr y, []⟩ (.one (.c (.int .u8 ((b.toNat : Nat) : Int)))) [] ((m = (k : Int) ∧ s[k]? = some b) :: ob)
   | _ => match m with
    | .ofNat k => (s[k]?).bind fun b => val o n ⟨opr x ++ opr y, []⟩ (.one (.c (.int .u8 ((b.toNat : Nat) : Int)))) [] ob
    | _ => none
  | _, _ => none
 | _ => none
theorem yC {hn : Hn} {t : TypeId} {x y : Operand} (hw : tr.wf = true) (hT : Tok P tr.flat) (ho : o.op = .index t x y) : Snd P n o st ob (aBd tr o n st ob hn t x y) := by
 refine Snd.bind fun i hi => ?_
 replace hi := Tr.get_ok hw hi
 split
 ·rename_i hk;refine Snd.bind fun v hv => Snd.bind fun u hu => ?_
  rw [bY] at hv hu;split
  ·split
   ·exact Snd.val fun _ hd hdn hc => ⟨hc.2, aD0 hT ho hd hdn hi hk hv hu hc.1.1 hc.1.2⟩
   ·split
    ·exact Snd.bind fun b hb => Snd.val fun _ hd hdn hc => ⟨hc, aD0 hT ho hd hdn hi hk hv hu rfl hb⟩
    ·exact Snd.none
  ·exact Snd.none
 ·exact Snd.none
def zL : List (List C) → Bool
 | [] => true
 | (.str _ :: _) :: r => zL r
 | _ :: _ => false
theorem rE : ∀ l : List (List C), zL l = true ↔ i4 l
 | [] => by simp [zL, i4]
 | [] :: r => by simp [zL, i4]
 | (c :: vs) :: r => by
  cases c <;> simp [zL, i4];exact rE r
instance (l : List (List C)) : Decidable (i4 l) := decidable_of_iff _ (rE l)
def aC5 (st : St) (agg : Bool) : V → Option (List Nat × List (List C))
 | .one (.mr id) => match st.h id with
  | some (.map a ents) => bif a == agg then some ([id], ents) else none
  | _ => none
 | .one (.c (.mp a ents)) => bif a == agg then some ([], ents) else none
 | .one (.c (.zv 0)) => some ([], [])
 | _ => none
theorem pU {st : St} {agg : Bool} {v : V} {ids : List Nat} {ents : List (List C)} (h : aC5 st agg v = some (ids, ents)) : MapE st ids v agg ents := by
 unfold aC5 at h;split at h
 ·split at h
  ·rename_i hh;obtain ⟨h1, h2⟩ := dC h;cases h2;exact .mr (by rw [hh, eq_of_beq h1])
  ·cases h
 ·obtain ⟨h1, h2⟩ := dC h;cases h2;rw [eq_of_beq h1];exact .mp
 ·cases h; exact .nil
 ·cases h
def aFq (md : Bool) (hn : Hn) (k : List UInt8) (ents : List (List C)) (ob : List Prop) : Option (Option (List C) × List Prop) := match hn with
 | .look r => some (r, (fK k ents = r) :: ob)
 | _ => bif md then some (fK k ents, ob) else match fK k ents with
  | some r => some (some r, ob)
  | none => some (none, ob)
theorem wB {md : Bool} {hn : Hn} {k : List UInt8} {ents : List (List C)} {ob ob' : List Prop} {r : Option (List C)} (h : aFq md hn k ents ob = some (r, ob')) : gF ob' → gF ob ∧ fK k ents = r := by
 unfold aFq at h;split at h
 ·cases h; exact fun h => ⟨h.2, h.1⟩
 ·cases md
  ·simp only [cond_false] at h;split at h
   ·rename_i h1; cases h; exact fun h => ⟨h, h1⟩
   ·rename_i h1; cases h; exact fun h => ⟨h, h1⟩
  ·cases h; exact fun h => ⟨h, rfl⟩
def tA (tr : Tr) (md : Bool) (o : Oper) (n : Nat) (st : St) (ob : List Prop) (hn : Hn) (t : TypeId) (x y : Operand) (ok : Bool) : Ans := (tr.get t).bind fun i => match i.k with
 | .mp kt et => (tr.get kt).bind fun ki => (tr.get et).bind fun ei => match ki.k with
  | .str => (opO st x).bind fun v => (aC5 st ei.k.agg v).bind fun (ids, ents) => (opO st y).bind fun u => match u with
   | .one (.c (.str k)) => (fJ md (i4 ents) ob).bind fun ob1 => (aFq md hn k ents ob1).bind fun (r, ob2) => match ok with
    | true => val o n ⟨opr x ++ opr y, ids⟩ (.tup [kR ei r, .one (.c (.bool (zN r)))]) [] ob2
    | false => val o n ⟨opr x ++ opr y, ids⟩ (kR ei r) [] ob2
   | _ => none
  | _ => none
 | _ => none
theorem sZ {hn : Hn} {t : TypeId} {x y : Operand} {ok : Bool} (hw : tr.wf = true) (hT : Tok P tr.flat) (ho : o.op = .lookup t x y ok) : Snd P n o st ob (tA tr md o n st ob hn t x y ok) := by
 refine Snd.bind fun i hi => ?_
 replace hi := Tr.get_ok hw hi
 split
 ·rename_i kt et hk;refine Snd.bind fun ki hki => Snd.bind fun ei hei => ?_
  replace hki := Tr.get_ok hw hki
  replace hei := Tr.get_ok hw hei
  split
  ·rename_i hkk;refine Snd.bind fun v hv => Snd.bind fun p hp => ?_
   obtain ⟨ids, ents⟩ := p;refine Snd.bind fun u hu => ?_
   rw [bY] at hv hu;split
   ·rename_i k;refine Snd.bind fun ob1 h1 => Snd.bind fun p h2 => ?_
    obtain ⟨r, ob2⟩ := p;dsimp only;split
    ·refine Snd.val fun _ hd hdn hc => ?_
     obtain ⟨g1, g2⟩ := wB h2 hc;obtain ⟨g3, g4⟩ := aS h1 g1;have := pF hT ho hd hdn hi hk hki hkk hei rfl hv (pU hp) g4 hu g2;exact ⟨g3, by simpa using this⟩
    ·refine Snd.val fun _ hd hdn hc => ?_
     obtain ⟨g1, g2⟩ := wB h2 hc;obtain ⟨g3, g4⟩ := aS h1 g1;have := pF hT ho hd hdn hi hk hki hkk hei rfl hv (pU hp) g4 hu g2;exact ⟨g3, by simpa using this⟩
   ·exact Snd.none
  ·exact Snd.none
 ·exact Snd.none
def sY (tr : Tr) (md : Bool) (o : Oper) (n : Nat) (st : St) (ob : List Prop) (w : V) (t : TypeId) (x y : Operand) : Ans := (tr.get t).bind fun i => match i.k with
 | .mp kt et => (tr.get kt).bind fun ki => (tr.get et).bind fun ei => match ki.k with
  | .str => (opO st x).bind fun v => (aC5 st ei.k.agg v).bind fun (ids, ents) => (opO st y).bind fun u => match u with
   | .one (.c (.str k)) => (fJ md (i4 ents) ob).bind fun ob1 => val o n ⟨opr x ++ opr y, ids⟩ w [] ((kR ei (fK k ents) = w) :: ob1)
   | _ => none
  | _ => none
 | _ => none
theorem sX {w : V} {t : TypeId} {x y : Operand} (hw : tr.wf = true) (hT : Tok P tr.flat) (ho : o.op = .lookup t x y false) : Snd P n o st ob (sY tr md o n st ob w t x y) := by
 refine Snd.bind fun i hi => ?_
 replace hi := Tr.get_ok hw hi
 split
 ·rename_i kt et hk;refine Snd.bind fun ki hki => Snd.bind fun ei hei => ?_
  replace hki := Tr.get_ok hw hki
  replace hei := Tr.get_ok hw hei
  split
  ·rename_i hkk;refine Snd.bind fun v hv => Snd.bind fun p hp => ?_
   obtain ⟨ids, ents⟩ := p;refine Snd.bind fun u hu => ?_
   rw [bY] at hv hu;split
   ·rename_i k;refine Snd.bind fun ob1 h1 => Snd.val fun _ hd hdn hc => ?_
    obtain ⟨g3, g4⟩ := aS h1 hc.2;have := pF hT ho hd hdn hi hk hki hkk hei rfl hv (pU hp) g4 hu rfl;refine ⟨g3, ?_⟩;rw [← hc.1];simpa using this
   ·exact Snd.none
  ·exact Snd.none
 ·exact Snd.none
def q9 (tr : Tr) (md : Bool) (o : Oper) (n : Nat) (st : St) (ob : List Prop) (hn : Hn) (t : TypeId) (x y : Operand) (ok : Bool) : Ans := match ok, hn with
 | false, .pc w => sY tr md o n st ob w t x y
 | ok, hn => tA tr md o n st ob hn t x y ok
theorem uP {hn : Hn} {t : TypeId} {x y : Operand} {ok : Bool} (hw : tr.wf = true) (hT : Tok P tr.flat) (ho : o.op = .lookup t x y ok) : Snd P n o st ob (q9 tr md o n st ob hn t x y ok) := by
 unfold q9;split
 ·exact sX hw hT ho
 ·exact sZ hw hT ho
def aHd (md : Bool) (k : List UInt8) (cs : List C) (ents : List (List C)) : Option (List (List C)) := bif md then some (pL k cs ents) else frc (pL k cs ents)
theorem vX (md : Bool) (k : List UInt8) (cs : List C) (ents : List (List C)) : aHd md k cs ents = some (pL k cs ents) := by
 cases md
 ·exact i0 _
 ·rfl
def hU (tr : Tr) (md : Bool) (o : Oper) (st : St) (ob : List Prop) (t : TypeId) (x y z : Operand) : Ans := (tr.get t).bind fun i => match i.k with
 | .mp kt _ => (tr.get kt).bind fun ki => match ki.k with
  | .str => (opO st x).bind fun v => match v with
   | .one (.mr id) => match st.h id with
    | some (.map agg ents) => (opO st y).bind fun u => match u with
     | .one (.c (.str k)) => (opO st z).bind fun v => bif (match v with | .one _ => !agg | .pa _ => agg | .ma _ => agg | _ => false) then (iO v).bind fun rs =>
      (fJ md (i4 ents) ob).bind fun ob1 => (aHd md k (aHb rs) ents).bind fun e' => eff o ⟨opr x ++ opr y ++ opr z, [id]⟩ [(id, some (.map agg e'))] ob1 else none
     | _ => none
    | _ => none
   | _ => none
  | _ => none
 | _ => none
theorem nQ {t : TypeId} {x y z : Operand} (hw : tr.wf = true) (hT : Tok P tr.flat) (ho : o.op = .mapUpdate t x y z) : Snd P n o st ob (hU tr md o st ob t x y z) := by
 refine Snd.bind fun i hi => ?_
 replace hi := Tr.get_ok hw hi
 split
 ·rename_i kt et hk;refine Snd.bind fun ki hki => ?_
  replace hki := Tr.get_ok hw hki
  split
  ·rename_i hkk;refine Snd.bind fun v hv => ?_
   rw [bY] at hv;split
   ·rename_i id;split
    ·rename_i agg ents hh;refine Snd.bind fun u hu => ?_
     rw [bY] at hu;split
     ·rename_i k;refine Snd.bind fun z hz => Snd.cond fun hva => Snd.bind fun rs hrs => Snd.bind fun ob1 h1 => Snd.bind fun e' he => Snd.eff fun hd hc => ?_
      rw [bY] at hz;rw [fS] at hrs;rw [vX] at he;cases he;obtain ⟨g1, g2⟩ := aS h1 hc;exact ⟨g1, tR (ids := []) hT ho hd hi hk hki hkk hv hh g2 hu hz (by cases z <;> first | rfl | exact hva) hrs .ofA⟩
     ·exact Snd.none
    ·exact Snd.none
   ·exact Snd.none
  ·exact Snd.none
 ·exact Snd.none
theorem uQ {t : TypeId} {x y z : Operand} (hw : tr.wf = true) (hT : Tok P tr.flat) (ho : o.op = .insert t x y z) : Snd P n o st ob (hU tr md o st ob t x y z) := by
 refine Snd.bind fun i hi => ?_
 replace hi := Tr.get_ok hw hi
 split
 ·rename_i kt et hk;refine Snd.bind fun ki hki => ?_
  replace hki := Tr.get_ok hw hki
  split
  ·rename_i hkk;refine Snd.bind fun v hv => ?_
   rw [bY] at hv;split
   ·rename_i id;split
    ·rename_i agg ents hh;refine Snd.bind fun u hu => ?_
     rw [bY] at hu;split
     ·rename_i k;refine Snd.bind fun z hz => Snd.cond fun hva => Snd.bind fun rs hrs => Snd.bind fun ob1 h1 => Snd.bind fun e' he => Snd.eff fun hd hc => ?_
      rw [bY] at hz;rw [fS] at hrs;rw [vX] at he;cases he;obtain ⟨g1, g2⟩ := aS h1 hc;exact ⟨g1, aCk (ids := []) hT ho hd hi hk hki hkk hv hh g2 hu hz (by cases z <;> first | rfl | exact hva) hrs .ofA⟩
     ·exact Snd.none
    ·exact Snd.none
   ·exact Snd.none
  ·exact Snd.none
 ·exact Snd.none
end
end Go.AM
