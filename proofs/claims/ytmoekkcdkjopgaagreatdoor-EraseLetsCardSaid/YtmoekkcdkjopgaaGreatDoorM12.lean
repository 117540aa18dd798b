/-
  Texts Am41 to Lm6 in one.
-/
import Derived.Test.YtmoekkcdkjopgaaGreatDoorM11
import Derived.Shelf.Strconv.Itoa3
import Derived.Lib.LaidTab
open List (drop_eq_getElem_cons drop_length drop_zero length_append length_cons length_eq_one_iff length_eq_zero_iff length_map length_set length_take map_append map_cons map_nil mem_cons mem_map mem_or_eq_of_mem_set mem_singleton not_mem_nil set_cons_succ sum_cons sum_nil take_add_one take_length take_of_length_le)
open Nat (add_mul le_refl le_trans lt_of_lt_of_le mul_add mul_comm mul_le_mul mul_le_mul_left mul_le_mul_right mul_left_comm mul_one succ_mul zero_add zero_le)
namespace Go.AM
open Go
def aUy : BinOp → Int → Int → Option Int
 | .add, a, b => some (IntKind.i64.wrap (a + b))
 | .sub, a, b => some (IntKind.i64.wrap (a - b))
 | .mul, a, b => some (IntKind.i64.wrap (a * b))
 | .quo, a, b => if b = 0 then none else some (IntKind.i64.wrap (a.tdiv b))
 | .rem, a, b => if b = 0 then none else some (a.tmod b)
 | _, _, _ => none
section
variable {P : Program} {n : Nat} {ops : Array Oper} {draw : Bool} {k d : Nat} {st : St} {pre : REs} {Q : St → Prop} {o : Oper}
theorem aZg {op : BinOp} {tx ty : TypeId} {x y : Operand} {a b r : Int} (ho : o.op = .binOp op tx x y ty) (hd : o.dst = some d) (hdn : d < n) (hx : opv st x = some (I .i64 a)) (hy : opv st y = some (I .i64 b)) (hr : aUy op a b = some r) :
  Step P n o st ⟨opr x ++ opr y, []⟩ ⟨some (d, some (I .i64 r)), []⟩ := by
 cases op <;> simp only [aUy] at hr <;> try (cases hr; done)
 ·cases hr; exact aNl ho hd hdn hx hy rfl
 ·cases hr; exact aNb ho hd hdn hx hy rfl
 ·cases hr; exact aNg ho hd hdn hx hy rfl
 ·split at hr
  ·cases hr
  ·rename_i hb;cases hr; exact aV5 ho hd hdn hx hy hb rfl
 ·split at hr
  ·cases hr
  ·rename_i hb;cases hr; exact aV3 ho hd hdn hx hy hb rfl
theorem kw {op : BinOp} {tx ty : TypeId} {x y : Operand} {a b : Int} (r : Int) (hr : aUy op a b = some r)
  (hk : jV P n ops draw (k + 1) ⟨upd st.e d (some (I .i64 r)), st.h, st.d⟩ ((⟨opr x ++ opr y, []⟩, ⟨some (d, some (I .i64 r)), []⟩) :: pre) Q)
  (ho : ops[k]? = some o := by rfl) (hg : o.guard = none := by rfl) (hop : o.op = .binOp op tx x y ty := by rfl) (hd : o.dst = some d := by rfl) (hdn : Nat.blt d n = true := by rfl) (hx : opv st x = some (I .i64 a) := by rfl) (hy : opv st y = some (I .i64 b) := by rfl) : jV P n ops draw k st pre Q :=
 k_ (g_ ho hg (aZg hop hd (eQ hdn) hx hy hr)) hk
end
end Go.AM
namespace Go.Proofs.YtmoekkcdkjopgaaGreatDoor
open Go Go.AM
set_option maxRecDepth 20000
def aAd (n : Int) : Core := .mk 3 n [] zTy [] [] []
def a0w (s : Str) : Core := .mk 2 0 s zTy [] [] []
def zC : Core := .mk 0 0 [] zTy [] [] []
def aY2 : Str := [97, 100, 100]
def aYz : Str := [115, 117, 98]
def aY0 : Str := [109, 117, 108]
def aY1 : Str := [100, 105, 118]
def nEq : Str := [101, 113]
def nLt : Str := [108, 116]
def aVe (b : Bool) : Core := a0w (if b then [84, 114, 117, 101] else [70, 97, 108, 115, 101])
def jJ (s : Str) (a b : Int) : Core × Int :=
 if s = aY2 then (aAd (IntKind.i64.wrap (a + b)), 0)
 else if s = aYz then (aAd (IntKind.i64.wrap (a - b)), 0)
 else if s = aY0 then (aAd (IntKind.i64.wrap (a * b)), 0)
 else if s = aY1 then (if b = 0 then (zC, 53) else (aAd (IntKind.i64.wrap (a.tdiv b)), 0))
 else if s = nEq then (aVe (decide (a = b)), 0)
 else if s = nLt then (aVe (decide (a < b)), 0)
 else (zC, 51)
theorem aXx (n : Int) : aY Tryz.prog 33 [I .i64 n] [] (.pa (aA (aAd n))) [] := aLg n
theorem aRj (s : Str) : aY Tryz.prog 142 [Go.AM.T s] [] (.pa (aA (a0w s))) [] := by
 refine c8 (n := 5) tok Tryz.func142 rfl rfl rfl ?_;refine a8 (ag [] rfl ?_);refine a8 (ag [] rfl ?_);exact aE (rtC trw)
end Go.Proofs.YtmoekkcdkjopgaaGreatDoor
namespace Go.AM
open Go
def uniq (T : List (List C)) : Prop := ∀ k cs, (.str k :: cs) ∈ T → eV k T = some cs
theorem j3 {r : List C} {l : List (List C)} (h : fP (r :: l)) : (∃ s us, r = .str s :: us) ∧ fP l := by
 match r, h with
 | .str s :: us, h => exact ⟨⟨s, us, rfl⟩, h⟩
theorem qZ {k : List UInt8} {cs : List C} : ∀ {l : List (List C)}, fP l → eV k l = some cs → (.str k :: cs) ∈ l
 | [], _, h => by simp [eV] at h
 | r :: l, hm, h => by
  obtain ⟨⟨s, us, rfl⟩, hm'⟩ := j3 hm;simp only [eV] at h;split at h
  ·rename_i hs;cases h; subst hs; simp
  ·exact zq3 _ (qZ hm' h)
theorem y8 {k : List UInt8} {cs : List C} : ∀ {l : List (List C)}, fP l → (.str k :: cs) ∈ l → ∃ cs', eV k l = some cs'
 | [], _, h => by simp at h
 | r :: l, hm, h => by
  obtain ⟨⟨s, us, rfl⟩, hm'⟩ := j3 hm;simp only [eV];split
  ·exact ⟨us, rfl⟩
  ·rename_i hs;rcases mem_cons.1 h with h | h
   ·cases h; exact absurd rfl hs
   ·exact y8 hm' h
theorem aD9 {k : List UInt8} {vs : List C} {r : List C} : ∀ {l : List (List C)}, fP l → r ∈ oP k vs l → r = .str k :: vs ∨ r ∈ l
 | [], _, h => by simp only [oP, mem_singleton] at h; exact .inl h
 | r' :: l, hm, h => by
  obtain ⟨⟨s, us, rfl⟩, hm'⟩ := j3 hm;simp only [oP] at h;split at h
  ·rcases mem_cons.1 h with h | h
   ·exact .inl h
   ·exact .inr (zq3 _ h)
  ·rcases mem_cons.1 h with h | h
   ·exact .inr (by rw [h]; simp)
   ·exact (aD9 hm' h).imp id fun h => zq3 _ h
theorem pL {k k' : List UInt8} {vs cs : List C} : ∀ {l : List (List C)}, fP l → k' = k ∨ (.str k' :: cs) ∈ l → ∃ cs', (.str k' :: cs') ∈ oP k vs l
 | [], _, h => by
  rcases h with rfl | h
  ·exact ⟨vs, by simp [oP]⟩
  ·simp at h
 | r' :: l, hm, h => by
  obtain ⟨⟨s, us, rfl⟩, hm'⟩ := j3 hm;simp only [oP];split
  ·rename_i hs;subst hs;rcases h with rfl | h
   ·exact ⟨vs, by simp⟩
   ·rcases mem_cons.1 h with h | h
    ·cases h; exact ⟨vs, by simp⟩
    ·exact ⟨cs, zq3 _ h⟩
  ·rcases h with rfl | h
   ·obtain ⟨cs', h⟩ := pL (cs := cs) (vs := vs) hm' (.inl rfl);exact ⟨cs', zq3 _ h⟩
   ·rcases mem_cons.1 h with h | h
    ·cases h; exact ⟨_, zq2 ..⟩
    ·obtain ⟨cs', h⟩ := pL (k := k) (vs := vs) hm' (.inr h);exact ⟨cs', zq3 _ h⟩
theorem sA {S : Sto} {agg : Bool} {e : MapEntry} : ∀ {T : List (List C)}, eY S agg T e → ∃ r ∈ T, ∃ vs, c9 S r (e.key :: vs) ∧ (e.val = if agg then .agg ⟨vs⟩ else vs.headD undef) ∧ (agg = false → vs.length = 1)
 | [], h => by simp only [eY] at h
 | r :: T, h => by
  simp only [eY] at h;rcases h with h | h
  ·exact ⟨r, by simp, h⟩
  ·obtain ⟨r', h1, h2⟩ := sA h;exact ⟨r', zq3 _ h1, h2⟩
theorem xI {S : Sto} {agg : Bool} {e : MapEntry} : ∀ {T : List (List C)} {r : List C}, r ∈ T → (∃ vs, c9 S r (e.key :: vs) ∧ (e.val = if agg then .agg ⟨vs⟩ else vs.headD undef) ∧ (agg = false → vs.length = 1)) → eY S agg T e
 | r' :: T, r, h, k => by
  simp only [eY];rcases mem_cons.1 h with h | h
  ·subst h; exact .inl k
  ·exact .inr (xI h k)
theorem qI {S : Sto} {agg : Bool} {T : List (List C)} : ∀ {es : List MapEntry}, (∀ e ∈ es, eY S agg T e) → ∃ ents, b7 S agg ents es ∧ ∀ r ∈ ents, r ∈ T
 | [], _ => ⟨[], by simp [b7], by simp⟩
 | e :: es, h => by
  obtain ⟨r, h1, h2⟩ := sA (h e (by simp));obtain ⟨ents, h3, h4⟩ := qI fun x hx => h x (zq3 _ hx)
  exact ⟨r :: ents, by simp only [b7]; exact ⟨e, es, rfl, h2, h3⟩, fun q hq => by
   rcases mem_cons.1 hq with rfl | hq
   ·exact h1
   ·exact h4 q hq⟩
theorem yR {S : Sto} {agg : Bool} {T : List (List C)} : ∀ {ents : List (List C)} {es : List MapEntry}, b7 S agg ents es → (∀ r ∈ ents, r ∈ T) → ∀ e ∈ es, eY S agg T e
 | [], _, h, _, e, he => by simp only [b7] at h; subst h; simp at he
 | r :: ents, _, h, k, e, he => by
  simp only [b7] at h;obtain ⟨e0, es', rfl, h1, h2⟩ := h;rcases mem_cons.1 he with rfl | he
  ·exact xI (k r (by simp)) h1
  ·exact yR h2 (fun q hq => k q (zq3 _ hq)) e he
theorem vJ {T : List (List C)} (hT : fP T) : ∀ {l : List (List C)}, (∀ r ∈ l, r ∈ T) → fP l
 | [], _ => trivial
 | r :: l, h => by
  have key : ∀ {T : List (List C)}, fP T → r ∈ T → ∃ s us, r = .str s :: us := by
   intro T
   induction T with
   | nil => intro _ h; simp at h
   | cons x T ih =>
    intro hm h;obtain ⟨h1, h2⟩ := j3 hm;rcases mem_cons.1 h with rfl | h
    ·exact h1
    ·exact ih h2 h
  obtain ⟨s, us, rfl⟩ := key hT (h r (by simp));show fP l;exact vJ hT fun q hq => h q (zq3 _ hq)
theorem pV {S : Sto} {agg : Bool} {k : List UInt8} : ∀ {ents : List (List C)} {es : List MapEntry}, fP ents → b7 S agg ents es → ((∃ e ∈ es, e.key = .string ⟨⟨k⟩⟩) ↔ ∃ cs, (.str k :: cs) ∈ ents)
 | [], _, _, h => by simp only [b7] at h; subst h; simp
 | r :: ents, _, hm, h => by
  obtain ⟨⟨s, us, rfl⟩, hm'⟩ := j3 hm;simp only [b7] at h;obtain ⟨e0, es', rfl, ⟨vs, h1, _⟩, h2⟩ := h;simp only [c9, Rep] at h1;obtain ⟨v, vs', hv, h3, _⟩ := h1;have hkey : e0.key = .string ⟨⟨s⟩⟩ := by injection hv with h4 _; rw [h4, h3]
  have ih := pV (k := k) hm' h2;constructor
  ·rintro ⟨e, he, hk⟩;rcases mem_cons.1 he with rfl | he
   ·rw [hkey] at hk;have hsk : s = k := by simpa using hk
    subst hsk;exact ⟨us, by simp⟩
   ·obtain ⟨cs, hc⟩ := ih.1 ⟨e, he, hk⟩;exact ⟨cs, zq3 _ hc⟩
  ·rintro ⟨cs, hc⟩;rcases mem_cons.1 hc with hc | hc
   ·cases hc;exact ⟨e0, by simp, hkey⟩
   ·obtain ⟨e, he, hk⟩ := ih.2 ⟨cs, hc⟩;exact ⟨e, zq3 _ he, hk⟩
section
variable {P : Program} {n : Nat}
theorem aFt {o : Oper} {st : St} {d : Nat} {t : TypeId} {id : Nat} {agg : Bool} {T : List (List C)} (hT0 : T ≠ []) (ho : o.op = .makeMap t none) (hd : o.dst = some d) (hdn : d < n) (hid : st.h id = none) : Step P n o st ⟨[], [id]⟩ ⟨some (d, some (.one (.mr id))), [(id, some (.map agg ([] :: T)))]⟩ := by
 intro st' ha G S μ a w K Q hs hk';refine qM id agg ho hd hdn hid st' ha G S μ a w K Q hs fun S1 μ1 a1 w1 h1 => hk' S1 μ1 a1 w1 ?_
 have hid1 : updL st'.h [(id, some (.map agg []))] id = some (.map agg []) := by rw [bQ, aI]
 obtain ⟨b, es, clk, g1, g2, g3, g4⟩ := h1.inv.obj id _ hid1;have g3' := g3.rep (ents := []) trivial;simp only [b7] at g3';have h2 := h1.turnMap (id := id) (agg := agg) (ents := []) (ents' := [] :: T) hid1 ⟨b, es, clk, g1, g2, .inr (.inr ⟨T, rfl, hT0, by rw [g3']; simp⟩), .inl (g4.kn0 trivial)⟩;have e : (upd (updL st'.h [(id, some (.map agg []))]) id (some (.map agg ([] :: T)))) = updL st'.h [(id, some (.map agg ([] :: T)))] := by
  rw [bQ, bQ, k7]
 have h3 : Sim G n S1 μ1 ⟨upd st'.e d (some (.one (.mr id))), upd (updL st'.h [(id, some (.map agg []))]) id (some (.map agg ([] :: T))), st'.d⟩ a1 w1 := h2;rw [e] at h3;exact h3
theorem iY {o : Oper} {st : St} {T : TT} {t kt et : TypeId} {i ki : TI} {x y z : Operand} {id tid : Nat} {agg : Bool} {k : List UInt8} {v : V} {rs : List R} {cs : List C} {ids : List Nat} {Tr : List (List C)} (hT : Tok P T) (ho : o.op = .insert t x y z) (hd : o.dst = none) (hi : T[t]? = some (some i)) (hk : i.k = .mp kt et)
  (hki : T[kt]? = some (some ki)) (hkk : ki.k = .str) (hx : opv st x = some (.one (.mr id))) (hh : st.h id = some (.map agg ([] :: Tr))) (hmT : fP Tr) (htid : st.h tid = none) (hy : opv st y = some (Go.AM.T k))
  (hz : opv st z = some v) (hva : (match v with | .one _ => !agg | .pa _ => agg | .ma _ => agg | _ => false) = true) (hc : fT v = some rs) (hp : PureL st.h ids rs cs) (hrow : (.str k :: cs) ∈ Tr) :
  Step P n o st ⟨opr x ++ opr y ++ opr z, id :: tid :: ids⟩ ⟨none, [(tid, some (.tok (.mr id) k))]⟩ := by
 intro st' ha G S μ a w K Q hs hK;have hh' : st'.h id = some (.map agg ([] :: Tr)) := (ha.2 id (by simp)).trans hh;have ht' : st'.h tid = none := (ha.2 tid (by simp)).trans htid;have hne : id ≠ tid := fun e => by rw [e, ht'] at hh'; cases hh'
 have h1 := aM hs hx fun t h => ha.1 t (by simp [h])
 have h3 := jK (aM hs hy fun t h => ha.1 t (by simp [h]));have hv := aM hs hz fun t h => ha.1 t (by simp [h])
 simp only [aV, b8] at h1;obtain ⟨agg', ents', b, c, q1, q2, q3⟩ := h1;obtain ⟨b', es, clk, g1, g2, g3, g4⟩ := hs.inv.obj id _ hh';rw [g1] at q2; cases q2;have hTr : Tr ≠ [] := fun e => by subst e; simp at hrow
 have hrows : ∀ e ∈ es.toList, eY S agg Tr e := by
  rcases g3 with ⟨e, _⟩ | g3 | ⟨T', e, _, h⟩
  ·cases e; exact absurd rfl hTr
  ·simp only [b7, c9] at g3;obtain ⟨_, _, _, ⟨_, g, _⟩, _⟩ := g3;cases g
  ·cases e; exact h
 obtain ⟨ents, hents, hsub⟩ := qI hrows;have hms := vJ hmT hsub;have hrep := hp.rel (fun i h => ha.2 i (by simp [h])) hs.inv.obj (dN hv hc);have hval : a.eval z = (if agg then .agg ⟨(a.eval z).cells.toList⟩ else (a.eval z).cells.toList.headD undef) ∧ (agg = false → (a.eval z).cells.toList.length = 1) := by
  cases v with
  | one r =>
   simp at hva;subst hva;simp only [aV] at hv;rw [hv.one.1];simp
  | pa l =>
   simp at hva;subst hva;simp only [aV] at hv;obtain ⟨vs, hv, _⟩ := hv;rw [hv];simp [Value.cells]
  | ma l =>
   simp at hva;subst hva;simp only [aV] at hv;obtain ⟨vs, hv, _⟩ := hv;rw [hv];simp [Value.cells]
  | tup l => simp at hva
 obtain ⟨es', clk', hrun, hnew⟩ := aH6 (P := P) hT ho hi hk hki hkk q3 h3 g2 hents hms hrep hval;have hkeys : ∀ k', k' = k ∨ yF k' es → yF k' es' := fun k' h => by
  refine (pV (aBb hms) hnew).2 ?_;rcases h with h | h
  ·exact pL (cs := []) hms (.inl h)
  ·obtain ⟨cs', h⟩ := (pV hms hents).1 h;exact pL hms (.inr h)
 have hlt := dC g2
 let w' : World := { w with heap := w.heap.setIfInBounds b (.map es' clk') }
 have hwb : w'.heap[b]? = some (.map es' clk') := by simp [w', hlt]
 have hwo : ∀ j, j ≠ b → w'.heap[j]? = w.heap[j]? := fun j hj => by
  show (w.heap.setIfInBounds b _)[j]? = _;rw [Array.getElem?_setIfInBounds, if_neg (fun e => hj e.symm)]
 let S' : Sto := ⟨S.cell, fun b' => if b' = b then some (.part fun k' => yF k' es') else S.mapo b'⟩
 have hSb : S'.mapo b = some (.part fun k' => yF k' es') := if_pos rfl;have hSo : ∀ j, j ≠ b → S'.mapo j = S.mapo j := fun j hj => if_neg hj
 have hle : S.le S' := ⟨fun _ _ _ e => e, fun b' m e => by
  by_cases hb : b' = b
  ·subst hb;refine ⟨_, hSb, ?_⟩;rcases g4 with g4 | ⟨_, ks, _, _, g4⟩
   ·rw [g4] at e; cases e
   ·rw [g4] at e; cases e;obtain ⟨es0, clk0, p1, p2⟩ := hs.inv.holds.2 _ _ g4;rw [g2] at p1; cases p1;exact fun k' h => hkeys k' (.inr (p2 k' h))
  ·exact ⟨m, by rw [hSo b' hb]; exact e, m.le_refl⟩⟩
 have hE : Evolve S μ st'.h S' (upd μ tid none) (upd st'.h tid (some (.tok (.mr id) k))) := ⟨hle, fun j x hj => by
  have hjt : j ≠ tid := fun e => by rw [e, ht'] at hj; cases hj
  exact ⟨x, by rw [aS _ _ _ hjt]; exact hj, x.succ_refl (aS _ _ _ hjt)⟩⟩
 have hoth : ∀ j x, st'.h j = some x → j ≠ id → ∀ b' c', μ j = some (b', c') → b' ≠ b := by
  rintro j x hj hji b' c' hm rfl;exact hji (hs.inv.inj j id x _ b' c' _ hj hh' hm g1)
 have hfr : ∀ j, j < G.w0.heap.size → ¬ G.F j → j ≠ b := by
  rintro j hj hF rfl;rcases hs.inv.own id _ _ _ hh' g1 with h | h
  ·omega
  ·exact hF h
 have hold : ∀ j x, upd st'.h tid (some (.tok (.mr id) k)) j = some x → j ≠ tid → st'.h j = some x := fun j x hj hjt => by rwa [aS _ _ _ hjt] at hj
 have hI : Inv G S' (upd μ tid none) (upd st'.h tid (some (.tok (.mr id) k))) w' := by
  refine ⟨⟨fun b' o u e => ?_, fun b' m e => ?_⟩, fun j x hj => ?_, fun i j x x' b1 c1 c2 hi hj m1 m2 => ?_, fun i x b1 c1 hi m1 => ?_, ?_, Sto.le_trans hs.inv.sle hle, fun b' hb hF => ?_, hs.inv.evo.trans hE⟩
  ·obtain ⟨vs, t', fr, p1, p2⟩ := hs.inv.holds.1 b' o u e;have hb : b' ≠ b := by rintro rfl; rw [g2] at p1; cases p1
   exact ⟨vs, t', fr, by rw [hwo b' hb]; exact p1, p2⟩
  ·by_cases hb : b' = b
   ·subst hb;rw [hSb] at e; cases e;exact ⟨es', clk', hwb, fun _ h => h⟩
   ·rw [hSo b' hb] at e;rw [hwo b' hb];exact hs.inv.holds.2 b' m e
  ·by_cases hjt : j = tid
   ·subst hjt;have hj' : some (AObj.tok (.mr id) k) = some x := by rw [← hj]; exact (aI _ _ _).symm
    cases hj';refine ⟨aI _ _ _, b, ?_, _, hSb, hkeys k (.inl rfl)⟩;simp only [b8];exact ⟨agg, _, b, _, by rw [aS _ _ _ hne]; exact hh', by rw [aS _ _ _ hne]; exact g1, rfl⟩
   ·have hj' := hold j x hj hjt;by_cases hji : j = id
    ·subst hji;rw [hh'] at hj'; cases hj';refine ⟨b, es', clk', by rw [aS _ _ _ hne]; exact g1, hwb, .inr (.inr ⟨Tr, rfl, hTr, ?_⟩), .inr ⟨Tr, _, rfl, hTr, hSb⟩⟩;refine fun e he => eY.mono hle _ _ _ (yR hnew (fun r hr => ?_) e he)
     rcases aD9 hms hr with rfl | hr
     ·exact hrow
     ·exact hsub r hr
    ·refine (hs.inv.obj j x hj').evolve hE (aS _ _ _ hjt) fun b1 c1 hm => ?_
     have hb := hoth j x hj' hji b1 c1 hm;exact ⟨hwo b1 hb, fun _ => rfl, hSo b1 hb⟩
  ·have e1 : i ≠ tid := fun e => by subst e; rw [aI] at m1; cases m1
   have e2 : j ≠ tid := fun e => by subst e; rw [aI] at m2; cases m2
   rw [aS _ _ _ e1] at m1;rw [aS _ _ _ e2] at m2;exact hs.inv.inj i j x x' b1 c1 c2 (hold i x hi e1) (hold j x' hj e2) m1 m2
  ·have e1 : i ≠ tid := fun e => by subst e; rw [aI] at m1; cases m1
   rw [aS _ _ _ e1] at m1;exact hs.inv.own i x b1 c1 (hold i x hi e1) m1
  ·refine ⟨hs.inv.frame.os, hs.inv.frame.tape, hs.inv.frame.output, ?_, fun j hj hF => ?_, hs.inv.frame.tab⟩
   ·show G.w0.heap.size ≤ (w.heap.setIfInBounds b _).size;rw [Array.size_setIfInBounds];exact hs.inv.frame.size
   ·rw [hwo j (hfr j hj hF)];exact hs.inv.frame.block j hj hF
  ·obtain ⟨p1, p2⟩ := hs.inv.sto b' hb hF;exact ⟨p1, (hSo b' (hfr b' hb hF)).trans p2⟩
 refine fun ro => oJ hrun ?_
 rw [hd];refine hK S' (upd μ tid none) _ _ ?_;have := hs.put_none hI hE undef;unfold Eff.apply;rw [bQ];exact this
theorem Sub.fmapU {kf : List Nat} {st : St} {id : Nat} {agg : Bool} {T : List (List C)} (hid : st.h id = some (.map agg ([] :: T))) (hkf : id ∉ kf) (hT0 : T ≠ []) (htok : ∀ k cs, (.str k :: cs) ∈ T → ∃ tid, st.h tid = some (.tok (.mr id) k)) :
  Sub kf ⟨fun t => (st.e t).map (V.fz id (.map agg ([] :: T))), hfz id (.map agg ([] :: T)) st.h, st.d⟩ st := by
 intro G n S μ a w hg hs;obtain ⟨b, es, clk, h1, h2, h3, h4⟩ := hs.inv.obj id _ hid;obtain ⟨S', hS1, hS2, hS3, hle, hh⟩ := aN3 hs.inv.holds h2;refine ⟨S', μ, pT hid rfl hkf hg hs hle hh ?_ fun b' hb => ⟨fun _ => by rw [hS1], ?_⟩⟩
 ·intro b' c hm;rw [h1] at hm; cases hm;refine ⟨es, clk, hS2, .inr ?_⟩;simp only [aGz];refine ⟨trivial, fun e he => ?_, fun k cs hk => ?_⟩
  ·refine eY.mono hle _ _ _ ?_;rcases h3 with ⟨e, _⟩ | h3 | ⟨T', e, _, h⟩
   ·cases e; exact absurd rfl hT0
   ·simp only [b7, c9] at h3;obtain ⟨_, _, _, ⟨_, g, _⟩, _⟩ := h3;cases g
   ·cases e; exact h _ he
  ·obtain ⟨tid, ht⟩ := htok k cs hk;obtain ⟨_, b2, q1, m, q2, q3⟩ := hs.inv.obj tid _ ht;simp only [b8] at q1;obtain ⟨_, _, b3, c3, p1, p2, p3⟩ := q1;rw [h1] at p2; cases p2;cases p3;obtain ⟨es0, clk0, p4, p5⟩ := MK.holds_map (hs.inv.holds.2 _ _ q2);rw [h2] at p4; cases p4;exact p5 k q3
 ·exact hS3 b' fun e => hb (0, 0) (by rw [e]; exact h1)
theorem qN {o : Oper} {st : St} {d : Nat} {T : TT} {t kt et : TypeId} {i ki ei : TI} {x y : Operand} {ok : Bool} {agg : Bool} {Tr : List (List C)} {k : List UInt8} {r : Option (List C)} (hT : Tok P T) (ho : o.op = .lookup t x y ok) (hd : o.dst = some d) (hdn : d < n) (hi : T[t]? = some (some i)) (hk : i.k = .mp kt et)
  (hki : T[kt]? = some (some ki)) (hkk : ki.k = .str) (hei : T[et]? = some (some ei)) (hag : ei.k.agg = agg) (hx : opv st x = some (.one (.c (.mp agg ([] :: Tr))))) (hms : fP Tr) (hu : uniq Tr) (hy : opv st y = some (Go.AM.T k)) (hr : eV k Tr = r) :
  Step P n o st ⟨opr x ++ opr y, []⟩ ⟨some (d, some (if ok then .tup [n7 ei r, B (vV r)] else n7 ei r)), []⟩ :=
 xV hT ho hd hdn hi hk hki hkk hei hag hy fun st' ha G S μ a w hs => by
  have hv := aM hs hx fun t h => ha.1 t (by simp [h])
  simp only [aV, b8, Rep] at hv;obtain ⟨b, es, clk, h1, h2, h3⟩ := hv;rcases h3 with h3 | h3
  ·simp only [b7, c9] at h3;obtain ⟨_, _, _, ⟨_, g, _⟩, _⟩ := h3;cases g
  ·simp only [aGz] at h3;obtain ⟨_, h4, h5⟩ := h3;obtain ⟨ents, h6, h7⟩ := qI h4;have hm' := vJ hms h7;refine ⟨es, ents, hm', ?_, h6, .inr ⟨b, clk, h1, hs.inv.holds.2 _ _ h2⟩⟩;rw [← hr];cases hq : eV k ents with
   | some cs => exact (hu k cs (h7 _ (qZ hm' hq))).symm
   | none =>
    cases hq2 : eV k Tr with
    | none => rfl
    | some cs =>
     obtain ⟨cs', h8⟩ := (pV hm' h6).1 (h5 k cs (qZ hms hq2))
     obtain ⟨cs'', h9⟩ := y8 hm' h8;rw [hq] at h9; cases h9
end
mutual
def R.toC : R → Option C
 | .c x => some x
 | .clo f caps => (R.toCL caps).map (C.clo f)
 | _ => none
def R.toCL : List R → Option (List C)
 | [] => some []
 | r :: rs => (R.toC r).bind fun x => (R.toCL rs).map (x :: ·)
end
mutual
theorem b8.toC {S : Sto} {μ : Mu} {H : cF} : ∀ (r : R) (x : C) (v : Value), r.toC = some x → b8 S μ H r v → Rep S x v
 | .c x, y, v, h, k => by
  simp only [R.toC, Option.some.injEq] at h;subst h;simpa only [b8] using k
 | .clo f caps, y, v, h, k => by
  simp only [R.toC, Option.map_eq_some_iff] at h;obtain ⟨l, h1, rfl⟩ := h;simp only [b8] at k;obtain ⟨vs, h2, h3⟩ := k;simp only [Rep];exact ⟨vs, h2, aU.toC caps l vs h1 h3⟩
 | .hs .., _, _, h, _ => by simp [R.toC] at h
 | .tl .., _, _, h, _ => by simp [R.toC] at h
 | .vp .., _, _, h, _ => by simp [R.toC] at h
 | .ep .., _, _, h, _ => by simp [R.toC] at h
 | .mr .., _, _, h, _ => by simp [R.toC] at h
 | .mth .., _, _, h, _ => by simp [R.toC] at h
 | .yl .., _, _, h, _ => by simp [R.toC] at h
 | .ra .., _, _, h, _ => by simp [R.toC] at h
 | .rp .., _, _, h, _ => by simp [R.toC] at h
 | .ras .., _, _, h, _ => by simp [R.toC] at h
 | .pas .., _, _, h, _ => by simp [R.toC] at h
theorem aU.toC {S : Sto} {μ : Mu} {H : cF} : ∀ (rs : List R) (l : List C) (vs : List Value), R.toCL rs = some l → aU S μ H rs vs → c9 S l vs
 | [], l, vs, h, k => by
  simp only [R.toCL, Option.some.injEq] at h;subst h;simpa only [aU, c9] using k
 | r :: rs, l, vs, h, k => by
  simp only [R.toCL, Option.bind_eq_some_iff, Option.map_eq_some_iff] at h;obtain ⟨x, h1, l', h2, rfl⟩ := h;simp only [aU] at k;obtain ⟨v, vs', rfl, h3, h4⟩ := k;simp only [c9];exact ⟨v, vs', rfl, b8.toC r x v h1 h3, aU.toC rs l' vs' h2 h4⟩
end
theorem c9.rrel {S : Sto} {μ : Mu} {H : cF} : ∀ {l : List C} {vs : List Value}, c9 S l vs → aU S μ H (l.map R.c) vs
 | [], _, h => by simpa only [c9, map_nil, aU] using h
 | _ :: l, _, h => by
  simp only [c9] at h;obtain ⟨v, vs', rfl, h1, h2⟩ := h;simp only [map_cons, aU];exact ⟨v, vs', rfl, by simp only [b8]; exact h1, c9.rrel h2⟩
theorem Sub.varRe {kf : List Nat} {st : St} {x tv : Nat} {cells cells' : List R} (h : st.h x = some (.var tv cells)) (hc : ∀ S μ vs, aU S μ st.h cells vs → aU S μ st.h cells' vs) : Sub kf ⟨st.e, upd st.h x (some (.var tv cells')), st.d⟩ st := by
 intro G n S μ a w _ hs;have hi := hs.inv;obtain ⟨b, vs, g1, g2, g3, g4⟩ := hi.obj x _ h
 have hE2 : Evolve S μ st.h S μ (upd st.h x (some (.var tv cells'))) := ⟨S.le_refl, fun j y hj => by
  by_cases hjx : j = x
  ·subst hjx;rw [h] at hj; cases hj;exact ⟨_, aI _ _ _, by simp [AObj.succ]⟩
  ·exact ⟨y, by rw [aS _ _ _ hjx]; exact hj, y.succ_refl rfl⟩⟩
 have hold : ∀ j y, upd st.h x (some (.var tv cells')) j = some y → ∃ y', st.h j = some y' := fun j y hj => by
  by_cases hjx : j = x
  ·subst hjx; exact ⟨_, h⟩
  ·rw [aS _ _ _ hjx] at hj; exact ⟨_, hj⟩
 refine ⟨S, μ, ⟨⟨hi.holds, fun j y hj => ?_, fun i j y y' b c c' hi' hj hm hm' => ?_, fun i y b c hi' hm => ?_, hi.frame, hi.sle, hi.sto, hi.evo.trans hE2⟩, hs.size, hs.defers.evolve hE2, fun s v e => aV.evolve hE2 v _ (hs.env s v e)⟩⟩
 ·by_cases hjx : j = x
  ·subst hjx;have hj' : some (AObj.var tv cells') = some y := by rw [← hj]; exact (aI _ _ _).symm
   cases hj';exact ⟨b, vs, g1, g2, aU.evolve hE2 _ _ (hc _ _ _ g3), g4⟩
  ·have hj' : st.h j = some y := by rw [← hj]; exact (aS _ _ _ hjx).symm
   exact (hi.obj j y hj').evolve hE2 rfl fun _ _ _ => ⟨rfl, fun _ => rfl, rfl⟩
 ·obtain ⟨_, h1⟩ := hold _ _ hi';obtain ⟨_, h2⟩ := hold _ _ hj;exact hi.inj i j _ _ b c c' h1 h2 hm hm'
 ·obtain ⟨_, h1⟩ := hold _ _ hi';exact hi.own i _ b c h1 hm
theorem Sub.varC {kf : List Nat} {st : St} {x tv : Nat} {rs : List R} (l : List C) (h : st.h x = some (.var tv rs)) (hl : R.toCL rs = some l) : Sub kf ⟨st.e, upd st.h x (some (.var tv (l.map R.c))), st.d⟩ st :=
 Sub.varRe h fun _ _ vs k => (aU.toC rs l vs hl k).rrel
theorem Step.retell {P : Program} {n : Nat} {o : Oper} {st : St} {rd : Rd} {f : Eff} (t : Nat) {u u' : V} (h : st.e t = some u) (hu : ∀ S μ H v, aV S μ H u v ↔ aV S μ H u' v) (hs : Step P n o ⟨upd st.e t (some u'), st.h, st.d⟩ rd f) (ht : t ∈ rd.e) : Step P n o st rd f := by
 intro st' ha G S μ a w K Q hsim hk;have ht' : st'.e t = some u := (ha.1 t ht).trans h;refine hs ⟨upd st'.e t (some u'), st'.h, st'.d⟩ ⟨fun s hs => ?_, ha.2⟩ G S μ a w K Q ?_ fun S1 μ1 a1 w1 h1 => hk S1 μ1 a1 w1 ?_
 ·show upd st'.e t (some u') s = upd st.e t (some u') s;by_cases e : s = t
  ·subst e; rw [aI, aI]
  ·rw [aS _ _ _ e, aS _ _ _ e]; exact ha.1 s hs
 ·refine ⟨hsim.inv, hsim.size, hsim.defers, fun s v e => ?_⟩;by_cases hst : s = t
  ·subst hst;have e' : u' = v := by
    have : some u' = some v := by rw [← e]; exact (aI _ _ _).symm
    cases this; rfl
   subst e';exact (hu _ _ _ _).1 (hsim.env s _ ht')
  ·exact hsim.env s v (by rw [← e]; exact (aS _ _ _ hst).symm)
 ·refine ⟨h1.inv, h1.size, h1.defers, fun s v e => ?_⟩;obtain ⟨fd, fh⟩ := f;cases fd with
  | none =>
   by_cases hst : s = t
   ·subst hst;have e0 : st'.e s = some v := e;rw [ht'] at e0; cases e0;exact (hu _ _ _ _).2 (h1.env s u' (aI _ _ _))
   ·exact h1.env s v (by rw [← e]; exact aS _ _ _ hst)
  | some q =>
   obtain ⟨d, vd⟩ := q;by_cases hsd : s = d
   ·subst hsd;refine h1.env s v ?_;have e0 : upd st'.e s vd s = some v := e;show upd (upd st'.e t (some u')) s vd s = some v;rw [aI] at e0 ⊢;exact e0
   ·have e0 : upd st'.e d vd s = some v := e;rw [aS _ _ _ hsd] at e0;by_cases hst : s = t
    ·subst hst;rw [ht'] at e0; cases e0;refine (hu _ _ _ _).2 (h1.env s u' ?_);show upd (upd st'.e s (some u')) d vd s = some u';rw [aS _ _ _ hsd, aI]
    ·refine h1.env s v ?_;show upd (upd st'.e t (some u')) d vd s = some v;rw [aS _ _ _ hsd, aS _ _ _ hst];exact e0
theorem aOp {f : FuncId} {l : List C} : ∀ S μ H v, aV S μ H (.one (.c (.clo f l))) v ↔ aV S μ H (.one (.clo f (l.map R.c))) v := fun S μ H v => by
 simp only [aV, b8, Rep];exact ⟨fun ⟨vs, h1, h2⟩ => ⟨vs, h1, h2.rrel⟩, fun ⟨vs, h1, h2⟩ => ⟨vs, h1, h2.pure⟩⟩
theorem aKl {f : FuncId} : ∀ S μ H v, aV S μ H (.one (.c (.fn f))) v ↔ aV S μ H (.one (.clo f [])) v := fun S μ H v => by
 simp only [aV, b8, Rep, aU];exact ⟨fun h => ⟨[], h, rfl⟩, fun ⟨vs, h1, h2⟩ => by rw [h1, h2]⟩
section
variable {P : Program} {n : Nat} {ops : Array Oper} {draw : Bool} {k d : Nat} {st : St} {pre : REs} {Q : St → Prop} {o : Oper} {f : FuncId} {xs : Array Operand} {ts : Array TypeId} {ids : List Nat} {args : List V} {res : V} {hin hout : List (Nat × AObj)}
theorem kvC {x : Operand} {s : Nat} {l : List C} (hf : aY P f (args ++ (l.map R.c).map V.one) hin res hout)
  (hk : jV P n ops draw (k + 1) ⟨upd st.e d (some res), updL st.h (outs hout), st.d⟩ ((⟨opr x ++ cN xs.toList, ids ++ keys hin ++ keys hout⟩, ⟨some (d, some res), outs hout⟩) :: pre) Q)
  (hb : jB P f := by exact wY (by kernel_rfl)) (ho : ops[k]? = some o := by rfl) (hg : o.guard = none := by rfl) (hop : o.op = .call { callee := .value x, args := xs, argTypes := ts } := by rfl) (hd : o.dst = some d := by rfl) (hdn : Nat.blt d n = true := by rfl) (hxs : x = .tmp s := by rfl) (hx : st.e s = some (.one (.c (.clo f l))) := by rfl)
  (ha : ArgsV ⟨upd st.e s (some (.one (.clo f (l.map R.c)))), st.h, st.d⟩ ids xs.toList args := by repeat (first | exact .nil | (apply Go.AM.ArgsV.cons rfl; (first | exact .refl | exact .one (.c .nl .nil) | exact .one (.c .sn .nil) | exact .one (.hs rfl (by first | rfl | simp) (by first | rfl | (simp; done) | (simp [Go.AM.take_map]; done) | exact Go.AM.take_map.symm) .nil) | exact Go.AM.hs_all rfl rfl (by first | rfl | assumption | (simp; done) | (simp; omega)) (by first | rfl | assumption | (simp; done)) | ((first | apply Go.AM.Conv.pa | apply Go.AM.Conv.agg); repeat (first | exact .nil | apply Go.AM.PureL.c .refl | apply Go.AM.PureL.c .nl | apply Go.AM.PureL.c .sn | (apply Go.AM.PureL.hs; rfl; (first | rfl | simp); (first | rfl | (simp; done) | (simp [Go.AM.take_map]; done) | exact Go.AM.take_map.symm))))))))
  (hin' : dP (fun p => st.h p.1 = some p.2) hin := by repeat (first | exact trivial | refine ⟨rfl, ?_⟩)) (hout' : dP (fun p => p.1 ∈ keys hin ∨ st.h p.1 = none) hout := by repeat (first | exact trivial | refine ⟨.inr rfl, ?_⟩ | refine ⟨.inl (by decide), ?_⟩ | refine ⟨.inl (by repeat (first | exact List.Mem.head _ | apply List.Mem.tail)), ?_⟩)) (hok : iE (args ++ (l.map R.c).map V.one) hin = true := by rfl) : jV P n ops draw k st pre Q :=
 k_ (g_ ho hg (Step.retell s hx aOp (uZ hin hout hb hop hd (eQ hdn) (by subst hxs; exact aI _ _ _) hf ha hin' hout' hok) (by subst hxs; simp [opr]))) hk
theorem kvF {x : Operand} {s : Nat} (hf : aY P f (args ++ (([] : List R)).map V.one) hin res hout)
  (hk : jV P n ops draw (k + 1) ⟨upd st.e d (some res), updL st.h (outs hout), st.d⟩ ((⟨opr x ++ cN xs.toList, ids ++ keys hin ++ keys hout⟩, ⟨some (d, some res), outs hout⟩) :: pre) Q)
  (hb : jB P f := by exact wY (by kernel_rfl)) (ho : ops[k]? = some o := by rfl) (hg : o.guard = none := by rfl) (hop : o.op = .call { callee := .value x, args := xs, argTypes := ts } := by rfl) (hd : o.dst = some d := by rfl) (hdn : Nat.blt d n = true := by rfl) (hxs : x = .tmp s := by rfl) (hx : st.e s = some (.one (.c (.fn f))) := by rfl)
  (ha : ArgsV ⟨upd st.e s (some (.one (.clo f (([] : List R))))), st.h, st.d⟩ ids xs.toList args := by repeat (first | exact .nil | (apply Go.AM.ArgsV.cons rfl; (first | exact .refl | exact .one (.c .nl .nil) | exact .one (.c .sn .nil) | exact .one (.hs rfl (by first | rfl | simp) (by first | rfl | (simp; done) | (simp [Go.AM.take_map]; done) | exact Go.AM.take_map.symm) .nil) | exact Go.AM.hs_all rfl rfl (by first | rfl | assumption | (simp; done) | (simp; omega)) (by first | rfl | assumption | (simp; done)) | ((first | apply Go.AM.Conv.pa | apply Go.AM.Conv.agg); repeat (first | exact .nil | apply Go.AM.PureL.c .refl | apply Go.AM.PureL.c .nl | apply Go.AM.PureL.c .sn | (apply Go.AM.PureL.hs; rfl; (first | rfl | simp); (first | rfl | (simp; done) | (simp [Go.AM.take_map]; done) | exact Go.AM.take_map.symm))))))))
  (hin' : dP (fun p => st.h p.1 = some p.2) hin := by repeat (first | exact trivial | refine ⟨rfl, ?_⟩)) (hout' : dP (fun p => p.1 ∈ keys hin ∨ st.h p.1 = none) hout := by repeat (first | exact trivial | refine ⟨.inr rfl, ?_⟩ | refine ⟨.inl (by decide), ?_⟩ | refine ⟨.inl (by repeat (first | exact List.Mem.head _ | apply List.Mem.tail)), ?_⟩)) (hok : iE (args ++ (([] : List R)).map V.one) hin = true := by rfl) : jV P n ops draw k st pre Q :=
 k_ (g_ ho hg (Step.retell s hx aKl (uZ hin hout hb hop hd (eQ hdn) (by subst hxs; exact aI _ _ _) hf ha hin' hout' hok) (by subst hxs; simp [opr]))) hk
theorem a08 {x : Operand} {s j t : Nat} {want b : Bool} (hf : aY P f (args ++ (([] : List R)).map V.one) hin res hout)
  (hk : jV P n ops draw (k + 1) ⟨upd st.e d (some res), updL st.h (outs hout), st.d⟩ ((⟨t :: (opr x ++ cN xs.toList), ids ++ keys hin ++ keys hout⟩, ⟨some (d, some res), outs hout⟩) :: pre) Q)
  (hb : jB P f := by exact wY (by kernel_rfl)) (ho : ops[k]? = some o := by rfl) (hg : o.guard = some (j, want) := by rfl) (hj : (ops[j]?).bind (·.dst) = some t := by rfl) (hbt : st.e t = some (.one (.c (.bool b))) := by rfl) (hw : b = want := by first | rfl | assumption) (hop : o.op = .call { callee := .value x, args := xs, argTypes := ts } := by rfl) (hd : o.dst = some d := by rfl) (hdn : Nat.blt d n = true := by rfl) (hxs : x = .tmp s := by rfl) (hx : st.e s = some (.one (.c (.fn f))) := by rfl)
  (ha : ArgsV ⟨upd st.e s (some (.one (.clo f (([] : List R))))), st.h, st.d⟩ ids xs.toList args := by repeat (first | exact .nil | (apply Go.AM.ArgsV.cons rfl; (first | exact .refl | exact .one (.c .nl .nil) | exact .one (.c .sn .nil) | exact .one (.hs rfl (by first | rfl | simp) (by first | rfl | (simp; done) | (simp [Go.AM.take_map]; done) | exact Go.AM.take_map.symm) .nil) | exact Go.AM.hs_all rfl rfl (by first | rfl | assumption | (simp; done) | (simp; omega)) (by first | rfl | assumption | (simp; done)) | ((first | apply Go.AM.Conv.pa | apply Go.AM.Conv.agg); repeat (first | exact .nil | apply Go.AM.PureL.c .refl | apply Go.AM.PureL.c .nl | apply Go.AM.PureL.c .sn | (apply Go.AM.PureL.hs; rfl; (first | rfl | simp); (first | rfl | (simp; done) | (simp [Go.AM.take_map]; done) | exact Go.AM.take_map.symm))))))))
  (hin' : dP (fun p => st.h p.1 = some p.2) hin := by repeat (first | exact trivial | refine ⟨rfl, ?_⟩)) (hout' : dP (fun p => p.1 ∈ keys hin ∨ st.h p.1 = none) hout := by repeat (first | exact trivial | refine ⟨.inr rfl, ?_⟩ | refine ⟨.inl (by decide), ?_⟩ | refine ⟨.inl (by repeat (first | exact List.Mem.head _ | apply List.Mem.tail)), ?_⟩)) (hok : iE (args ++ (([] : List R)).map V.one) hin = true := by rfl) : jV P n ops draw k st pre Q :=
 k_ (GStep.yes ho hg hj hbt hw (Step.retell s hx aKl (uZ hin hout hb hop hd (eQ hdn) (by subst hxs; exact aI _ _ _) hf ha hin' hout' hok) (by subst hxs; simp [opr]))) hk
end
theorem TIok.func {P : Program} {t : TypeId} {i : TI} (h : TIok P t i) (hk : i.k = .fn) : ∃ ps rs v, P.underlying t = some (.func ps rs v) := by
 obtain ⟨inf, d, z, h1, h2, h3, h4, h5, h6, h7, h8⟩ := h.ex;rw [hk] at h5;cases d <;> simp [TK.fits] at h5;exact ⟨_, _, _, h2⟩
def aTe : V → Option Bool
 | .one (.c (.zv 1)) => some true
 | .one (.c (.fn _)) => some false
 | .one (.c (.clo _ _)) => some false
 | .one (.clo _ _) => some false
 | _ => none
theorem aKk {S : Sto} {μ : Mu} {H : cF} {v : V} {u : Value} {b : Bool} (h : aV S μ H v u) (hb : aTe v = some b) : (b = true ∧ u = .nilFunc) ∨ (b = false ∧ ∃ f x y, u = .func f x y) := by
 unfold aTe at hb;split at hb
 ·cases hb; simp only [aV, b8, Rep, aRz] at h; exact .inl ⟨rfl, h⟩
 ·cases hb; simp only [aV, b8, Rep] at h; exact .inr ⟨rfl, _, _, _, h⟩
 ·cases hb; simp only [aV, b8, Rep] at h; obtain ⟨vs, h, _⟩ := h; exact .inr ⟨rfl, _, _, _, h⟩
 ·cases hb; simp only [aV, b8] at h; obtain ⟨vs, h, _⟩ := h; exact .inr ⟨rfl, _, _, _, h⟩
 ·cases hb
section
variable {P : Program} {n : Nat} {o : Oper} {st : St} {d : Nat} {T : TT}
theorem aH8 {t : TypeId} {ps rs : Array TypeId} {vv : Bool} (hu : P.underlying t = some (.func ps rs vv)) (d : Nat) (w : World) : (Op.equalIn (d + 1) t .nilFunc .nilFunc).run P w = .ok true w := by
 simp only [Op.equalIn, Sem.run_bind, run_underlying hu w, Result.andThen_ok, Sem.run_pure]
theorem aH7 {t : TypeId} {ps rs : Array TypeId} {vv : Bool} (hu : P.underlying t = some (.func ps rs vv)) (d : Nat) (f : Fn) (x y : Array Value) (w : World) : (Op.equalIn (d + 1) t (.func f x y) .nilFunc).run P w = .ok false w := by
 simp only [Op.equalIn, Sem.run_bind, run_underlying hu w, Result.andThen_ok, Sem.run_pure]
theorem aQc {tx ty : TypeId} {i : TI} {x y : Operand} {v : V} {b : Bool} (hT : Tok P T) (ho : o.op = .binOp .neq tx x y ty) (hd : o.dst = some d) (hdn : d < n) (hi : T[tx]? = some (some i)) (hk : i.k = .fn) (hx : opv st x = some v) (hv : aTe v = some b) (hy : opv st y = some (.one (.c (.zv 1)))) :
  Step P n o st ⟨opr x ++ opr y, []⟩ ⟨some (d, some (B (!b))), []⟩ := by
 refine Step.value hd hdn fun _ ha _ _ _ ac w hs => ?_
 have h2 := aM hs hy (dR ha).2;simp only [aV, b8, Rep, aRz] at h2;obtain ⟨ps, rs, vv, hu⟩ := (hT.get hi).func hk;rcases aKk (aM hs hx (dR ha).1) hv with ⟨rfl, h1⟩ | ⟨rfl, f, c1, c2, h1⟩
 ·exact ⟨.bool (!true), uS ho h1 h2 (fB _ _ _ _ _ _ _ rfl) rfl (aH8 hu _ _), by simp [aV, b8, Rep]⟩
 ·exact ⟨.bool (!false), uS ho h1 h2 (fB _ _ _ _ _ _ _ rfl) rfl (aH7 hu _ _ _ _ _), by simp [aV, b8, Rep]⟩
end
end Go.AM
namespace Go.Proofs.YtmoekkcdkjopgaaGreatDoor
open Go Go.AM
set_option maxRecDepth 20000
def opC (h g : FuncId) : List C := [.clo h [.pt [.fn g]], .zv 1]
theorem aO2 (g : FuncId) : aY Tryz.prog 138 [.one (.c (.fn g))] [] (.pa (opC 139 g)) [] := by
 refine c8 (n := 5) tok Tryz.func138 rfl rfl rfl ?_;refine a8 (ag [(0, .id 601)] rfl ?_);refine a8 (ag [] rfl ?_);refine AWp.sub (Sub.fvar (id := 601) (l := [.fn g]) rfl (by simp [keys])) ?_;refine AWp.sub (Sub.varC (x := 2) (opC 139 g) rfl rfl) ?_;exact aE (rtC trw)
theorem aXv (g : FuncId) : aY Tryz.prog 140 [.one (.c (.fn g))] [] (.pa (opC 141 g)) [] := by
 refine c8 (n := 5) tok Tryz.func140 rfl rfl rfl ?_;refine a8 (ag [(0, .id 601)] rfl ?_);refine a8 (ag [] rfl ?_);refine AWp.sub (Sub.fvar (id := 601) (l := [.fn g]) rfl (by simp [keys])) ?_;refine AWp.sub (Sub.varC (x := 2) (opC 141 g) rfl rfl) ?_;exact aE (rtC trw)
def aSx : List C := [.clo 139 [.pt [.fn 143]], .fn 144]
def rO : List (List C) := [
 .str aY2 :: opC 139 145,
 .str aYz :: opC 139 146,
 .str aY0 :: opC 139 147,
 .str aY1 :: aSx,
 .str nEq :: opC 141 148,
 .str nLt :: opC 141 149]
def a0t : C := .mp true ([] :: rO)
theorem mZ : fP rO := trivial
theorem aJe : uniq rO := by
 intro k cs h;simp only [rO, mem_cons, not_mem_nil, or_false, List.cons.injEq, C.str.injEq] at h;rcases h with ⟨rfl, rfl⟩ | ⟨rfl, rfl⟩ | ⟨rfl, rfl⟩ | ⟨rfl, rfl⟩ | ⟨rfl, rfl⟩ | ⟨rfl, rfl⟩ <;> rfl
theorem aXu : aY Tryz.prog 76 [] [] (.one (.c a0t)) [] := by
 refine c8 (n := 20) tok Tryz.func76 rfl rfl rfl ?_;refine a8 (ag [] rfl ?_);refine a8 (ag [] rfl ?_);refine a8 (ag [] rfl ?_);refine a8 (aF mixed ?_);refine ak 1 [] rfl ?_;refine kv (args := [.one (.c (.fn 143))]) (caps := []) (aO2 _) ?_ (ha := .cons rfl (.one (.fn .nil)) .nil);refine ak 2 [] rfl ?_;refine az ?_;refine a8 (ag [] rfl ?_);refine a8 (aF mixed ?_);refine k_ (g_ rfl rfl (aFt (d := 7) (id := 620) (agg := true) (T := rO) (by simp [rO]) rfl rfl (eQ rfl) rfl)) ?_;refine ak 1 [] rfl ?_;refine kv (args := [.one (.c (.fn 145))]) (caps := []) (aO2 _) ?_ (ha := .cons rfl (.one (.fn .nil)) .nil);refine k_ (g_ rfl rfl (iY (id := 620) (tid := 621) (agg := true) (Tr := rO) tok rfl rfl (tg rfl) rfl (tg rfl) rfl rfl rfl mZ rfl rfl rfl rfl rfl .of_pure (.head _))) ?_;refine ak 1 [] rfl ?_;refine kv (args := [.one (.c (.fn 146))]) (caps := []) (aO2 _) ?_ (ha := .cons rfl (.one (.fn .nil)) .nil);refine k_ (g_ rfl rfl (iY (id := 620) (tid := 622) (agg := true) (Tr := rO) tok rfl rfl (tg rfl) rfl (tg rfl) rfl rfl rfl mZ rfl rfl rfl rfl rfl .of_pure (.tail _ (.head _)))) ?_;refine ak 1 [] rfl ?_;refine kv (args := [.one (.c (.fn 147))]) (caps := []) (aO2 _) ?_ (ha := .cons rfl (.one (.fn .nil)) .nil);refine k_ (g_ rfl rfl (iY (id := 620) (tid := 623) (agg := true) (Tr := rO) tok rfl rfl (tg rfl) rfl (tg rfl) rfl rfl rfl mZ rfl rfl rfl rfl rfl .of_pure (.tail _ (.tail _ (.head _))))) ?_;refine ak 1 [] rfl ?_;refine k_ (g_ rfl rfl (iY (id := 620) (tid := 624) (agg := true) (Tr := rO) tok rfl rfl (tg rfl) rfl (tg rfl) rfl rfl rfl mZ rfl rfl rfl rfl rfl (.c .refl (.fn .nil)) (.tail _ (.tail _ (.tail _ (.head _)))))) ?_;refine ak 1 [] rfl ?_;refine kv (args := [.one (.c (.fn 148))]) (caps := []) (aXv _) ?_ (ha := .cons rfl (.one (.fn .nil)) .nil);refine k_ (g_ rfl rfl (iY (id := 620) (tid := 625) (agg := true) (Tr := rO) tok rfl rfl (tg rfl) rfl (tg rfl) rfl rfl rfl mZ rfl rfl rfl rfl rfl .of_pure (.tail _ (.tail _ (.tail _ (.tail _ (.head _))))))) ?_;refine ak 1 [] rfl ?_;refine kv (args := [.one (.c (.fn 149))]) (caps := []) (aXv _) ?_ (ha := .cons rfl (.one (.fn .nil)) .nil);refine k_ (g_ rfl rfl (iY (id := 620) (tid := 626) (agg := true) (Tr := rO) tok rfl rfl (tg rfl) rfl (tg rfl) rfl rfl rfl mZ rfl rfl rfl rfl rfl .of_pure (.tail _ (.tail _ (.tail _ (.tail _ (.tail _ (.head _)))))))) ?_;refine ak 2 [] rfl ?_;refine az ?_;refine AWp.sub (Sub.fmapU (id := 620) (agg := true) (T := rO) rfl (by simp [keys]) (by simp [rO]) fun k cs h => ?_) ?_
 ·simp only [rO, mem_cons, not_mem_nil, or_false, List.cons.injEq, C.str.injEq] at h;rcases h with ⟨rfl, _⟩ | ⟨rfl, _⟩ | ⟨rfl, _⟩ | ⟨rfl, _⟩ | ⟨rfl, _⟩ | ⟨rfl, _⟩
  ·exact ⟨621, rfl⟩
  ·exact ⟨622, rfl⟩
  ·exact ⟨623, rfl⟩
  ·exact ⟨624, rfl⟩
  ·exact ⟨625, rfl⟩
  ·exact ⟨626, rfl⟩
 exact aE rtT
end Go.Proofs.YtmoekkcdkjopgaaGreatDoor
namespace Go.AM
open Go
section
variable {fn : Func} {st : St} {hin hout : List (Nat × AObj)} {res res2 res3 : V}
theorem mO {tr : Tr} {a t u : Nat} {i : TI} {id off tv : Nat} {cells : List R} {v v2 : V} {ids ids2 : List Nat} (hw : tr.wf = true) (hr : fn.results.toList = [.cell a t, .tmp u] := by rfl) (hi : tr.get t = some i := by rfl) (ha : st.e a = some (.one (.vp id off)) := by rfl) (hh : st.h id = some (.var tv cells) := by rfl) (hb : Nat.ble (off + i.size) cells.length = true := by rfl) (hv : oX i ((cells.drop off).take i.size) = some v := by rfl) (hu : st.e u = some v2 := by rfl)
  (hc : Conv st.h ids v res := by first | exact .refl | exact .one (.c .nl .nil) | ((first | apply Go.AM.Conv.pa | apply Go.AM.Conv.agg); repeat (first | exact .nil | apply Go.AM.PureL.c .refl | apply Go.AM.PureL.c .nl | (apply Go.AM.PureL.hs; rfl; (first | rfl | assumption | simp); (first | rfl | exact Go.AM.take_all (by first | assumption | rfl | (simp; done)) | exact Go.AM.take_map.symm)))))
  (hc2 : Conv st.h ids2 v2 res2 := by exact .refl)
  (ho : dP (fun p => ∃ o, st.h p.1 = some o ∧ Ole (fun i => i) o p.2) hout := by repeat (first | exact trivial | refine ⟨⟨_, rfl, by first | exact Go.AM.Ole.arr | exact Go.AM.Ole.var rfl | exact Go.AM.Ole.varS rfl⟩, ?_⟩))
  (hok : (subset (V.tup [res, res2]).refs (keys hout) && subset (cQ hout) (keys hout) && distinct (keys hout) && subset (keys hin) (keys hout) && (hin.all fun p => p.2.plain) && (hout.all fun p => p.2.plain)) = true := by rfl) : (Exit.ret = .normal ∨ Exit.ret = .ret) ∧ Fin tr.flat fn st hin (.tup [res, res2]) hout :=
 ⟨.inr rfl, ⟨[v, v2], [res, res2], by rw [hr]; exact .cell ha (Tr.get_ok hw hi) hh hb hv (.tmp hu .nil), .cons hc (.cons hc2 .nil), rfl⟩, ho, hok⟩
theorem aYx {tr : Tr} {a t u u3 : Nat} {i : TI} {id off tv : Nat} {cells : List R} {v v2 v3 : V} {ids ids2 ids3 : List Nat} (hw : tr.wf = true) (hr : fn.results.toList = [.cell a t, .tmp u, .tmp u3] := by rfl) (hi : tr.get t = some i := by rfl) (ha : st.e a = some (.one (.vp id off)) := by rfl) (hh : st.h id = some (.var tv cells) := by rfl) (hb : Nat.ble (off + i.size) cells.length = true := by rfl) (hv : oX i ((cells.drop off).take i.size) = some v := by rfl) (hu : st.e u = some v2 := by rfl) (hu3 : st.e u3 = some v3 := by rfl)
  (hc : Conv st.h ids v res := by first | exact .refl | exact .one (.c .nl .nil) | ((first | apply Go.AM.Conv.pa | apply Go.AM.Conv.agg); repeat (first | exact .nil | apply Go.AM.PureL.c .refl | apply Go.AM.PureL.c .nl | (apply Go.AM.PureL.hs; rfl; (first | rfl | assumption | simp); (first | rfl | exact Go.AM.take_all (by first | assumption | rfl | (simp; done)) | exact Go.AM.take_map.symm)))))
  (hc2 : Conv st.h ids2 v2 res2 := by exact .refl) (hc3 : Conv st.h ids3 v3 res3 := by exact .refl)
  (ho : dP (fun p => ∃ o, st.h p.1 = some o ∧ Ole (fun i => i) o p.2) hout := by repeat (first | exact trivial | refine ⟨⟨_, rfl, by first | exact Go.AM.Ole.arr | exact Go.AM.Ole.var rfl | exact Go.AM.Ole.varS rfl⟩, ?_⟩))
  (hok : (subset (V.tup [res, res2, res3]).refs (keys hout) && subset (cQ hout) (keys hout) && distinct (keys hout) && subset (keys hin) (keys hout) && (hin.all fun p => p.2.plain) && (hout.all fun p => p.2.plain)) = true := by rfl) : (Exit.ret = .normal ∨ Exit.ret = .ret) ∧ Fin tr.flat fn st hin (.tup [res, res2, res3]) hout :=
 ⟨.inr rfl, ⟨[v, v2, v3], [res, res2, res3], by rw [hr]; exact .cell ha (Tr.get_ok hw hi) hh hb hv (.tmp hu (.tmp hu3 .nil)), .cons hc (.cons hc2 (.cons hc3 .nil)), rfl⟩, ho, hok⟩
end
end Go.AM
namespace Go.Proofs.YtmoekkcdkjopgaaGreatDoor
open Go Go.AM
set_option maxRecDepth 20000
set_option maxHeartbeats 4000000
abbrev CE : Type := Core × Int
def jD (p : CE) : V := .tup [.pa (aA p.1), I .i64 p.2]
def sZ (sh : Bool) (p : CE) (g : Core → Core) : CE := if sh then (zC, 51) else if p.2 = 0 then (g p.1, 0) else (zC, p.2)
def s6 (c : Core) (i : Nat) (r : Core) : Core := match c with | .mk f n s t ks bs al => .mk f n s t (ks.set i r) bs al
def kO (bs : List Bind) (b : Bind) : Core := .mk 8 0 [] zTy [b.body] bs []
theorem aSf {α : Type} (g : α → List C) (l : List α) (i : Nat) (x : α) : (l.map g).set i (g x) = (l.set i x).map g := by
 induction l generalizing i with
 | nil => rfl
 | cons y l ih => cases i with
  | zero => rfl
  | succ i => show g y :: (l.map g).set i (g x) = g y :: (l.set i x).map g; rw [ih]
def yE (sh : Bool) (p : CE) (c : Core) (i : Nat) : Core := if sh then c else if p.2 = 0 then s6 c i p.1 else c
theorem a1g (a b : Int) (hb : ¬ b = 0) : aY Tryz.prog 143 [I .i64 a, I .i64 b] [] (I .i64 (IntKind.i64.wrap (a.tdiv b))) [] := by
 have e : aUy .quo a b = some (IntKind.i64.wrap (a.tdiv b)) := by unfold aUy; exact if_neg hb
 refine c8 (n := 8) tok Tryz.func143 rfl rfl rfl ?_;refine a8 (ag [] rfl ?_);refine a8 (aF mixed ?_);refine ak 2 [] rfl ?_;refine kw (IntKind.i64.wrap (a.tdiv b)) e ?_;refine ak 1 [] rfl ?_;refine az ?_;exact aE rtT
theorem a1f (b : Int) : aY Tryz.prog 144 [I .i64 b] [] (B (decide (b = 0))) [] := by
 refine c8 (n := 5) tok Tryz.func144 rfl rfl rfl ?_;refine a8 (ag [] rfl ?_);refine a8 (ag [] rfl ?_);exact aE rtT
theorem a1e (a b : Int) : aY Tryz.prog 145 [I .i64 a, I .i64 b] [] (I .i64 (IntKind.i64.wrap (a + b))) [] := by
 refine c8 (n := 8) tok Tryz.func145 rfl rfl rfl ?_;refine a8 (ag [] rfl ?_);refine a8 (aF mixed ?_);refine ak 2 [] rfl ?_;refine kw (IntKind.i64.wrap (a + b)) rfl ?_;refine ak 1 [] rfl ?_;refine az ?_;exact aE rtT
theorem a1d (a b : Int) : aY Tryz.prog 146 [I .i64 a, I .i64 b] [] (I .i64 (IntKind.i64.wrap (a - b))) [] := by
 refine c8 (n := 8) tok Tryz.func146 rfl rfl rfl ?_;refine a8 (ag [] rfl ?_);refine a8 (aF mixed ?_);refine ak 2 [] rfl ?_;refine kw (IntKind.i64.wrap (a - b)) rfl ?_;refine ak 1 [] rfl ?_;refine az ?_;exact aE rtT
theorem a1c (a b : Int) : aY Tryz.prog 147 [I .i64 a, I .i64 b] [] (I .i64 (IntKind.i64.wrap (a * b))) [] := by
 refine c8 (n := 8) tok Tryz.func147 rfl rfl rfl ?_;refine a8 (ag [] rfl ?_);refine a8 (aF mixed ?_);refine ak 2 [] rfl ?_;refine kw (IntKind.i64.wrap (a * b)) rfl ?_;refine ak 1 [] rfl ?_;refine az ?_;exact aE rtT
theorem a1b (a b : Int) : aY Tryz.prog 148 [I .i64 a, I .i64 b] [] (B (decide (a = b))) [] := by
 refine c8 (n := 8) tok Tryz.func148 rfl rfl rfl ?_;refine a8 (ag [] rfl ?_);refine a8 (ag [] rfl ?_);exact aE rtT
theorem a1a (a b : Int) : aY Tryz.prog 149 [I .i64 a, I .i64 b] [] (B (decide (a < b))) [] := by
 refine c8 (n := 8) tok Tryz.func149 rfl rfl rfl ?_;refine a8 (ag [] rfl ?_);refine a8 (ag [] rfl ?_);exact aE rtT
theorem aY6 (g : FuncId) (a b r : Int) (hb : jB Tryz.prog g) (h : aY Tryz.prog g [I .i64 a, I .i64 b] [] (I .i64 r) []) : aY Tryz.prog 139 ([I .i64 a, I .i64 b] ++ ([C.pt [.fn g]].map R.c).map V.one) [] (.pa (aA (aAd r))) [] := by
 refine c8 (n := 11) tok Tryz.func139 rfl rfl rfl ?_;refine a8 (ag [] rfl ?_);refine a8 (aF mixed ?_);refine ak 3 [] rfl ?_;refine kvF (args := [I .i64 a, I .i64 b]) h ?_ hb;refine kc (aXx _) ?_;refine ak 1 [] rfl ?_;refine az ?_;exact aE (rtC trw)
theorem a0y (g : FuncId) (a b : Int) (r : Bool) (hb : jB Tryz.prog g) (h : aY Tryz.prog g [I .i64 a, I .i64 b] [] (B r) []) : aY Tryz.prog 141 ([I .i64 a, I .i64 b] ++ ([C.pt [.fn g]].map R.c).map V.one) [] (.pa (aA (aVe r))) [] := by
 refine c8 (n := 12) tok Tryz.func141 rfl rfl rfl ?_;refine a8 (ag [] rfl ?_);refine a8 (a8 (aF mixed ?_));refine ak 3 [] rfl ?_;refine kvF (args := [I .i64 a, I .i64 b]) h ?_ hb;refine az ?_;cases r with
 | true =>
  refine aB rfl (fun _ => ?_) (fun hb => by cases hb);refine a8 (aF mixed ?_);refine kc (aRj [84, 114, 117, 101]) ?_;refine ak 1 [] rfl ?_;refine az ?_;exact aE (rtC trw)
 | false =>
  refine aB rfl (fun hb => by cases hb) (fun _ => ?_);refine aD ?_;refine a8 (aF mixed ?_);refine kc (aRj [70, 97, 108, 115, 101]) ?_;refine ak 1 [] rfl ?_;refine az ?_;exact aE (rtC trw)
def kS (bd : List Bind) : List C := [.sl 15 (bd.map bA), a0t]
theorem aWl (s : Str) (a b : Int) : (eV s rO = none ∧ jJ s a b = (zC, 51)) ∨
  (∃ (h g : FuncId) (r : Core), eV s rO = some (opC h g) ∧ jJ s a b = (r, 0) ∧ jB Tryz.prog h ∧ aY Tryz.prog h ([I .i64 a, I .i64 b] ++ ([C.pt [.fn g]].map R.c).map V.one) [] (.pa (aA r)) []) ∨
  (eV s rO = some aSx ∧ (b = 0 → jJ s a b = (zC, 53)) ∧ (¬ b = 0 → jJ s a b = (aAd (IntKind.i64.wrap (a.tdiv b)), 0))) := by
 by_cases h1 : s = aY2
 ·subst h1; exact .inr (.inl ⟨_, _, _, rfl, rfl, wY (by kernel_rfl), aY6 _ a b _ (wY (by kernel_rfl)) (a1e a b)⟩)
 by_cases h2 : s = aYz
 ·subst h2; exact .inr (.inl ⟨_, _, _, rfl, rfl, wY (by kernel_rfl), aY6 _ a b _ (wY (by kernel_rfl)) (a1d a b)⟩)
 by_cases h3 : s = aY0
 ·subst h3; exact .inr (.inl ⟨_, _, _, rfl, rfl, wY (by kernel_rfl), aY6 _ a b _ (wY (by kernel_rfl)) (a1c a b)⟩)
 by_cases h4 : s = aY1
 ·subst h4;refine .inr (.inr ⟨rfl, fun h => by subst h; rfl, fun h => ?_⟩);unfold jJ;rw [if_neg (by decide), if_neg (by decide), if_neg (by decide), if_pos rfl, if_neg h]
 by_cases h5 : s = nEq
 ·subst h5; exact .inr (.inl ⟨_, _, _, rfl, rfl, wY (by kernel_rfl), a0y _ a b _ (wY (by kernel_rfl)) (a1b a b)⟩)
 by_cases h6 : s = nLt
 ·subst h6; exact .inr (.inl ⟨_, _, _, rfl, rfl, wY (by kernel_rfl), a0y _ a b _ (wY (by kernel_rfl)) (a1a a b)⟩)
 refine .inl ⟨?_, ?_⟩
 ·unfold rO;simp only [eV];rw [if_neg (fun e => h1 e.symm), if_neg (fun e => h2 e.symm), if_neg (fun e => h3 e.symm), if_neg (fun e => h4 e.symm), if_neg (fun e => h5 e.symm), if_neg (fun e => h6 e.symm)]
 ·unfold jJ;rw [if_neg h1, if_neg h2, if_neg h3, if_neg h4, if_neg h5, if_neg h6]
theorem aTu (bd : List Bind) (i : Int) (s : Str) (t : Ty) (a b : Core) : aY Tryz.prog 156 [.pa (kS bd), .pa (aA (.mk 10 i s t [a, b] [] []))] [] (jD (if a.form = 3 ∧ b.form = 3 then jJ s a.n b.n else (zC, 51))) [] := by
 have hof := aWl s a.n b.n;obtain ⟨fa, na, sa, ta, ka, ba, la⟩ := a;obtain ⟨fb, nb, sb, tb, kb, bb, lb⟩ := b;show aY Tryz.prog 156 _ [] (jD (if fa = 3 ∧ fb = 3 then jJ s na nb else (zC, 51))) [];refine c8 (n := 59) tok Tryz.func156 rfl rfl rfl ?_;refine a8 (ag [] rfl ?_);refine a8 (ag [(2, .row 0 (aA (.mk fa na sa ta ka ba la))), (6, .row 1 (aA (.mk fb nb sb tb kb bb lb)))] rfl ?_);rcases hof with ⟨hfd, hr⟩ | ⟨h, g, r, hfd, hr, hbd, hc⟩ | ⟨hfd, hz, hnz⟩
 ·have hr1 : jJ s na nb = (zC, 51) := hr;refine a8 (aF mixed ?_);refine ak 4 [] rfl ?_;refine k_ (g_ rfl rfl (qN (d := 23) (ok := true) (agg := true) (Tr := rO) (k := s) (r := none) tok rfl rfl (eQ rfl) (tg rfl) rfl (tg rfl) rfl (tg rfl) rfl rfl mZ aJe rfl hfd)) ?_;refine ak 6 [] rfl ?_;refine az ?_;by_cases h3 : fa = 3 ∧ fb = 3
  ·obtain ⟨rfl, rfl⟩ := h3;rw [if_pos ⟨rfl, rfl⟩, hr1];refine a8 (aC (a8 (ag [(3, .bv false), (7, .bv false), (8, .bv false), (11, .bv false)] rfl ?_)));refine aB rfl (fun _ => ?_) (fun hb => absurd hb (by first | decide | simp));refine a8 (ag [] rfl ?_);exact aE (mO trw)
  ·rw [if_neg h3];by_cases h4 : fa = 3
   ·have h5 : ¬ fb = 3 := fun e => h3 ⟨h4, e⟩
    subst h4;have e5 : (!decide (fb = 3)) = true := by rw [decide_eq_false h5]; rfl
    refine a8 (aC (a8 (ag [(3, .bv false), (7, .bv false), (8, .bv true), (11, .bv true)] rfl ?_)));refine aB rfl (fun _ => ?_) (fun hb => absurd hb (by first | decide | simp));refine a8 (ag [] rfl ?_);exact aE (mO trw)
   ·have e4 : (!decide (fa = 3)) = true := by rw [decide_eq_false h4]; rfl
    refine a8 (aC (a8 (ag [(3, .bv true), (7, .bv true), (8, .bv true), (11, .bv true)] rfl ?_)));refine aB rfl (fun _ => ?_) (fun hb => absurd hb (by first | decide | simp));refine a8 (ag [] rfl ?_);exact aE (mO trw)
 ·have hr1 : jJ s na nb = (r, 0) := hr;refine a8 (aF mixed ?_);refine ak 4 [] rfl ?_;refine k_ (g_ rfl rfl (qN (d := 23) (ok := true) (agg := true) (Tr := rO) (k := s) (r := some (opC h g)) tok rfl rfl (eQ rfl) (tg rfl) rfl (tg rfl) rfl (tg rfl) rfl rfl mZ aJe rfl hfd)) ?_;refine ak 6 [] rfl ?_;refine az ?_;by_cases h3 : fa = 3 ∧ fb = 3
  ·obtain ⟨rfl, rfl⟩ := h3;rw [if_pos ⟨rfl, rfl⟩, hr1];refine a8 (aC (a8 (ag [(3, .bv false), (7, .bv false), (8, .bv false), (11, .bv false)] rfl ?_)));refine aB rfl (fun hb => absurd hb (by simp [vV])) (fun _ => ?_);refine a8 (aF mixed ?_);refine ak 2 [] rfl ?_;refine k_ (g_ rfl rfl (aQc (d := 43) (b := true) tok rfl rfl (eQ rfl) (tg rfl) rfl rfl rfl rfl)) ?_;refine ak 8 [(3, .bv false), (9, .bv false)] rfl ?_;refine az ?_;refine aB rfl (fun hb => absurd hb (by simp [vV])) (fun _ => ?_);refine aD ?_;refine a8 (aF mixed ?_);refine ak 6 [] rfl ?_;refine kvC (args := [I .i64 na, I .i64 nb]) hc ?_ hbd;refine ak 2 [] rfl ?_;refine az ?_;exact aE (mO trw)
  ·rw [if_neg h3];by_cases h4 : fa = 3
   ·have h5 : ¬ fb = 3 := fun e => h3 ⟨h4, e⟩
    subst h4;have e5 : (!decide (fb = 3)) = true := by rw [decide_eq_false h5]; rfl
    refine a8 (aC (a8 (ag [(3, .bv false), (7, .bv false), (8, .bv true), (11, .bv true)] rfl ?_)));refine aB rfl (fun _ => ?_) (fun hb => absurd hb (by first | decide | simp));refine a8 (ag [] rfl ?_);exact aE (mO trw)
   ·have e4 : (!decide (fa = 3)) = true := by rw [decide_eq_false h4]; rfl
    refine a8 (aC (a8 (ag [(3, .bv true), (7, .bv true), (8, .bv true), (11, .bv true)] rfl ?_)));refine aB rfl (fun _ => ?_) (fun hb => absurd hb (by first | decide | simp));refine a8 (ag [] rfl ?_);exact aE (mO trw)
 ·have hz1 : nb = 0 → jJ s na nb = (zC, 53) := hz;have hnz1 : ¬ nb = 0 → jJ s na nb = (aAd (IntKind.i64.wrap (na.tdiv nb)), 0) := hnz;refine a8 (aF mixed ?_);refine ak 4 [] rfl ?_;refine k_ (g_ rfl rfl (qN (d := 23) (ok := true) (agg := true) (Tr := rO) (k := s) (r := some aSx) tok rfl rfl (eQ rfl) (tg rfl) rfl (tg rfl) rfl (tg rfl) rfl rfl mZ aJe rfl hfd)) ?_;refine ak 6 [] rfl ?_;refine az ?_;by_cases h3 : fa = 3 ∧ fb = 3
  ·obtain ⟨rfl, rfl⟩ := h3;rw [if_pos ⟨rfl, rfl⟩];refine a8 (aC (a8 (ag [(3, .bv false), (7, .bv false), (8, .bv false), (11, .bv false)] rfl ?_)));refine aB rfl (fun hb => absurd hb (by simp [vV])) (fun _ => ?_);refine a8 (aF mixed ?_);refine ak 2 [] rfl ?_;refine k_ (g_ rfl rfl (aQc (d := 43) (b := false) tok rfl rfl (eQ rfl) (tg rfl) rfl rfl rfl rfl)) ?_;refine ak 5 [(3, .bv true)] rfl ?_;refine a08 (args := [I .i64 nb]) (a1f nb) ?_;refine ak 2 [(9, .bv true)] rfl ?_;refine az ?_;by_cases h0 : nb = 0
   ·rw [hz1 h0];refine aB rfl (fun _ => ?_) (fun hb => absurd h0 (zq1 hb));refine a8 (ag [] rfl ?_);exact aE (mO trw)
   ·rw [hnz1 h0];refine aB rfl (fun hb => absurd (zq0 hb) h0) (fun _ => ?_);refine aD ?_;refine a8 (aF mixed ?_);refine ak 6 [] rfl ?_;refine kvC (args := [I .i64 na, I .i64 nb]) (aY6 _ na nb _ (wY (by kernel_rfl)) (a1g na nb h0)) ?_;refine ak 2 [] rfl ?_;refine az ?_;exact aE (mO trw)
  ·rw [if_neg h3];by_cases h4 : fa = 3
   ·have h5 : ¬ fb = 3 := fun e => h3 ⟨h4, e⟩
    subst h4;have e5 : (!decide (fb = 3)) = true := by rw [decide_eq_false h5]; rfl
    refine a8 (aC (a8 (ag [(3, .bv false), (7, .bv false), (8, .bv true), (11, .bv true)] rfl ?_)));refine aB rfl (fun _ => ?_) (fun hb => absurd hb (by first | decide | simp));refine a8 (ag [] rfl ?_);exact aE (mO trw)
   ·have e4 : (!decide (fa = 3)) = true := by rw [decide_eq_false h4]; rfl
    refine a8 (aC (a8 (ag [(3, .bv true), (7, .bv true), (8, .bv true), (11, .bv true)] rfl ?_)));refine aB rfl (fun _ => ?_) (fun hb => absurd hb (by first | decide | simp));refine a8 (ag [] rfl ?_);exact aE (mO trw)
mutual
def spH : Core → Core
 | .mk f n s t ks bs al => if f = 4 then a0s (.mk f n s t ks bs al) ks else .mk f n s t ks bs al
def a0s (c : Core) : List Core → Core
 | [] => c
 | k :: _ => spH k
end
mutual
def spA : Core → List Core
 | .mk f _ _ _ ks _ _ => if f = 4 then aVs ks else []
def aVs : List Core → List Core
 | [] => []
 | k :: r => spA k ++ r
end
def spV (c : Core) : V := .tup [.pa (aA (spH c)), .one (.c (.sl 10 ((spA c).map aA)))]
theorem aK5 (X : Nat) (c : Core) (hq : cI (QL X) c) (hsz : aR c ≤ 570000000000) : aY Tryz.prog 150 [.pa (aA c)] [] (spV c) [] := by
 refine c8 (n := 23) tok Tryz.func150 rfl rfl rfl ?_;refine a8 (ag [] rfl ?_);refine a8 (ag [] rfl ?_);refine AWp.sub (Sub.own (t := 4) (id := 720) 37 10 rfl rfl) ?_;refine a8 (aC ?_);refine aJ (fun x : Core × List Core => mk [(1, .one (.vp 1 0)), (2, .one (.vp 2 0)), (4, .one (.hs 720 0 x.2.length x.2.length))] [(720, .arr 37 10 (x.2.map aA) 0), (2, .var 37 bH), (1, .var 37 (bF x.1))]) (fun x => cI (QL X) x.1 ∧ (spH c = spH x.1 ∧ spA c = spA x.1 ++ x.2.reverse) ∧ x.2.length + aR x.1 ≤ 570000000000) (fun x => aR x.1) (c, []) ⟨hq, ⟨rfl, by simp⟩, by simpa using hsz⟩ sl ?_;rintro ⟨c1, acc⟩ ⟨hq1, ⟨hg1, hg2⟩, hs1⟩;dsimp only at hq1 hg1 hg2 hs1 ⊢;obtain ⟨f, n, s, t, ks, bs, al⟩ := c1;have hka : (acc.map aA).length = acc.length := length_map _;have hrev := aK8 acc (by omega);obtain ⟨_, qk, _, _⟩ := bC.1 hq1;refine a8 (a8 (ag [] rfl ?_));refine aB rfl (fun hb => ?_) (fun hb => ?_)
 ·have h4 : f = 4 := zq0 hb;subst h4;obtain ⟨⟨a, b, rfl⟩, rfl, rfl⟩ := aFi hq1 (.inl rfl);have e1 : spH (.mk 4 n s t [a, b] [] []) = spH a := by rw [spH, if_pos rfl, a0s]
  have e2 : spA (.mk 4 n s t [a, b] [] []) = spA a ++ [b] := by rw [spA, if_pos rfl, aVs]
  have hsz' : aR (.mk 4 n s t [a, b] [] []) = 1 + s.length + (aR a + (aR b + 0)) + 0 + 0 := by rw [aR, bJ, bJ, bJ, bW, bR]
  have hbp := dW b;have hl1 : acc.length + 1 ≤ 570000000000 := by omega
  refine aD ?_;refine aC ?_;refine a8 (ag [(3, .row 1 (aA b)), (6, .all)] rfl ?_);refine ag [(2, .row 0 (aA a))] rfl ?_;refine ⟨(a, acc ++ [b]), ⟨qk a (by simp), ⟨by rw [hg1, e1], by rw [hg2, e2]; simp⟩, by rw [length_append]; show acc.length + 1 + aR a ≤ _; omega⟩, by dsimp only; omega, ?_⟩;exact sl
 have h4 : ¬ f = 4 := zq1 hb;have e1 : spH c = .mk f n s t ks bs al := by rw [hg1, spH, if_neg h4]
 have e2 : spA c = acc.reverse := by rw [hg2, spA, if_neg h4]; rfl
 unfold spV;rw [e1, e2];refine aK ?_;refine a8 (aF mixed ?_);refine ak 1 [] rfl ?_;refine kc hrev ?_;refine az ?_;refine a8 (ag [] rfl ?_);refine AWp.sub (Sub.freeze (id := 720) rfl) ?_;refine AWp.sub (cv 3 (acc.reverse.map aA)) ?_;exact aE (mO trw)
def shE (c : Core) : Bool := decide (c.form = 5) || (decide (c.form = 3) || decide ((spH c).form = 2))
theorem aEz (X : Nat) (c : Core) (hq : cI (QL X) c) (hsz : aR c ≤ 570000000000) : aY Tryz.prog 77 [.pa (aA c)] [] (B (shE c)) [] := by
 have hg := aK5 X c hq hsz;unfold spV at hg;unfold shE;generalize spH c = h at hg ⊢;generalize spA c = l at hg;obtain ⟨f, n, s, t, ks, bs, al⟩ := c;obtain ⟨f1, n1, s1, t1, ks1, bs1, al1⟩ := h;show aY Tryz.prog 77 _ [] (B (decide (f = 5) || (decide (f = 3) || decide (f1 = 2)))) [];refine c8 (n := 23) tok Tryz.func77 rfl rfl rfl ?_;refine a8 (ag [] rfl ?_);refine a8 (aF mixed ?_);refine ak 1 [] rfl ?_;refine kc hg ?_;refine ak 6 [] rfl ?_;refine az ?_;by_cases h5 : f = 5
 ·have e5 : decide (f = 5) = true := decide_eq_true h5;refine a8 (ag [(3, .bv true), (7, .bv true), (8, .bv true), (12, .bv true)] rfl ?_);rw [e5];exact aE rtT
 ·have e5 : decide (f = 5) = false := decide_eq_false h5;rw [e5];by_cases h3 : f = 3
  ·have e3 : decide (f = 3) = true := decide_eq_true h3;refine a8 (ag [(3, .bv false), (7, .bv false), (8, .bv true), (12, .bv true)] rfl ?_);rw [e3];exact aE rtT
  ·have e3 : decide (f = 3) = false := decide_eq_false h3;rw [e3];refine a8 (ag [(3, .bv false), (7, .bv false), (8, .bv false), (12, .bv false)] rfl ?_);exact aE rtT
end Go.Proofs.YtmoekkcdkjopgaaGreatDoor
namespace Go.Proofs.YtmoekkcdkjopgaaGreatDoor
open Go Go.AM Go.Shelf
set_option maxRecDepth 100000
def ir : Ren := ⟨fun f => if f = 129 then 200 else if f = 171 then 181 else if f = 243 then 193 else if f = 246 then 194 else if f = 283 then 195 else if f = 284 then 196 else if f = 285 then 197 else if f = 286 then 198 else if f = 317 then 199 else if f = 318 then 201 else if f = 319 then 202 else if f = 320 then 203 else if f = 337 then 204 else if f = 338 then 205 else f, fun t => if t = 0 then 0 else if t = 2 then 2 else if t = 3 then 3 else if t = 4 then 4 else if t = 5 then 5 else if t = 9 then 9 else if t = 20 then 20 else if t = 37 then 197 else if t = 46 then 218 else if t = 51 then 216 else if t = 53 then 209 else if t = 171 then 208 else if t = 173 then 212 else if t = 212 then 215 else if t = 213 then 217 else if t = 232 then 221 else if t = 233 then 222 else t, fun g => if g = 17 then 0 else if g = 18 then 1 else if g = 19 then 2 else g⟩
theorem il : LaysM.n171 Tryz.prog ir where
 mixed := mixed
 f129 := by kernel_rfl
 f171 := by kernel_rfl
 f243 := by kernel_rfl
 f246 := by kernel_rfl
 f283 := by kernel_rfl
 f284 := by kernel_rfl
 f285 := by kernel_rfl
 f286 := by kernel_rfl
 f317 := by kernel_rfl
 f318 := by kernel_rfl
 f319 := by kernel_rfl
 f320 := by kernel_rfl
 f337 := by kernel_rfl
 f338 := by kernel_rfl
 t0 := by kernel_rfl
 a0 := fun w => by kernel_rfl
 z0 := fun w => by kernel_rfl
 v0 := fun w => by kernel_rfl
 t2 := by kernel_rfl
 a2 := fun w => by kernel_rfl
 z2 := fun w => by kernel_rfl
 v2 := fun w => by kernel_rfl
 t3 := by kernel_rfl
 a3 := fun w => by kernel_rfl
 z3 := fun w => by kernel_rfl
 v3 := fun w => by kernel_rfl
 t4 := by kernel_rfl
 a4 := fun w => by kernel_rfl
 z4 := fun w => by kernel_rfl
 v4 := fun w => by kernel_rfl
 t5 := by kernel_rfl
 a5 := fun w => by kernel_rfl
 z5 := fun w => by kernel_rfl
 v5 := fun w => by kernel_rfl
 t9 := by kernel_rfl
 a9 := fun w => by kernel_rfl
 z9 := fun w => by kernel_rfl
 v9 := fun w => by kernel_rfl
 t20 := by kernel_rfl
 a20 := fun w => by kernel_rfl
 z20 := fun w => by kernel_rfl
 v20 := fun w => by kernel_rfl
 t37 := by kernel_rfl
 a37 := fun w => by kernel_rfl
 z37 := fun w => by kernel_rfl
 v37 := fun w => by kernel_rfl
 t46 := by kernel_rfl
 a46 := fun w => by kernel_rfl
 z46 := fun w => by kernel_rfl
 v46 := fun w => by kernel_rfl
 t51 := by kernel_rfl
 a51 := fun w => by kernel_rfl
 z51 := fun w => by kernel_rfl
 v51 := fun w => by kernel_rfl
 t53 := by kernel_rfl
 a53 := fun w => by kernel_rfl
 z53 := fun w => by kernel_rfl
 v53 := fun w => by kernel_rfl
 t171 := by kernel_rfl
 a171 := fun w => by kernel_rfl
 z171 := fun w => by kernel_rfl
 v171 := fun w => by kernel_rfl
 t173 := by kernel_rfl
 a173 := fun w => by kernel_rfl
 z173 := fun w => by kernel_rfl
 v173 := fun w => by kernel_rfl
 t212 := by kernel_rfl
 a212 := fun w => by kernel_rfl
 z212 := fun w => by kernel_rfl
 v212 := fun w => by kernel_rfl
 t213 := by kernel_rfl
 a213 := fun w => by kernel_rfl
 z213 := fun w => by kernel_rfl
 t232 := by kernel_rfl
 a232 := fun w => by kernel_rfl
 z232 := fun w => by kernel_rfl
 v232 := fun w => by kernel_rfl
 t233 := by kernel_rfl
 a233 := fun w => by kernel_rfl
 z233 := fun w => by kernel_rfl
 v233 := fun w => by kernel_rfl
 g17 := by kernel_rfl
 g18 := by kernel_rfl
 g19 := by kernel_rfl
 i0 := by kernel_rfl
 i2 := by kernel_rfl
 i3 := by kernel_rfl
 i4 := by kernel_rfl
 i5 := by kernel_rfl
 i9 := by kernel_rfl
 i20 := by kernel_rfl
 i37 := by kernel_rfl
 i46 := by kernel_rfl
 i51 := by kernel_rfl
 i53 := by kernel_rfl
 i171 := by kernel_rfl
 i173 := by kernel_rfl
 i212 := by kernel_rfl
 i232 := by kernel_rfl
 i233 := by kernel_rfl
 m17 := by kernel_rfl
 m18 := by kernel_rfl
 m19 := by kernel_rfl
end Go.Proofs.YtmoekkcdkjopgaaGreatDoor
namespace Go.AM
open Go
theorem Inv.grown {G : Ctx} {S : Sto} {μ : Mu} {H : cF} {w : World} (h : Inv G S μ H w) (k : Nat) (os : Array Obj) : Inv G S μ H (Sort.grow (w.drewN k) os) := by
 have hold : ∀ b : Nat, b < w.heap.size → (Sort.grow (w.drewN k) os).heap[b]? = w.heap[b]? := fun b hb => by
  show (w.heap ++ os)[b]? = w.heap[b]?;exact Array.getElem?_append_left hb
 have hsz : w.heap.size ≤ (Sort.grow (w.drewN k) os).heap.size := by
  show w.heap.size ≤ (w.heap ++ os).size;rw [Array.size_append]; omega
 obtain ⟨h1, h2, h3, h4, h5, h6, h7, h8⟩ := h;refine ⟨⟨fun b o v e => ?_, fun b mk e => ?_⟩, fun id o e => (h2 id o e).evolve (Evolve.refl _ _ _) rfl fun b c hm => ⟨hold b ((h2 id o e).lt hm), fun _ => rfl, rfl⟩, h3, h4, ?_, h6, h7, h8⟩
 ·obtain ⟨vs, t, fr, g1, g2⟩ := h1.1 b o v e;exact ⟨vs, t, fr, by rw [hold b (dC g1)]; exact g1, g2⟩
 ·have g := h1.2 b mk e;obtain ⟨_, _, g2, _⟩ := MK.holds_map g;rw [hold b (dC g2)]; exact g
 ·obtain ⟨f1, f2, f3, f4, f5, f6⟩ := h5;exact ⟨f1, f2, f3, le_trans f4 hsz, fun b hb hF => by rw [hold b (lt_of_lt_of_le hb f4)]; exact f5 b hb hF, f6⟩
end Go.AM
namespace Go.Proofs.YtmoekkcdkjopgaaGreatDoor
open Go Go.AM
set_option maxRecDepth 20000
theorem aTw (k : Nat) (h : k < 1000000000000000000) : aY Tryz.prog 181 [I .i64 (k : Int)] [] (Go.AM.T (Lib.decDigits k)) [] := by
 intro S μ w vals hI hv;simp only [bT, aV, b8, Rep] at hv;obtain ⟨v1, vs1, rfl, rfl, rfl⟩ := hv;have htab : Lib.TabIs Tryz.prog w "internal/strconv.uint64pow10" .u64 Lib.pow10Tab := by
  obtain ⟨h1, t, fr, h2⟩ := hI.frame.tabAt 0 rfl;unfold Lib.TabIs World.var?;rw [show Tryz.prog.globalNamed "internal/strconv.uint64pow10" = some 0 by kernel_rfl];simp only [Option.bind_some, h2];rfl
 refine Calls.mono (Any.strconv_Itoa il (k : Int) (by omega) (by omega) w htab) ?_;rintro e w' ⟨rfl, j, os, rfl⟩;refine ⟨S, μ, _, rfl, hI.grown j os, ?_⟩;rw [Lib.itoa_nonneg];simp only [aV, b8, Rep]
end Go.Proofs.YtmoekkcdkjopgaaGreatDoor
namespace Go.Proofs.YtmoekkcdkjopgaaGreatDoor
open Go Go.AM
set_option maxRecDepth 20000
set_option maxHeartbeats 4000000
theorem dK : j9.k = 0 := by unfold Alg.k zTy; rw [tW, if_neg (by decide), if_neg (by decide), tWs]; rfl
theorem dZ : tW j9 zTy r0 = 0 := dK
structure ST (n : Nat) (U : List Str) (c : Core) : Prop where
 q : cI (QL 403) c
 cw : ∀ E, n * 3 ≤ E → cw j9 E c r0 ≤ 3 + E
 ty : ∀ x ∈ tyR c, x ∈ U
 tl : tlC c ≤ 6000
 sz : m30 c ≤ 3500000
structure SR (n : Nat) (U : List Str) (s : Nat) (c : Core) : Prop where
 q : cI (QL 403) c
 cw : ∀ E, n * 3 ≤ E → cw j9 E c r0 ≤ 3 + E
 ty : ∀ x ∈ tyR c, x ∈ U
 tl : tlC c ≤ 84000
 sz : 60 * m30 c ≤ 210000000 + s * s + 120 * s
theorem ST.mono {n m : Nat} {U : List Str} {c : Core} (h : ST n U c) (hm : n ≤ m) : ST m U c := ⟨h.q, fun E hE => h.cw E (by omega), h.ty, h.tl, h.sz⟩
theorem ST.cg {n : Nat} {U : List Str} {c : Core} (h : ST n U c) (hn : n ≤ 100) (hU : U.length ≤ 480000) : CG 400 650000 403 c := by
 refine ⟨h.q, ?_, ?_, le_trans h.sz (by decide)⟩
 ·have := h.cw (n * 3) (le_refl _);have := aKs (A := j9) (E := 0) (E' := n * 3) (zero_le _) (c := c) (ρ := r0) (ρ' := r0) (fun _ => le_refl _);omega
 ·have := cZ h.ty;have := h.tl;omega
theorem ar0 {s : Nat} (h : s ≤ 3500000) : s * s ≤ 12250000000000 := le_trans (mul_le_mul h h) (by decide)
theorem SR.big {n s : Nat} {U : List Str} {c : Core} (h : SR n U s c) (hs : s ≤ 3500000) : m30 c ≤ Big := by
 have := ar0 hs;have := h.sz;have : Big = 250000000000 := rfl;omega
section
variable {n : Nat} {U : List Str} {f i : Int} {s : Str} {t : Ty} {ks : List Core} {bs : List Bind} {al : List Alt}
theorem ST.kid (h : ST n U (.mk f i s t ks bs al)) (h7 : ¬ f = 7) {x : Core} (hx : x ∈ ks) : ST n U x := by
 refine ⟨(bC.1 h.q).2.1 x hx, fun E hE => ?_, fun y hy => h.ty y (cD.2 (.inr (.inl ⟨x, hx, hy, .inl h7⟩))), ?_, ?_⟩
 ·have := (fW.1 (h.cw E hE)).2.2.1 x hx;rwa [if_neg h7] at this
 ·have := (mQ (f := f) (n := i) (s := s) (t := t) (ks := ks) (bs := bs) (al := al)).1 x hx;have := h.tl;omega
 ·have := iK hx;have := h.sz;rw [m30] at this;omega
theorem ST.bind (h : ST n U (.mk f i s t ks bs al)) {x : Bind} (hx : x ∈ bs) : ST n U x.body := by
 refine ⟨(bC.1 h.q).2.2.1 x hx, fun E hE => ((fW.1 (h.cw E hE)).2.2.2.1 x hx).2, fun y hy => h.ty y (cD.2 (.inr (.inr (.inl ⟨x, hx, .inr hy⟩)))), ?_, ?_⟩
 ·have := (mQ (f := f) (n := i) (s := s) (t := t) (ks := ks) (bs := bs) (al := al)).2.1 x hx;have := h.tl;omega
 ·have := lD hx;have := h.sz;rw [m30] at this;omega
theorem ST.alt (h : ST n U (.mk f i s t ks bs al)) {x : Alt} (hx : x ∈ al) : ST n U x.body := by
 refine ⟨(bC.1 h.q).2.2.2 x hx, fun E hE => (fW.1 (h.cw E hE)).2.2.2.2 x hx, fun y hy => h.ty y (cD.2 (.inr (.inr (.inr ⟨x, hx, hy⟩)))), ?_, ?_⟩
 ·have := (mQ (f := f) (n := i) (s := s) (t := t) (ks := ks) (bs := bs) (al := al)).2.2 x hx;have := h.tl;omega
 ·have := gD hx;have := h.sz;rw [m30] at this;omega
theorem aUi (hf : okF f 0 0 0 = true) (h7 : ¬ f = 7) (h5 : ¬ f = 5) (hs : s.length ≤ 30) : cI (QL 403) (.mk f i s zTy [] [] []) := by
 have hw : w30 s = 30 := by unfold w30; omega
 exact bC.2 ⟨⟨hf, fun h => absurd h h7, rfl, by simp, by unfold lw; rw [hw]; decide, fun h => absurd h h5, by simp, by simp⟩, by simp, by simp, by simp⟩
theorem aMa {w : Nat} (hf : okF f 0 0 0 = true) (h7 : ¬ f = 7) (h5 : ¬ f = 5) (hs : s.length ≤ 30) : SR n U w (.mk f i s zTy [] [] []) := by
 have hw : w30 s = 30 := by unfold w30; omega
 refine ⟨aUi hf h7 h5 hs, fun E hE => fW.2 ⟨by rw [dK]; omega, by rw [dZ]; omega, by simp, by simp, by simp⟩, fun y hy => ?_, ?_, ?_⟩
 ·rcases cD.1 hy with h | ⟨x, hx, _⟩ | ⟨x, hx, _⟩ | ⟨x, hx, _⟩
  ·cases h
  ·cases hx
  ·cases hx
  ·cases hx
 ·rw [tlC, nU, xB, xC, if_neg h7]; omega
 ·rw [m30, cS, fR, iL, hw]; omega
end
theorem ST.sr {n w : Nat} {U : List Str} {c : Core} (h : ST n U c) : SR n U w c := ⟨h.q, h.cw, h.ty, by have := h.tl; omega, by have := h.sz; omega⟩
theorem aVr {a b s : Nat} (h : a + b ≤ s) : a * a + 2 * (a * b) + b * b ≤ s * s := by
 have h1 := mul_le_mul h h;have h2 : (a + b) * (a + b) = a * a + 2 * (a * b) + b * b := by rw [add_mul, mul_add, mul_add, mul_comm b a]; omega
 omega
theorem a1l (a b : Nat) : 2 * (a * b) ≤ a * a + b * b := by
 rcases Nat.le_total a b with h | h
 ·obtain ⟨d, rfl⟩ := Nat.exists_eq_add_of_le h;have e1 : a * (a + d) = a * a + a * d := mul_add ..;have e2 : (a + d) * (a + d) = a * a + a * d + (a * d + d * d) := by rw [add_mul, mul_add, mul_add, mul_comm d a]
  omega
 ·obtain ⟨d, rfl⟩ := Nat.exists_eq_add_of_le h;have e1 : (b + d) * b = b * b + b * d := by rw [add_mul, mul_comm d b]
  have e2 : (b + d) * (b + d) = b * b + b * d + (b * d + d * d) := by rw [add_mul, mul_add, mul_add, mul_comm d b]
  omega
theorem ar1 {a b s : Nat} (h : a + b ≤ s) : 60 * (a * (b / 31 + 1)) ≤ s * s + 120 * s := by
 have h1 := aVr h;have h2 : a * (60 * (b / 31 + 1)) ≤ a * (2 * b + 60) := mul_le_mul_left _ (by omega);have e1 : a * (60 * (b / 31 + 1)) = 60 * (a * (b / 31 + 1)) := by rw [mul_left_comm]
 have e2 : a * (2 * b + 60) = 2 * (a * b) + a * 60 := by rw [mul_add, mul_left_comm]
 omega
theorem ar2 {a b s : Nat} (h : a + b ≤ s) : 60 * (a * (b / 15 + 2)) ≤ s * s + 120 * s := by
 have h1 := aVr h;have h3 := a1l a b;have h2 : a * (60 * (b / 15 + 2)) ≤ a * (4 * b + 120) := mul_le_mul_left _ (by omega);have e1 : a * (60 * (b / 15 + 2)) = 60 * (a * (b / 15 + 2)) := by rw [mul_left_comm]
 have e2 : a * (4 * b + 120) = 4 * (a * b) + a * 120 := by rw [mul_add, mul_left_comm]
 omega
theorem ar3 {s v : Nat} (hs : s ≤ 3500000) (h : 60 * v ≤ s * s + 120 * s) : v ≤ Big := by
 have := ar0 hs;have : Big = 250000000000 := rfl;omega
theorem ar4 {x m r C : Nat} (hx : x ≤ m) (h : 60 * r ≤ C + x * x + 120 * x) : 60 * (m - x + r) ≤ C + m * m + 120 * m := by
 have := mul_le_mul hx hx;omega
theorem mU {α : Type} {g : α → Nat} : ∀ {l : List α} {x : α}, x ∈ l → g x ≤ (l.map g).sum
 | y :: l, x, h => by
  rw [map_cons, sum_cons];rcases mem_cons.1 h with e | h
  ·rw [e]; omega
  ·have := mU (g := g) h; omega
theorem k9 {α : Type} {g : α → Nat} {K : Nat} : ∀ {l : List α}, (∀ x ∈ l, g x ≤ K) → (l.map g).sum ≤ l.length * K
 | [], _ => by simp
 | y :: l, h => by
  rw [map_cons, sum_cons, length_cons, succ_mul];have := h y zq2;have := k9 (l := l) fun x hx => h x (zq3 _ hx)
  omega
theorem aVo : ∀ bh : List (Str × Ty), 31 * bh.length ≤ (bh.map fun p => 1 + w30 p.1).sum
 | [] => le_refl _
 | p :: l => by simp only [map_cons, sum_cons, length_cons]; have := aVo l; have := gU p.1; omega
theorem a06 {s : Str} {bh : List (Str × Ty)} {ah : List (Str × List Str)} (h : lw s bh ah ≤ 403) : bh.length ≤ 12 := by
 unfold lw at h;have := aVo bh;have := gU s;omega
theorem a07 {s : Str} {bh : List (Str × Ty)} {ah : List (Str × List Str)} (h : lw s bh ah ≤ 403) {p : Str × List Str} (hp : p ∈ ah) : p.2.length ≤ 12 := by
 unfold lw at h;have h1 := mU (g := fun p : Str × List Str => 1 + w30 p.1 + (p.2.map fun v => 1 + w30 v).sum) hp;have h2 := qF p.2;have := gU s;omega
section
variable {n : Nat} {U : List Str}
theorem aYk (hI : eD 540000000000) (hn : n ≤ 99) (hU : U.length ≤ 480000) {body a : Core} {nm : Str} {s : Nat} (h1 : ST n U body) (h2 : ST n U a) (hs : m30 body + m30 a ≤ s) :
  TB 403 body nm a (dB (m30 body) body nm a) ∧ SR (n + 1) U s (dB (m30 body) body nm a) := by
 have hT := tJ hI (D := 400) (M := 650000) (X := 403) (by decide) (by decide) (m30 body) body (le_refl _) (h1.cg (by omega) hU) nm a (h2.cg (by omega) hU);refine ⟨hT, hT.rx.q, fun E hE => ?_, fun x hx => (hT.rx.ty x hx).elim (h1.ty x) (h2.ty x), ?_, ?_⟩
 ·have := hT.rx.cw j9 E r0;have := h1.cw E (by omega);have := h2.cw E (by omega);omega
 ·have := hT.rx.tl;have := h1.tl;have := h2.tl;omega
 ·have := hT.sz (m30 a / 31 + 1) (by omega) (by omega);have := ar1 hs;omega
theorem aRw {B s : Nat} {c r : Core} {l : List Core} (hc : ST n U c) (hl : ∀ b ∈ l, (∀ E, n * 3 ≤ E → cw j9 E b r0 ≤ 3 + E) ∧ (∀ x ∈ tyR b, x ∈ U) ∧ tlC b ≤ 6000) (h12 : l.length ≤ 12) (hB : 60 * (m30 c * B) ≤ s * s + 120 * s) (h : PR 403 B c l r) : SR (n + 1) U s r := by
 refine ⟨h.q, fun E hE => h.cw j9 E r0 _ (hc.cw E (by omega)) fun b hb => (hl b hb).1 E (by omega), fun x hx => ?_, ?_, ?_⟩
 ·rcases h.ty x hx with h | ⟨b, hb, h⟩
  ·exact hc.ty x h
  ·exact (hl b hb).2.1 x h
 ·have h1 := h.tl;have h2 := k9 (g := tlC) (K := 6000) (l := l) fun b hb => (hl b hb).2.2
  have h3 := hc.tl;have h4 : l.length * 6000 ≤ 12 * 6000 := mul_le_mul_right _ h12;omega
 ·have := h.sz;omega
theorem aYl {B s : Nat} {c : Core} {l : List Core} (hn : n ≤ 99) (hU : U.length ≤ 480000) (hc : ST n U c) (hl : ∀ b ∈ l, (∀ E, n * 3 ≤ E → cw j9 E b r0 ≤ 3 + E) ∧ (∀ x ∈ tyR b, x ∈ U) ∧ tlC b ≤ 6000) (h12 : l.length ≤ 12) (hs : s ≤ 3500000) (hB1 : 1 ≤ B) (hB : 60 * (m30 c * B) ≤ s * s + 120 * s)
  (hq : ∀ b ∈ l, cI (QL 403) b) (hbs : ∀ b ∈ l, m30 b ≤ 31 * B) (hbm : ∀ b ∈ l, m30 b ≤ 10000000) : PO 400 650000 403 B c l := by
 refine ⟨hc.q, (hc.cg (by omega) hU).dep, hq, fun b hb => ?_, ⟨U, ?_, hc.ty, fun b hb => (hl b hb).2.1⟩, hB1, hbs, ar3 hs hB, ?_⟩
 ·have := (hl b hb).1 (n * 3) (le_refl _)
  have := aKs (A := j9) (E := 0) (E' := n * 3) (zero_le _) (c := b) (ρ := r0) (ρ' := r0) (fun _ => le_refl _);omega
 ·have h2 := k9 (g := tlC) (K := 6000) (l := l) fun b hb => (hl b hb).2.2
  have h3 := hc.tl;have h4 : l.length * 6000 ≤ 12 * 6000 := mul_le_mul_right _ h12;omega
 ·have h2 := k9 (g := m30) (K := 10000000) (l := l) hbm;have h4 : l.length * 10000000 ≤ 12 * 10000000 := mul_le_mul_right _ h12;have : Big = 250000000000 := rfl;omega
theorem aJz {i : Int} {s : Str} {t : Ty} {ks : List Core} {bs : List Bind} {al : List Alt} (h : ST n U (.mk 8 i s t ks bs al)) {b : Bind} (hb : b ∈ bs) :
  cI (QL 403) (kO bs b) ∧ ((∀ E, n * 3 ≤ E → cw j9 E (kO bs b) r0 ≤ 3 + E) ∧ (∀ x ∈ tyR (kO bs b), x ∈ U) ∧ tlC (kO bs b) ≤ 6000) ∧ m30 (kO bs b) ≤ 31 * (fR bs / 15 + 2) ∧ m30 (kO bs b) ≤ 10000000 := by
 have hbb := h.bind hb;obtain ⟨⟨g1, g2, g3, g4, g5, g6, g7, g8⟩, _, q3, _⟩ := bC.1 h.q;have hs := h.sz;rw [m30] at hs;have hm := lD hb;have hw0 : w30 ([] : Str) = 30 := rfl;have em : m30 (kO bs b) = 31 + m30 b.body + fR bs := by
  unfold kO;rw [m30, cS, cS, iL, hw0]; omega
 have hm31 : m30 b.body + 31 ≤ fR bs := by
  have h1 := r4 bs;have h2 : m30 b.body ≤ cS (bs.map Bind.body) := iK (mem_map.2 ⟨b, hb, rfl⟩);have h3 : 1 ≤ bs.length := List.length_pos_of_mem hb;omega
 refine ⟨?_, ⟨fun E hE => ?_, fun x hx => ?_, ?_⟩, by omega, by omega⟩
 ·unfold kO;refine bC.2 ⟨⟨by simp [okF], fun e => absurd e (by decide), rfl, g4, ?_, fun e => absurd e (by decide), g7, by simp⟩, by simpa using hbb.q, q3, by simp⟩;unfold lw at g5 ⊢;rw [hw0];have := gU s;simp only [map_nil, sum_nil];omega
 ·unfold kO;have g := fW.1 (h.cw E hE);refine fW.2 ⟨g.1, by rw [dZ]; omega, fun x hx => ?_, g.2.2.2.1, by simp⟩;rw [mem_singleton.1 hx, if_neg (by decide)];exact hbb.cw E hE
 ·unfold kO at hx;rcases cD.1 hx with h1 | ⟨y, hy, h1, _⟩ | ⟨y, hy, h1⟩ | ⟨y, hy, _⟩
  ·cases h1
  ·rw [mem_singleton.1 hy] at h1; exact hbb.ty x h1
  ·exact h.ty x (cD.2 (.inr (.inr (.inl ⟨y, hy, h1⟩))))
  ·cases hy
 ·unfold kO;have g := mQ (f := 8) (n := i) (s := s) (t := t) (ks := ks) (bs := bs) (al := al);have ht := h.tl;have := (xD (K := 6000) (f := 8) (n := 0) (s := []) (t := zTy) (ks := [b.body]) (bs := bs) (al := [])).2 ⟨fun x hx => by rw [mem_singleton.1 hx]; exact hbb.tl, fun x hx => le_trans (g.2.1 x hx) ht, by simp⟩
  rwa [if_neg (by decide), zero_add] at this
theorem aRx {i : Int} {s : Str} {t : Ty} {ks : List Core} {bs : List Bind} {al : List Alt} (h : cI (QL 403) (.mk 8 i s t ks bs al)) : (∃ a, ks = [a]) ∧ al = [] ∧ bs.length ≤ 12 := by
 obtain ⟨⟨h1, _, _, _, h5, _⟩, _⟩ := bC.1 h;have h6 := a06 h5;rw [length_map] at h6;unfold okF at h1;rw [if_neg (by decide), if_neg (by decide), if_pos rfl] at h1;obtain ⟨g1, g2⟩ := zq0 h1;rw [length_map] at g2;exact ⟨length_eq_one_iff.1 g1, length_eq_zero_iff.1 g2, h6⟩
theorem aP3 : ∀ l : List (Str × List Str), 31 * l.length ≤ (l.map fun p => 1 + w30 p.1 + (p.2.map fun v => 1 + w30 v).sum).sum
 | [] => by simp
 | p :: l => by
  have h1 := aP3 l;have h2 := gU p.1;rw [map_cons, sum_cons, length_cons];omega
theorem aUj {i : Int} {s : Str} {t : Ty} {ks : List Core} {bs : List Bind} {al : List Alt} (h : cI (QL 403) (.mk 9 i s t ks bs al)) : (∃ a, ks = [a]) ∧ bs = [] ∧ al.length ≤ 12 ∧ ∀ a ∈ al, a.vars.length ≤ 12 := by
 obtain ⟨⟨h1, _, _, _, h5, _⟩, _⟩ := bC.1 h;unfold okF at h1;rw [if_neg (by decide), if_neg (by decide), if_neg (by decide), if_pos rfl] at h1;obtain ⟨g1, g2⟩ := zq0 h1;rw [length_map] at g2;refine ⟨length_eq_one_iff.1 g1, length_eq_zero_iff.1 g2, ?_, fun a ha => a07 h5 (mem_map.2 ⟨a, ha, rfl⟩)⟩;unfold lw at h5;have h6 := aP3 (al.map ahd);rw [length_map] at h6;have := gU s;omega
theorem aYi (hn : n ≤ 99) (hU : U.length ≤ 480000) {i : Int} {s : Str} {t : Ty} {a : Core} {bs : List Bind} (h : ST n U (.mk 8 i s t [a] bs [])) :
  PO 400 650000 403 (fR bs / 15 + 2) a (bs.map (kO bs)) ∧ ∀ r, PR 403 (fR bs / 15 + 2) a (bs.map (kO bs)) r → SR (n + 1) U (m30 (.mk 8 i s t [a] bs [])) r := by
 have ha := h.kid (by decide) (x := a) zq2;have h12 : (bs.map (kO bs)).length ≤ 12 := by rw [length_map]; exact (aRx h.q).2.2
 have hl : ∀ b ∈ bs.map (kO bs), cI (QL 403) b ∧ ((∀ E, n * 3 ≤ E → cw j9 E b r0 ≤ 3 + E) ∧ (∀ x ∈ tyR b, x ∈ U) ∧ tlC b ≤ 6000) ∧ m30 b ≤ 31 * (fR bs / 15 + 2) ∧ m30 b ≤ 10000000 := fun b hb => by
  obtain ⟨b0, hb0, rfl⟩ := mem_map.1 hb;exact aJz h hb0
 have hB := ar2 (a := m30 a) (b := fR bs) (s := m30 (.mk 8 i s t [a] bs [])) (by rw [m30, cS, cS]; omega);exact ⟨aYl hn hU ha (fun b hb => (hl b hb).2.1) h12 h.sz (by omega) hB (fun b hb => (hl b hb).1) (fun b hb => (hl b hb).2.2.1) (fun b hb => (hl b hb).2.2.2), fun _ => aRw ha (fun b hb => (hl b hb).2.1) h12 hB⟩
theorem aPo (hn : n ≤ 99) (hU : U.length ≤ 480000) {a : Alt} {c : Core} {s : Nat} (hs : m30 a.body + m30 c ≤ s) (hs1 : s ≤ 3500000) (ha : ST n U a.body) (hv : a.vars.length ≤ 12) {l : List Core} (g1 : ∀ x ∈ l, ST n U x) (g2 : (l.map m30).sum ≤ m30 c) (hl : l.length = a.vars.length) :
  PO 400 650000 403 (m30 c / 31 + 1) a.body l ∧ ∀ r, PR 403 (m30 c / 31 + 1) a.body l r → SR (n + 1) U s r := by
 have hm : ∀ b ∈ l, m30 b ≤ m30 c := fun b hb => le_trans (uK hb) g2
 have hl' : ∀ b ∈ l, (∀ E, n * 3 ≤ E → cw j9 E b r0 ≤ 3 + E) ∧ (∀ x ∈ tyR b, x ∈ U) ∧ tlC b ≤ 6000 := fun b hb => ⟨(g1 b hb).cw, (g1 b hb).ty, (g1 b hb).tl⟩
 have hB := ar1 hs;exact ⟨aYl hn hU ha hl' (by omega) hs1 (by omega) hB (fun b hb => (g1 b hb).q) (fun b hb => by have := hm b hb; omega) (fun b hb => by have := hm b hb; omega), fun _ => aRw ha hl' (by omega) hB⟩
theorem aEb {x r : Core} : ∀ {ks : List Core} {j : Nat}, ks[j]? = some x → cS (ks.set j r) + m30 x = cS ks + m30 r
 | y :: ks, 0, h => by
  have e : y = x := by simpa using h
  subst e;rw [List.set_cons_zero, cS, cS]; omega
 | y :: ks, j + 1, h => by
  rw [set_cons_succ, cS, cS];have := aEb (r := r) (ks := ks) (j := j) (by simpa using h);omega
theorem aYj {f i : Int} {s : Str} {t : Ty} {ks : List Core} {bs : List Bind} {al : List Alt} (h7 : ¬ f = 7) (h : ST n U (.mk f i s t ks bs al)) {j : Nat} {x r : Core} (hx : ks[j]? = some x) (hr : SR (n + 1) U (m30 x) r) :
  SR (n + 1) U (m30 (.mk f i s t ks bs al)) (s6 (.mk f i s t ks bs al) j r) := by
 have hxm := zq7 hx;have hin : ∀ y ∈ ks.set j r, y = r ∨ y ∈ ks := fun y hy => (mem_or_eq_of_mem_set hy).symm
 obtain ⟨g1, g2, g3, g4⟩ := bC.1 h.q;unfold s6;refine ⟨bC.2 ⟨by rw [length_set]; exact g1, fun y hy => ?_, g3, g4⟩, fun E hE => ?_, fun y hy => ?_, ?_, ?_⟩
 ·rcases hin y hy with rfl | hy
  ·exact hr.q
  ·exact g2 y hy
 ·obtain ⟨c1, c2, c3, c4, c5⟩ := fW.1 (h.cw E (by omega));refine fW.2 ⟨c1, c2, fun y hy => ?_, c4, c5⟩;rcases hin y hy with rfl | hy
  ·rw [if_neg h7]; exact hr.cw E hE
  ·exact c3 y hy
 ·rcases cD.1 hy with h1 | ⟨z, hz, h1, _⟩ | h1
  ·exact h.ty y (cD.2 (.inl h1))
  ·rcases hin z hz with rfl | hz
   ·exact hr.ty y h1
   ·exact h.ty y (cD.2 (.inr (.inl ⟨z, hz, h1, .inl h7⟩)))
  ·exact h.ty y (cD.2 (.inr (.inr h1)))
 ·have g := mQ (f := f) (n := i) (s := s) (t := t) (ks := ks) (bs := bs) (al := al);have ht := h.tl;have := (xD (K := 84000) (f := f) (n := i) (s := s) (t := t) (ks := ks.set j r) (bs := bs) (al := al)).2 ⟨fun y hy => ?_, fun y hy => by have := g.2.1 y hy; omega, fun y hy => by have := g.2.2 y hy; omega⟩
  ·rwa [if_neg h7, zero_add] at this
  ·rcases hin y hy with rfl | hy
   ·exact hr.tl
   ·have := g.1 y hy; omega
 ·have g1 := aEb (r := r) hx;have g2 := iK hxm;have e : m30 (.mk f i s t (ks.set j r) bs al) = m30 (.mk f i s t ks bs al) - m30 x + m30 r := by
   rw [m30, m30]; omega
  rw [e];exact ar4 (by rw [m30]; omega) hr.sz
end
structure BI (U : List Str) (bd : List Bind) : Prop where
 len : bd.length ≤ 1000
 all : ∀ b ∈ bd, ST 0 U b.body
theorem aUh {n w : Nat} {U : List Str} {s : Str} {a b : Int} (h : (jJ s a b).2 = 0) : SR n U w (jJ s a b).1 := by
 have hi : ∀ m, SR n U w (aAd m) := fun m => aMa (by decide) (by decide) (by decide) (by decide)
 have ht : ∀ c, SR n U w (aVe c) := fun c => by cases c <;> exact aMa (by decide) (by decide) (by decide) (by decide)
 unfold jJ at h ⊢;by_cases h1 : s = aY2
 ·rw [if_pos h1]; exact hi _
 rw [if_neg h1] at h ⊢;by_cases h1 : s = aYz
 ·rw [if_pos h1]; exact hi _
 rw [if_neg h1] at h ⊢;by_cases h1 : s = aY0
 ·rw [if_pos h1]; exact hi _
 rw [if_neg h1] at h ⊢;by_cases h1 : s = aY1
 ·rw [if_pos h1] at h ⊢;by_cases h0 : b = 0
  ·rw [if_pos h0] at h; cases h
  ·rw [if_neg h0]; exact hi _
 rw [if_neg h1] at h ⊢;by_cases h1 : s = nEq
 ·rw [if_pos h1]; exact ht _
 rw [if_neg h1] at h ⊢;by_cases h1 : s = nLt
 ·rw [if_pos h1]; exact ht _
 ·rw [if_neg h1] at h; cases h
theorem aN9 {sh : Bool} {p : CE} {g : Core → Core} (h : (sZ sh p g).2 = 0) : sh = false ∧ p.2 = 0 ∧ (sZ sh p g).1 = g p.1 := by
 unfold sZ at h ⊢;cases sh with
 | true => cases h
 | false =>
  rw [if_neg Bool.false_ne_true] at h ⊢;by_cases h0 : p.2 = 0
  ·rw [if_pos h0]; exact ⟨rfl, h0, rfl⟩
  ·rw [if_neg h0] at h; exact absurd h h0
mutual
theorem n5 {X : Nat} : ∀ c : Core, cI (QL X) c → m30 c ≤ X * fM c
 | .mk f n s t ks bs al, h => by
  obtain ⟨⟨_, _, _, _, h5, _⟩, h2, h3, h4⟩ := bC.1 h;have k1 := sR ks h2;have k2 := sS bs h3;have k3 := sT al h4;unfold lw at h5;rw [m30, fM, mul_add, mul_add, mul_add, mul_one];omega
theorem sR {X : Nat} : ∀ l : List Core, (∀ x ∈ l, cI (QL X) x) → cS l ≤ X * cJ l
 | [], _ => by rw [cS]; exact zero_le _
 | c :: l, h => by
  rw [cS, cJ, mul_add];have := n5 c (h c zq2);have := sR l fun x hx => h x (zq3 _ hx)
  omega
theorem sS {X : Nat} : ∀ l : List Bind, (∀ x ∈ l, cI (QL X) x.body) → fR l ≤ X * iG l + ((l.map bhd).map fun p => 1 + w30 p.1).sum
 | [], _ => by rw [fR]; exact zero_le _
 | .mk s t c :: l, h => by
  rw [fR, iG, mul_add, map_cons, map_cons, sum_cons];have := n5 c (h _ zq2);have := sS l fun x hx => h x (zq3 _ hx)
  show _ ≤ _ + (1 + w30 s + _);omega
theorem sT {X : Nat} : ∀ l : List Alt, (∀ x ∈ l, cI (QL X) x.body) → iL l ≤ X * iH l + ((l.map ahd).map fun p => 1 + w30 p.1 + (p.2.map fun v => 1 + w30 v).sum).sum
 | [], _ => by rw [iL]; exact zero_le _
 | .mk f n s v c :: l, h => by
  rw [iL, iH, mul_add, map_cons, map_cons, sum_cons];have := n5 c (h _ zq2);have := sT l fun x hx => h x (zq3 _ hx)
  show _ ≤ _ + (1 + w30 s + (v.map fun v => 1 + w30 v).sum + _);omega
end
mutual
theorem eZ : ∀ c : Core, tlC c ≤ fM c
 | .mk f n s t ks bs al => by
  have k1 := x8 ks;have k2 := x9 bs;have k3 := xA al;rw [tlC, fM];split <;> omega
theorem x8 : ∀ l : List Core, nU l ≤ cJ l
 | [] => by rw [nU]; exact zero_le _
 | c :: l => by rw [nU, cJ]; have := eZ c; have := x8 l; omega
theorem x9 : ∀ l : List Bind, xB l ≤ iG l
 | [] => by rw [xB]; exact zero_le _
 | .mk s t c :: l => by rw [xB, iG]; have := eZ c; have := x9 l; omega
theorem xA : ∀ l : List Alt, xC l ≤ iH l
 | [] => by rw [xC]; exact zero_le _
 | .mk f n s v c :: l => by rw [xC, iH]; have := eZ c; have := xA l; omega
end
theorem SR.st {n s : Nat} {U : List Str} {c : Core} (h : SR n U s c) (hs : fM c ≤ 6000) : ST n U c :=
 ⟨h.q, h.cw, h.ty, le_trans (eZ c) hs, by have := n5 c h.q; have : 403 * fM c ≤ 403 * 6000 := mul_le_mul_left _ hs; omega⟩
theorem RowsLe.snoc {r r' : List C} (h : CsLe r r') : ∀ l : List (List C), RowsLe (l ++ [r]) (l ++ [r'])
 | [] => .cons h .nil
 | x :: l => .cons (CsLe.refl x) (RowsLe.snoc h l)
def aOb {α : Type} (p : α → Bool) : List α → Nat → Int
 | [], _ => -1
 | x :: l, i => if p x = true then (i : Int) else aOb p l (i + 1)
theorem yG {α : Type} (p : α → Bool) : ∀ (l : List α) (i : Nat), (∃ (k : Nat) (x : α), aOb p l i = ((i + k : Nat) : Int) ∧ l[k]? = some x ∧ l.find? p = some x) ∨ (aOb p l i = -1 ∧ l.find? p = none)
 | [], i => .inr ⟨rfl, rfl⟩
 | x :: l, i => by
  rw [aOb, List.find?_cons];cases h : p x with
  | true => rw [if_pos rfl]; exact .inl ⟨0, x, rfl, rfl, rfl⟩
  | false =>
   rw [if_neg Bool.false_ne_true];rcases yG p l (i + 1) with ⟨k, y, h1, h2, h3⟩ | h
   ·exact .inl ⟨k + 1, y, by rw [h1]; congr 1; omega, h2, h3⟩
   ·exact .inr h
section
variable {n : Nat} {U : List Str}
end
theorem aK3 (i : Int) (s : Str) (t : Ty) (a r : Core) (bs : List Bind) (h12 : bs.length ≤ 12)
  (hput : aY Tryz.prog 178 [.pa (aA a), bN (bs.map Bind.name), .one (.c (.sl 10 ((bs.map (kO bs)).map aA)))] [] (.pa (aA r)) []) :
  aY Tryz.prog 154 [.pa (aA (.mk 8 i s t [a] bs []))] [] (.pa (aA r)) [] := by
 have hkB : (aO bs).length = bs.length := by rw [bD, length_map]
 refine c8 (n := 36) tok Tryz.func154 rfl rfl rfl ?_;refine a8 (ag [] rfl ?_);refine a8 (ag [] rfl ?_);refine a8 (ag [] rfl ?_);refine AWp.sub (Sub.own (t := 3) (id := 720) 9 1 rfl rfl) ?_;refine AWp.sub (Sub.own (t := 4) (id := 721) 37 10 rfl rfl) ?_;refine a8 (a8 (ag [] rfl ?_));refine aC ?_;refine aJ (fun k : Nat => mk [(1, .one (.vp 1 0)), (2, .one (.vp 2 0)), (3, .one (.hs 720 0 ((bs.take k).map Bind.name).length ((bs.take k).map Bind.name).length)), (4, .one (.hs 721 0 ((bs.take k).map (kO bs)).length ((bs.take k).map (kO bs)).length)), (8, .one (.c (.sl 15 (aO bs)))), (9, I .i64 ((aO bs).length : Int)), (10, I .i64 k)] [(1, .var 37 (bF (.mk 8 i s t [a] bs []))), (2, .var 37 bH), (720, .arr 9 1 (((bs.take k).map Bind.name).map bG) 0), (721, .arr 37 10 (((bs.take k).map (kO bs)).map aA) 0)]) (fun k => k ≤ bs.length) (fun k => bs.length - k) 0 (zero_le _) sl ?_;intro k hk;refine a8 (ag [] rfl ?_);refine a8 (aB rfl (fun hb => ?_) (fun hb => ?_))
 ·have hlt := ltD hb hkB;obtain ⟨b, hbi⟩ := aL hlt;have hbi' := cB hbi;have e1 : (bs.take (k + 1)).map Bind.name = (bs.take k).map Bind.name ++ [b.name] := by rw [take_add_one, hbi, map_append]; rfl
  have e2 : (bs.take (k + 1)).map (kO bs) = (bs.take k).map (kO bs) ++ [kO bs b] := by rw [take_add_one, hbi, map_append]; rfl
  have hl1 : ((bs.take k).map Bind.name).length ≤ 12 := by rw [length_map, length_take]; omega
  have hl2 : ((bs.take k).map (kO bs)).length ≤ 12 := by rw [length_map, length_take]; omega
  have hx1 : (((bs.take k).map Bind.name).map bG).length = ((bs.take k).map Bind.name).length := length_map _;have hx2 : (((bs.take k).map (kO bs)).map aA).length = ((bs.take k).map (kO bs)).length := length_map _;generalize (bs.take k).map Bind.name = N at *;generalize (bs.take k).map (kO bs) = L at *;refine aD ?_;refine a8 (aC ?_);refine a8 (ag [(0, .row k (bA b))] rfl ?_);refine a8 (ag [(3, .all)] rfl ?_);refine ag [(5, .all), (7, .all)] rfl ?_;refine AWp.sub (Sub.arrWeak (x := 721) rfl (RowsLe.snoc (r' := aA (kO bs b)) ?_ (L.map aA))) ?_
  ·repeat (first | exact .nil | apply Go.AM.CsLe.cons .refl | apply Go.AM.CsLe.cons .nl)
  refine ag [] rfl ?_;refine ⟨k + 1, hlt, by dsimp only; omega, ?_⟩;dsimp only;rw [e1, e2];exact sl
 have hge := geD hb hkB hk;subst hge;rw [take_length];refine aK ?_;refine AWp.sub (Sub.freeze (id := 720) rfl) ?_;refine AWp.sub (Sub.freeze (id := 721) rfl) ?_;refine a8 (aF mixed ?_);refine ak 6 [(2, .row 0 (aA a))] rfl ?_;refine kc hput ?_;refine ak 1 [] rfl ?_;refine az ?_;exact aE (rtC trw)
def tkS (a : Alt) (c : Core) : Bool := decide (a.form = 3) || (decide (a.form = 2) && (decide (c.form = 3) && decide (c.n = a.n)))
def tkC (a : Alt) (c : Core) : Bool := decide (a.form = 1) && (decide ((spH c).form = 2) && (decide ((spH c).name = a.name) && decide ((spA c).length = a.vars.length)))
noncomputable def tkE (pt : Core → List Str → List Core → Core) (a : Alt) (c : Core) : Option Core :=
 if tkS a c then some a.body else if tkC a c then some (pt a.body a.vars (spA c)) else none
theorem aTr (pt : Core → List Str → List Core → Core) (X : Nat) (al : List Alt) (c : Core) (hq : cI (QL X) c) (hsz : aR c ≤ 570000000000) (hl : al.length ≤ 12)
  (hput : ∀ a ∈ al, tkC a c = true → aY Tryz.prog 178 [.pa (aA a.body), bN a.vars, .one (.c (.sl 10 ((spA c).map aA)))] [] (.pa (aA (pt a.body a.vars (spA c)))) []) :
  aY Tryz.prog 155 [.one (.c (.sl 14 (bK al))), .pa (aA c)] [] (jD (match al.findSome? fun a => tkE pt a c with | some r => (r, 0) | none => (zC, 52))) [] := by
 have hsp := aK5 X c hq hsz;have hkA : (bK al).length = al.length := by rw [bE, length_map]
 unfold spV at hsp;have hcA : ∀ a, tkC a c = (decide (a.form = 1) && (decide ((spH c).form = 2) && (decide ((spH c).name = a.name) && decide ((spA c).length = a.vars.length)))) := fun _ => rfl
 have hte : ∀ a, tkE pt a c = if tkS a c then some a.body else if tkC a c then some (pt a.body a.vars (spA c)) else none := fun _ => rfl
 have hts : ∀ a, tkS a c = (decide (a.form = 3) || (decide (a.form = 2) && (decide (c.form = 3) && decide (c.n = a.n)))) := fun _ => rfl
 generalize spH c = H at *;generalize spA c = A at *;obtain ⟨f, n, s, t, ks, bs, al0⟩ := c;obtain ⟨hf, hn, hs, ht, hks, hbs, has⟩ := H;have hkL : (A.map aA).length = A.length := length_map _;refine c8 (n := 74) tok Tryz.func155 rfl rfl rfl ?_;refine a8 (ag [] rfl ?_);refine a8 (aF mixed ?_);refine ak 1 [] rfl ?_;refine kc hsp ?_;refine ak 6 [] rfl ?_;refine az ?_;refine a8 (a8 (ag [] rfl ?_));refine aC ?_;refine aJ (fun k : Nat => mk [(3, .one (.vp 3 0)), (4, .one (.vp 4 0)), (6, .one (.vp 6 0)), (7, .one (.c (.sl 10 (A.map aA)))), (15, .one (.c (.sl 14 (bK al)))), (16, I .i64 ((bK al).length : Int)), (17, I .i64 k)] [(3, .var 37 (bF (.mk f n s t ks bs al0))), (4, .var 37 bH), (6, .var 37 (bF (.mk hf hn hs ht hks hbs has)))]) (fun k => k ≤ al.length ∧ (al.findSome? fun a => tkE pt a (.mk f n s t ks bs al0)) = (al.drop k).findSome? fun a => tkE pt a (.mk f n s t ks bs al0)) (fun k => al.length - k) 0 ⟨zero_le _, rfl⟩ sl ?_;intro k ⟨hi, hid⟩;refine a8 (ag [] rfl ?_);refine a8 (aB rfl (fun hb => ?_) (fun hb => ?_))
 ·have hlt := ltD hb hkA;obtain ⟨x, hx⟩ := aL hlt;have hxm := zq7 hx;have hx' : (bK al)[k]? = some (cV x) := by rw [bE]; exact cE cV hx
  have hdr : al.drop k = x :: al.drop (k + 1) := by rw [drop_eq_getElem_cons hlt, (zq6.1 hx).2]
  have hpx := hput x hxm;have hcx := hcA x;have hsx := hts x;have htx := hte x;rw [hdr, List.findSome?_cons] at hid;obtain ⟨af, an, an', avs, abd⟩ := x;have hcx : tkC (.mk af an an' avs abd) (.mk f n s t ks bs al0) = (decide (af = 1) && (decide (hf = 2) && (decide (hs = an') && decide (A.length = avs.length)))) := hcx;have hsx : tkS (.mk af an an' avs abd) (.mk f n s t ks bs al0) = (decide (af = 3) || (decide (af = 2) && (decide (f = 3) && decide (n = an)))) := hsx;have htx : tkE pt (.mk af an an' avs abd) (.mk f n s t ks bs al0) = if tkS (.mk af an an' avs abd) (.mk f n s t ks bs al0) = true then some abd else if tkC (.mk af an an' avs abd) (.mk f n s t ks bs al0) = true then some (pt abd avs A) else none := htx
  rw [hcx, hsx] at htx;rw [hcx] at hpx;have hkV : (avs.map bG).length = avs.length := length_map _;refine aD ?_;refine a8 (aC ?_);refine a8 (ag [(0, .row k (cV (.mk af an an' avs abd)))] rfl ?_);refine aC ?_;generalize hb0 : (decide (af = 3) || (decide (af = 2) && (decide (f = 3) && decide (n = an)))) = b at *;generalize hq0 : (decide (af = 1) && (decide (hf = 2) && (decide (hs = an') && decide (A.length = avs.length)))) = q at *;refine a8 (AWp.cut (mk [(3, .one (.vp 3 0)), (4, .one (.vp 4 0)), (6, .one (.vp 6 0)), (7, .one (.c (.sl 10 (A.map aA)))), (15, .one (.c (.sl 14 (bK al)))), (16, I .i64 ((bK al).length : Int)), (17, I .i64 k), (9, .one (.vp 9 0)), (21, B b)] [(3, .var 37 (bF (.mk f n s t ks bs al0))), (4, .var 37 bH), (6, .var 37 (bF (.mk hf hn hs ht hks hbs has))), (9, .var 78 ((cV (.mk af an an' avs abd)).map .c))]) ?_ ?_)
  ·refine a8 (ag [] rfl ?_);refine aB rfl (fun hb => ?_) (fun hb => ?_)
   ·have h3 : af = 3 := zq0 hb;have e : b = true := by rw [← hb0, decide_eq_true h3]; rfl
    exact aD (sl (he := ⟨rfl, rfl, rfl, rfl, rfl, rfl, rfl, rfl, (by show some (B (decide (af = 3))) = some (B b); rw [e, decide_eq_true h3]), trivial⟩))
   ·have h3 : ¬ af = 3 := zq1 hb;have e3 : decide (af = 3) = false := decide_eq_false h3;by_cases h2 : af = 2
    ·have e2 : decide (af = 2) = true := decide_eq_true h2;by_cases hc : f = 3
     ·have ec : decide (f = 3) = true := decide_eq_true hc;have e : b = decide (n = an) := by rw [← hb0, e3, e2, ec]; rfl
      exact ag [(3, .bv true), (7, .bv true), (8, .bv true), (14, .bv true)] rfl (sl (he := ⟨rfl, rfl, rfl, rfl, rfl, rfl, rfl, rfl, (by rw [e]; rfl), trivial⟩))
     ·have ec : decide (f = 3) = false := decide_eq_false hc;have e : b = false := by rw [← hb0, e3, e2, ec]; rfl
      exact ag [(3, .bv true), (7, .bv true), (8, .bv false), (14, .bv false)] rfl (sl (he := ⟨rfl, rfl, rfl, rfl, rfl, rfl, rfl, rfl, (by rw [e]; rfl), trivial⟩))
    ·have e2 : decide (af = 2) = false := decide_eq_false h2;have e : b = false := by rw [← hb0, e3, e2]; rfl
     exact ag [(3, .bv false), (7, .bv false), (8, .bv false), (14, .bv false)] rfl (sl (he := ⟨rfl, rfl, rfl, rfl, rfl, rfl, rfl, rfl, (by rw [e]; rfl), trivial⟩))
  cases b with
  | true =>
   have hid' : (al.findSome? fun a => tkE pt a (.mk f n s t ks bs al0)) = some abd := by rw [hid, htx]; rfl
   rw [hid'];refine aB rfl (fun _ => ?_) (fun hb => by cases hb);refine a8 (ag [] rfl ?_);exact aE (mO trw)
  | false =>
   refine aB rfl (fun hb => by cases hb) (fun _ => ?_);refine a8 (AWp.cut (mk [(3, .one (.vp 3 0)), (4, .one (.vp 4 0)), (6, .one (.vp 6 0)), (7, .one (.c (.sl 10 (A.map aA)))), (15, .one (.c (.sl 14 (bK al)))), (16, I .i64 ((bK al).length : Int)), (17, I .i64 k), (9, .one (.vp 9 0)), (42, B q)] [(3, .var 37 (bF (.mk f n s t ks bs al0))), (4, .var 37 bH), (6, .var 37 (bF (.mk hf hn hs ht hks hbs has))), (9, .var 78 ((cV (.mk af an an' avs abd)).map .c))]) ?_ ?_)
   ·by_cases h1 : af = 1
    ·have e1 : decide (af = 1) = true := decide_eq_true h1;by_cases h2 : hf = 2
     ·have e2 : decide (hf = 2) = true := decide_eq_true h2;by_cases h4 : hs = an'
      ·have e4 : decide (hs = an') = true := decide_eq_true h4;have e : q = decide ((A.length : Int) = (avs.length : Int)) := by rw [← hq0, e1, e2, e4]; simp [Int.ofNat_inj]
       exact ag [(3, .bv true), (7, .bv true), (8, .bv true), (14, .bv true), (15, .bv true), (22, .bv true)] rfl (sl (he := ⟨rfl, rfl, rfl, rfl, rfl, rfl, rfl, rfl, (by show some (B (decide (((A.map aA).length : Int) = ((avs.map bG).length : Int)))) = some (B q); rw [e, hkL, hkV]), trivial⟩))
      ·have e4 : decide (hs = an') = false := decide_eq_false h4;have e : q = false := by rw [← hq0, e1, e2, e4]; rfl
       exact ag [(3, .bv true), (7, .bv true), (8, .bv true), (14, .bv true), (15, .bv false), (22, .bv false)] rfl (sl (he := ⟨rfl, rfl, rfl, rfl, rfl, rfl, rfl, rfl, (by rw [e]; rfl), trivial⟩))
     ·have e2 : decide (hf = 2) = false := decide_eq_false h2;have e : q = false := by rw [← hq0, e1, e2]; rfl
      exact ag [(3, .bv true), (7, .bv true), (8, .bv false), (14, .bv false), (15, .bv false), (22, .bv false)] rfl (sl (he := ⟨rfl, rfl, rfl, rfl, rfl, rfl, rfl, rfl, (by rw [e]; rfl), trivial⟩))
    ·have e1 : decide (af = 1) = false := decide_eq_false h1;have e : q = false := by rw [← hq0, e1]; rfl
     exact ag [(3, .bv false), (7, .bv false), (8, .bv false), (14, .bv false), (15, .bv false), (22, .bv false)] rfl (sl (he := ⟨rfl, rfl, rfl, rfl, rfl, rfl, rfl, rfl, (by rw [e]; rfl), trivial⟩))
   cases q with
   | true =>
    have hpx := hpx rfl;have hid' : (al.findSome? fun a => tkE pt a (.mk f n s t ks bs al0)) = some (pt abd avs A) := by rw [hid, htx]; rfl
    rw [hid'];refine aB rfl (fun _ => ?_) (fun hb => by cases hb);refine a8 (aF mixed ?_);refine ak 5 [] rfl ?_;refine kc hpx ?_;refine ak 2 [] rfl ?_;refine az ?_;exact aE (mO trw)
   | false =>
    refine aB rfl (fun hb => by cases hb) (fun _ => ?_);refine aD ?_;refine ag [] rfl ?_;refine ⟨k + 1, ⟨hlt, by rw [hid, htx]; rfl⟩, by dsimp only; omega, ?_⟩;exact sl
 have hge := geD hb hkA hi;subst hge;rw [drop_length] at hid;rw [hid];refine aK ?_;refine a8 (ag [] rfl ?_);exact aE (mO trw)
theorem aO1 (b : Bind) (f n : Int) (s : Str) (t : Ty) (ks : List Core) (bs : List Bind) (al : List Alt) : aY Tryz.prog 153 ([.pa (bA b)] ++ [R.vp 3 0].map V.one) [(3, .var 37 (bF (.mk f n s t ks bs al)))] (B (decide (b.name = s))) [(3, .var 37 (bF (.mk f n s t ks bs al)))] := by
 refine c8 (n := 9) tok Tryz.func153 rfl rfl rfl ?_;refine a8 (ag [(0, .id 712)] rfl ?_);refine a8 (ag [] rfl ?_);exact aE rtT
theorem aO4 (l : List Bind) (hl : l.length ≤ 1000000000) (f n : Int) (s : Str) (t : Ty) (ks : List Core) (bs : List Bind) (al : List Alt) : aY Tryz.prog 152 [.one (.c (.sl 15 (l.map bA))), .one (.clo 153 [.vp 3 0])] [(3, .var 37 (bF (.mk f n s t ks bs al)))] (I .i64 (aOb (fun b : Bind => decide (b.name = s)) l 0)) [(3, .var 37 (bF (.mk f n s t ks bs al)))] := by
 have hkl : (l.map bA).length = l.length := length_map _;refine c8 (n := 19) tok Tryz.func152 rfl rfl rfl ?_;refine a8 (ag [] rfl ?_);refine a8 (a8 (ag [] rfl ?_));refine aC ?_;refine aJ (fun i : Nat => mk [(0, .one (.c (.sl 15 (l.map bA)))), (1, .one (.clo 153 [.vp 3 0])), (7, I .i64 ((l.map bA).length : Int)), (8, I .i64 i)] [(3, .var 37 (bF (.mk f n s t ks bs al)))]) (fun i => i ≤ l.length ∧ aOb (fun b : Bind => decide (b.name = s)) l 0 = aOb (fun b : Bind => decide (b.name = s)) (l.drop i) i) (fun i => l.length - i) 0 ⟨zero_le _, rfl⟩ sl ?_;intro i ⟨hi, hid⟩;refine a8 (ag [] rfl ?_);refine a8 (aB rfl (fun hb => ?_) (fun hb => ?_))
 ·have hlt := ltD hb hkl;obtain ⟨b, hbi⟩ := aL hlt;have hbi' := cE bA hbi;have hc := aO1 b f n s t ks bs al;have hdr : l.drop i = b :: l.drop (i + 1) := by rw [drop_eq_getElem_cons hlt, (zq6.1 hbi).2]
  rw [hdr, aOb] at hid;refine aD ?_;refine a8 (aC (a8 (ag [] rfl ?_)));refine a8 (aF mixed ?_);refine ak 5 [(3, .row i (bA b))] rfl ?_;refine kv (args := [.pa (bA b)]) hc ?_;refine az ?_;refine aB rfl (fun hb => ?_) (fun hb => ?_)
  ·rw [if_pos hb] at hid;rw [hid];refine a8 (ag [] rfl ?_);exact aE rtT
  ·rw [if_neg (by rw [show decide (b.name = s) = false from hb]; exact Bool.false_ne_true)] at hid;refine aD ?_;refine ag [] rfl ?_;exact ⟨i + 1, ⟨hlt, hid⟩, by dsimp only; omega, sl⟩
 have hge := geD hb hkl hi;subst hge;rw [drop_length, aOb] at hid;rw [hid];refine aK ?_;refine a8 (ag [] rfl ?_);exact aE rtT
def maO (bd : List Bind) (c : Core) : List (Nat × AObj) := [(2, .var 137 ((kS bd).map .c)), (3, .var 37 (bF c))]
theorem nL (bd : List Bind) (c x : Core) (i : Nat) (p : CE) (hx : c.kids[i]? = some x) (hk : c.kids.length ≤ 600000000000) (hst : aY Tryz.prog 78 [.pa (kS bd), .pa (aA x)] [] (jD p) []) :
  aY Tryz.prog 151 ([I .i64 (i : Int)] ++ [R.vp 2 0, R.vp 3 0].map V.one) (maO bd c) (jD (sZ false p (s6 c i))) (maO bd (yE false p c i)) := by
 obtain ⟨f, n, s, t, ks, bs, al⟩ := c;have hx : ks[i]? = some x := hx;have hk : ks.length ≤ 600000000000 := hk;have hi : i < ks.length := (zq6.1 hx).1
 have hkl : (aQ ks).length = ks.length := by rw [bB, length_map]
 have hcl := jS (aQ ks) (by omega);have hxe : (aQ ks)[i]? = some (aA x) := by rw [bB]; exact cE aA hx
 unfold maO;refine c8 (n := 32) tok Tryz.func151 rfl rfl rfl ?_;refine a8 (ag [] rfl ?_);refine a8 (aF mixed ?_);refine ak 6 [(4, .row i (aA x))] rfl ?_;refine kc hst ?_;refine ak 6 [] rfl ?_;refine az ?_;refine a8 (a8 (ag [] rfl ?_));refine aB rfl (fun hb => ?_) (fun hb => ?_)
 ·have he : ¬ p.2 = 0 := by
   intro h;have hb : (!decide (p.2 = 0)) = true := hb;rw [decide_eq_true h] at hb; cases hb
  have e1 : sZ false p (s6 (.mk f n s t ks bs al) i) = (zC, p.2) := by unfold sZ; rw [if_neg Bool.false_ne_true, if_neg he]
  have e2 : yE false p (.mk f n s t ks bs al) i = .mk f n s t ks bs al := by unfold yE; rw [if_neg Bool.false_ne_true, if_neg he]
  rw [e1, e2];refine a8 (ag [] rfl ?_);exact aE (mO trw)
 ·have he : p.2 = 0 := by
   have hb : (!decide (p.2 = 0)) = false := hb;by_cases h : p.2 = 0
   ·exact h
   ·rw [decide_eq_false h] at hb; cases hb
  have e1 : sZ false p (s6 (.mk f n s t ks bs al) i) = (s6 (.mk f n s t ks bs al) i p.1, 0) := by unfold sZ; rw [if_neg Bool.false_ne_true, if_pos he]
  have e2 : yE false p (.mk f n s t ks bs al) i = s6 (.mk f n s t ks bs al) i p.1 := by unfold yE; rw [if_neg Bool.false_ne_true, if_pos he]
  rw [e1, e2];obtain ⟨r, pe⟩ := p;have hset : (aQ ks).set i (aA r) = aQ (ks.set i r) := by rw [bB, bB, aSf]
  have hsl : (aQ (ks.set i r)).length = ks.length := by rw [bB, length_map, length_set]
  refine aD ?_;refine a8 (aF mixed ?_);refine ak 2 [] rfl ?_;refine kc hcl ?_;refine ak 2 [] rfl ?_;refine az ?_;refine a8 (ag [(5, .row i (aA x))] rfl ?_);refine AWp.sub (Sub.freeze (id := 702) rfl) ?_;refine AWp.sub (Sub.varPure (x := 3) (cs := aA (.mk f n s t (ks.set i r) bs al)) rfl (.c .refl (.c .refl (.c .refl (.c .refl (.c .refl (.c .refl (.c .refl (.hs rfl (by rw [length_set]) (by rw [drop_zero]; show aQ (ks.set i r) = List.take (aQ ks).length ((aQ ks).set i (aA r)); rw [hset, take_of_length_le]; rw [hsl, hkl]; exact le_refl _) (.c .refl (.c .refl .nil))))))))))) ?_;refine a8 (ag [] rfl ?_);exact aE (mO trw)
end Go.Proofs.YtmoekkcdkjopgaaGreatDoor
