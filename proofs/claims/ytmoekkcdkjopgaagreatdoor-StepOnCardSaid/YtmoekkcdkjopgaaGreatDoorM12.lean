/-
  Texts Ly13 to Ly19 in one.
-/
import Derived.Test.YtmoekkcdkjopgaaGreatDoorM11
import Derived.Shelf.Strconv.Itoa3
import Derived.Lib.LaidTab
open List (drop_eq_getElem_cons drop_length drop_zero length_cons length_eq_one_iff length_eq_zero_iff length_map length_set length_take map_append map_cons map_nil mem_append mem_cons mem_cons_of_mem mem_cons_self mem_map mem_singleton set_cons_succ sum_cons sum_nil take_add_one take_length take_of_length_le)
open Nat (add_mul le_refl le_succ le_trans lt_of_lt_of_le mul_add mul_comm mul_le_mul_left mul_le_mul_right mul_left_comm mul_one sub_le sub_self zero_add zero_le)
namespace Go.Proofs.YtmoekkcdkjopgaaGreatDoor
open Go Go.AM
set_option maxRecDepth 20000
set_option maxHeartbeats 4000000
structure Fld where
 name : Str
 tag : Int
 many : Int
 arity : Int
 ty : Ty
def iO (x : Fld) : List C := [.str x.name, .int .i64 x.tag, .int .i64 x.many, .int .i64 x.arity] ++ bD x.ty
structure Mod where
 fields : List Fld
 binds : List Bind
def jK (m : Mod) : List C := [.sl 8 (m.fields.map iO), .sl 15 (m.binds.map bA)]
abbrev CE : Type := Core × Int
def fH (p : CE) : V := .tup [.pa (aC p.1), I .i64 p.2]
def aMq (sh : Bool) (p : CE) (g : Core → Core) : CE := if sh then (zC, 51) else if p.2 = 0 then (g p.1, 0) else (zC, p.2)
noncomputable def mF (a : Alt) (c : Core) : Option Core :=
 if a.form = 3 then some a.body
 else if a.form = 2 then (if c.form = 3 ∧ c.n = a.n then some a.body else none)
 else match gvC c with
  | some (s, l) => if s = a.name ∧ l.length = a.vars.length then some (aBh a.body a.vars l) else none
  | none => none
def aMp (c : Core) (i : Nat) (r : Core) : Core := match c with | .mk f n s t ks bs al => .mk f n s t (ks.set i r) bs al
def aAi (st : Core → CE) (c : Core) (i : Nat) : CE := match c.kids[i]? with
 | some x => aMq (shC x) (st x) (aMp c i)
 | none => (zC, 51)
def lX (bs : List Bind) (b : Bind) : Core := .mk 8 0 [] zTy [b.body] bs []
noncomputable def cV (bd : List Bind) : Nat → Core → CE
 | 0, _ => (zC, 51)
 | k + 1, c =>
  let hd := c.kids.headD zC
  if c.form = 1 then (match bd.find? fun b => decide (b.name = c.name) with | some b => (b.body, 0) | none => (zC, 51))
  else if c.form = 4 ∨ c.form = 6 then
   (if c.form = 4 ∧ hd.form = 5 then (fC (m30 (hd.kids.headD zC)) (hd.kids.headD zC) hd.name (c.kids.getD 1 zC), 0)
   else if c.form = 6 ∧ hd.form = 7 then (sTR (m30 (hd.kids.headD zC)) (hd.kids.headD zC) hd.name c.ty, 0)
   else aAi (cV bd k) c 0)
  else if c.form = 8 then (aBh hd (c.binds.map Bind.name) (c.binds.map (lX c.binds)), 0)
  else if c.form = 9 then (if shC hd then (match c.alts.findSome? fun a => mF a hd with | some r => (r, 0) | none => (zC, 52)) else aAi (cV bd k) c 0)
  else if c.form = 10 then
   (if ¬ shC hd then aAi (cV bd k) c 0
   else if ¬ shC (c.kids.getD 1 zC) then aAi (cV bd k) c 1
   else if hd.form = 3 ∧ (c.kids.getD 1 zC).form = 3 then r5 c.name hd.n (c.kids.getD 1 zC).n
   else (zC, 51))
  else if c.form = 11 then (zC, 52)
  else (zC, 51)
theorem aRo {α : Type} (g : α → List C) (l : List α) (i : Nat) (x : α) : (l.map g).set i (g x) = (l.set i x).map g := by
 induction l generalizing i with
 | nil => rfl
 | cons y l ih => cases i with
  | zero => rfl
  | succ i => show g y :: (l.map g).set i (g x) = g y :: (l.set i x).map g; rw [ih]
theorem aWu (f n : Int) (s : Str) (t : Ty) (ks : List Core) (bs : List Bind) (al : List Alt) (i : Nat) (r : Core) (hi : i < ks.length) (hk : ks.length ≤ 600000000000) :
  aU Tryz.prog 180 ([.pa (aC r)] ++ [R.vp 4 0, R.vp 5 0].map V.one) [(4, .var 37 (bB (.mk f n s t ks bs al))), (5, .var 3 [.c (.int .i64 i)])] (.pa (aC (.mk f n s t (ks.set i r) bs al))) [(4, .var 37 (bB (.mk f n s t (ks.set i r) bs al))), (5, .var 3 [.c (.int .i64 i)])] := by
 have hkl : (aQ ks).length = ks.length := by rw [bC, length_map]
 have hcl := o6 (aQ ks) (by omega);have hset : (aQ ks).set i (aC r) = aQ (ks.set i r) := by rw [bC, bC, aRo]
 have hsl : (aQ (ks.set i r)).length = ks.length := by rw [bC, length_map, length_set]
 obtain ⟨x, hx⟩ := aK hi;have hxe : (aQ ks)[i]? = some (aC x) := by rw [bC]; exact bQ aC hx
 refine bT (n := 15) tok Tryz.func180 rfl rfl rfl ?_;refine a8 (ag [(0, .id 3), (1, .id 6)] rfl ?_);refine a8 (aE mixed ?_);refine ak 2 [] rfl ?_;refine kc hcl ?_;refine ak 2 [] rfl ?_;refine az ?_;refine a8 (ag [(5, .row i (aC x))] rfl ?_);refine AWp.sub (Sub.freeze (id := 702) rfl) ?_;refine AWp.sub (Sub.varPure (x := 4) (cs := aC (.mk f n s t (ks.set i r) bs al)) rfl (.c .refl (.c .refl (.c .refl (.c .refl (.c .refl (.c .refl (.c .refl (.hs rfl (by rw [length_set]) (by rw [drop_zero]; show aQ (ks.set i r) = List.take (aQ ks).length ((aQ ks).set i (aC r)); rw [hset, take_of_length_le]; rw [hsl, hkl]; exact le_refl _) (.c .refl (.c .refl .nil))))))))))) ?_;refine a8 (ag [] rfl ?_);exact aI (rtC trw)
def kO (c : Core) (i : Nat) : List (Nat × AObj) := [(4, .var 37 (bB c)), (5, .var 3 [.c (.int .i64 i)])]
def yP (sh : Bool) (p : CE) (c : Core) (i : Nat) : Core := if sh then c else if p.2 = 0 then aMp c i p.1 else c
theorem aOl (m : Mod) (X : Nat) (c x : Core) (i : Nat) (p : CE) (hi : i < c.kids.length) (hk : c.kids.length ≤ 600000000000) (hq : fF (QL X) x) (hsz : b6 x ≤ 570000000000) (hst : shC x = false → aU Tryz.prog 42 [.pa (jK m), .pa (aC x)] [] (fH p) []) :
  aU Tryz.prog 179 [.pa (jK m), .pa (aC x), .one (.clo 180 [.vp 4 0, .vp 5 0])] (kO c i) (fH (aMq (shC x) p (aMp c i))) (kO (yP (shC x) p c i) i) := by
 have hsh := wU X x hq hsz;unfold kO;refine bT (n := 26) tok Tryz.func179 rfl rfl rfl ?_;refine a8 (ag [(0, .id 13), (1, .id 14), (2, .id 16)] rfl ?_);refine a8 (a8 (aE mixed ?_));refine ak 1 [] rfl ?_;refine kc hsh ?_;refine az ?_;cases hS : shC x with
 | true =>
  refine aA rfl (fun _ => ?_) (fun hb => by cases hb);refine a8 (ag [] rfl ?_);exact aI (iB trw)
 | false =>
  have hst := hst hS;refine aA rfl (fun hb => by cases hb) (fun _ => ?_);refine aD ?_;refine a8 (aE mixed ?_);refine ak 2 [] rfl ?_;refine kc hst ?_;refine ak 6 [] rfl ?_;refine az ?_;refine a8 (a8 (ag [] rfl ?_));refine aA rfl (fun hb => ?_) (fun hb => ?_)
  ·have he : ¬ p.2 = 0 := by
    intro h;have hb : (!decide (p.2 = 0)) = true := hb;rw [decide_eq_true h] at hb; cases hb
   have e1 : aMq false p (aMp c i) = (zC, p.2) := by unfold aMq; rw [if_neg Bool.false_ne_true, if_neg he]
   have e2 : yP false p c i = c := by unfold yP; rw [if_neg Bool.false_ne_true, if_neg he]
   rw [e1, e2];refine a8 (ag [] rfl ?_);exact aI (iB trw)
  ·have he : p.2 = 0 := by
    have hb : (!decide (p.2 = 0)) = false := hb;by_cases h : p.2 = 0
    ·exact h
    ·rw [decide_eq_false h] at hb; cases hb
   have e1 : aMq false p (aMp c i) = (aMp c i p.1, 0) := by unfold aMq; rw [if_neg Bool.false_ne_true, if_pos he]
   have e2 : yP false p c i = aMp c i p.1 := by unfold yP; rw [if_neg Bool.false_ne_true, if_pos he]
   rw [e1, e2];obtain ⟨f, n, s, t, ks, bs, al⟩ := c;have hk1 := aWu f n s t ks bs al i p.1 hi hk;refine aD ?_;refine a8 (aE mixed ?_);refine ak 2 [] rfl ?_;refine kv (args := [.pa (aC p.1)]) hk1 ?_;refine ak 2 [] rfl ?_;refine az ?_;exact aI (iB trw)
theorem aYt (m : Mod) (X : Nat) (c x : Core) (i : Nat) (st : Core → CE) (hx : c.kids[i]? = some x) (hk : c.kids.length ≤ 600000000000) (hq : fF (QL X) x) (hsz : b6 x ≤ 570000000000) (hst : shC x = false → aU Tryz.prog 42 [.pa (jK m), .pa (aC x)] [] (fH (st x)) []) :
  aU Tryz.prog 161 [.pa (jK m), .pa (aC c), I .i64 i] [] (fH (aAi st c i)) [] := by
 have hi : i < c.kids.length := (List.getElem?_eq_some_iff.1 hx).1
 have hw := aOl m X c x i (st x) hi hk hq hsz hst;have hxe : (aQ c.kids)[i]? = some (aC x) := by rw [bC]; exact bQ aC hx
 have he : aAi st c i = aMq (shC x) (st x) (aMp c i) := by unfold aAi; rw [hx]
 rw [he];obtain ⟨f, n, s, t, ks, bs, al⟩ := c;unfold kO at hw;refine bT (n := 18) tok Tryz.func161 rfl rfl rfl ?_;refine a8 (ag [] rfl ?_);refine a8 (aE mixed ?_);refine ak 7 [(4, .row i (aC x))] rfl ?_;refine kc hw ?_;refine ak 4 [] rfl ?_;refine az ?_;exact aI (iB trw)
end Go.Proofs.YtmoekkcdkjopgaaGreatDoor
namespace Go.Proofs.YtmoekkcdkjopgaaGreatDoor
open Go Go.AM Go.Shelf
set_option maxRecDepth 100000
def ir : Ren := ⟨fun f => if f = 129 then 200 else if f = 171 then 181 else if f = 243 then 193 else if f = 246 then 194 else if f = 283 then 195 else if f = 284 then 196 else if f = 285 then 197 else if f = 286 then 198 else if f = 317 then 199 else if f = 318 then 201 else if f = 319 then 202 else if f = 320 then 203 else if f = 337 then 204 else if f = 338 then 205 else f, fun t => if t = 0 then 0 else if t = 2 then 2 else if t = 3 then 3 else if t = 4 then 4 else if t = 5 then 5 else if t = 9 then 9 else if t = 20 then 20 else if t = 37 then 197 else if t = 46 then 218 else if t = 51 then 216 else if t = 53 then 209 else if t = 171 then 208 else if t = 173 then 212 else if t = 212 then 215 else if t = 213 then 217 else if t = 232 then 221 else if t = 233 then 222 else t, fun g => if g = 17 then 0 else if g = 18 then 1 else if g = 19 then 2 else g⟩
theorem il : LaysM.n171 Tryz.prog ir where
 mixed := mixed
 f129 := by kernel_rfl
 f171 := by kernel_rfl
 f243 := by kernel_rfl
 f246 := by kernel_rfl
 f283 := by kernel_rfl
 f284 := by kernel_rfl
 f285 := by kernel_rfl
 f286 := by kernel_rfl
 f317 := by kernel_rfl
 f318 := by kernel_rfl
 f319 := by kernel_rfl
 f320 := by kernel_rfl
 f337 := by kernel_rfl
 f338 := by kernel_rfl
 t0 := by kernel_rfl
 a0 := fun w => by kernel_rfl
 z0 := fun w => by kernel_rfl
 v0 := fun w => by kernel_rfl
 t2 := by kernel_rfl
 a2 := fun w => by kernel_rfl
 z2 := fun w => by kernel_rfl
 v2 := fun w => by kernel_rfl
 t3 := by kernel_rfl
 a3 := fun w => by kernel_rfl
 z3 := fun w => by kernel_rfl
 v3 := fun w => by kernel_rfl
 t4 := by kernel_rfl
 a4 := fun w => by kernel_rfl
 z4 := fun w => by kernel_rfl
 v4 := fun w => by kernel_rfl
 t5 := by kernel_rfl
 a5 := fun w => by kernel_rfl
 z5 := fun w => by kernel_rfl
 v5 := fun w => by kernel_rfl
 t9 := by kernel_rfl
 a9 := fun w => by kernel_rfl
 z9 := fun w => by kernel_rfl
 v9 := fun w => by kernel_rfl
 t20 := by kernel_rfl
 a20 := fun w => by kernel_rfl
 z20 := fun w => by kernel_rfl
 v20 := fun w => by kernel_rfl
 t37 := by kernel_rfl
 a37 := fun w => by kernel_rfl
 z37 := fun w => by kernel_rfl
 v37 := fun w => by kernel_rfl
 t46 := by kernel_rfl
 a46 := fun w => by kernel_rfl
 z46 := fun w => by kernel_rfl
 v46 := fun w => by kernel_rfl
 t51 := by kernel_rfl
 a51 := fun w => by kernel_rfl
 z51 := fun w => by kernel_rfl
 v51 := fun w => by kernel_rfl
 t53 := by kernel_rfl
 a53 := fun w => by kernel_rfl
 z53 := fun w => by kernel_rfl
 v53 := fun w => by kernel_rfl
 t171 := by kernel_rfl
 a171 := fun w => by kernel_rfl
 z171 := fun w => by kernel_rfl
 v171 := fun w => by kernel_rfl
 t173 := by kernel_rfl
 a173 := fun w => by kernel_rfl
 z173 := fun w => by kernel_rfl
 v173 := fun w => by kernel_rfl
 t212 := by kernel_rfl
 a212 := fun w => by kernel_rfl
 z212 := fun w => by kernel_rfl
 v212 := fun w => by kernel_rfl
 t213 := by kernel_rfl
 a213 := fun w => by kernel_rfl
 z213 := fun w => by kernel_rfl
 t232 := by kernel_rfl
 a232 := fun w => by kernel_rfl
 z232 := fun w => by kernel_rfl
 v232 := fun w => by kernel_rfl
 t233 := by kernel_rfl
 a233 := fun w => by kernel_rfl
 z233 := fun w => by kernel_rfl
 v233 := fun w => by kernel_rfl
 g17 := by kernel_rfl
 g18 := by kernel_rfl
 g19 := by kernel_rfl
 i0 := by kernel_rfl
 i2 := by kernel_rfl
 i3 := by kernel_rfl
 i4 := by kernel_rfl
 i5 := by kernel_rfl
 i9 := by kernel_rfl
 i20 := by kernel_rfl
 i37 := by kernel_rfl
 i46 := by kernel_rfl
 i51 := by kernel_rfl
 i53 := by kernel_rfl
 i171 := by kernel_rfl
 i173 := by kernel_rfl
 i212 := by kernel_rfl
 i232 := by kernel_rfl
 i233 := by kernel_rfl
 m17 := by kernel_rfl
 m18 := by kernel_rfl
 m19 := by kernel_rfl
end Go.Proofs.YtmoekkcdkjopgaaGreatDoor
namespace Go.AM
open Go
theorem Inv.grown {G : Ctx} {S : Sto} {μ : Mu} {H : cK} {w : World} (h : Inv G S μ H w) (k : Nat) (os : Array Obj) : Inv G S μ H (Sort.grow (w.drewN k) os) := by
 have hold : ∀ b : Nat, b < w.heap.size → (Sort.grow (w.drewN k) os).heap[b]? = w.heap[b]? := fun b hb => by
  show (w.heap ++ os)[b]? = w.heap[b]?;exact Array.getElem?_append_left hb
 have hsz : w.heap.size ≤ (Sort.grow (w.drewN k) os).heap.size := by
  show w.heap.size ≤ (w.heap ++ os).size;rw [Array.size_append]; omega
 obtain ⟨h1, h2, h3, h4, h5, h6, h7, h8⟩ := h;refine ⟨⟨fun b o v e => ?_, fun b es clk e => ?_⟩, fun id o e => (h2 id o e).evolve (Evolve.refl _ _ _) rfl fun b c hm => ⟨hold b ((h2 id o e).lt hm), fun _ => rfl, rfl⟩, h3, h4, ?_, h6, h7, h8⟩
 ·obtain ⟨vs, t, fr, g1, g2⟩ := h1.1 b o v e;exact ⟨vs, t, fr, by rw [hold b (eE g1)]; exact g1, g2⟩
 ·have g := h1.2 b es clk e;rw [hold b (eE g)]; exact g
 ·obtain ⟨f1, f2, f3, f4, f5, f6⟩ := h5;exact ⟨f1, f2, f3, le_trans f4 hsz, fun b hb hF => by rw [hold b (lt_of_lt_of_le hb f4)]; exact f5 b hb hF, f6⟩
end Go.AM
namespace Go.Proofs.YtmoekkcdkjopgaaGreatDoor
open Go Go.AM
set_option maxRecDepth 20000
theorem aLi (k : Nat) (h : k < 1000000000000000000) : aU Tryz.prog 181 [I .i64 (k : Int)] [] (Go.AM.T (Lib.decDigits k)) [] := by
 intro S μ w vals hI hv;simp only [bV, aW, b9, Rep] at hv;obtain ⟨v1, vs1, rfl, rfl, rfl⟩ := hv;have htab : Lib.TabIs Tryz.prog w "internal/strconv.uint64pow10" .u64 Lib.pow10Tab := by
  obtain ⟨h1, t, fr, h2⟩ := hI.frame.tabAt 0 rfl;unfold Lib.TabIs World.var?;rw [show Tryz.prog.globalNamed "internal/strconv.uint64pow10" = some 0 by kernel_rfl];simp only [Option.bind_some, h2];rfl
 refine Calls.mono (Any.strconv_Itoa il (k : Int) (by omega) (by omega) w htab) ?_;rintro e w' ⟨rfl, j, os, rfl⟩;refine ⟨S, μ, _, rfl, hI.grown j os, ?_⟩;rw [Lib.itoa_nonneg];simp only [aW, b9, Rep]
end Go.Proofs.YtmoekkcdkjopgaaGreatDoor
namespace Go.Proofs.YtmoekkcdkjopgaaGreatDoor
open Go Go.AM
set_option maxRecDepth 20000
set_option maxHeartbeats 4000000
theorem aUn (hI : dR 540000000000) {D M X : Nat} (hMD : M + D ≤ 700000) : ∀ (k : Nat) (c : Core), m30 c ≤ k → CG D M X c → ∀ (name : Str) (u : Ty), UOk u → ∀ x ∈ tyR (sTR k c name u), (x ∈ tyR c ∧ ¬ x = name) ∨ x ∈ tfR u := by
 intro k
 induction k with
 | zero => intro c h; have := fE c; omega
 | succ k ih =>
 intro c h hc name u hu x hx;obtain ⟨f, n, nm, t, ks, bs, al⟩ := c;obtain ⟨ht0, ht1, htb⟩ := hc.ty;have hq := hc.q;obtain ⟨q1, q2, q3, q4⟩ := bE.1 hq;have hz0 : tfR zTy = [] := rfl;have htft : ∀ v, wfS v = true → ∀ x ∈ tfR (l8 v [(name, u)]), (x ∈ tfR v ∧ ¬ x = name) ∨ x ∈ tfR u := fun v h1 x hx => by
  rcases aHu (tn v) v (le_refl _) h1 _ x hx with h | ⟨p, hp, _, h⟩
  ·exact .inl ⟨h.1, fun e => h.2 (by rw [e]; exact mem_singleton.2 rfl)⟩
  ·rw [mem_singleton.1 hp] at h; exact .inr h
 rw [sTR] at hx;by_cases h7 : f = 7
 ·subst h7;obtain ⟨⟨kid, rfl⟩, rfl, rfl⟩ := fK hq (.inr (.inr rfl));obtain ⟨g1, g2, g3⟩ := hc.kid (x := kid) mem_cons_self;rw [if_pos rfl] at g2;obtain rfl : t = zTy := (q1.2.1 rfl).1
  by_cases hs : nm = name ∨ ¬ name ∈ tyR (.mk 7 n nm zTy [kid] [] [])
  ·rw [if_pos ⟨rfl, hs⟩] at hx;refine .inl ⟨hx, fun e => ?_⟩;rw [e] at hx;rcases hs with rfl | hs
   ·rcases bM.1 hx with h | ⟨x, _, _, h | h⟩ | ⟨b, hb, _⟩ | ⟨a, ha, _⟩
    ·rw [hz0] at h; cases h
    ·exact h rfl
    ·exact h rfl
    ·cases hb
    ·cases ha
   ·exact hs hx
  rw [if_neg fun e => hs e.2] at hx;have hend : ∀ (nm1 : Str) (kid1 : Core), m30 kid1 ≤ k → CG D M X kid1 → (∀ y ∈ tyR kid1, ¬ y = nm1 → y ∈ tyR kid ∧ (y = nm → y ∈ tfR u)) → x ∈ tyR (iR (fun t => l8 t [(name, u)]) (fun x => sTR k x name u) (.mk 7 n nm1 zTy [kid1] [] [])) → (x ∈ tyR (.mk 7 n nm zTy [kid] [] []) ∧ ¬ x = name) ∨ x ∈ tfR u := fun nm1 kid1 hk1 hc1 hy hx => by
   rw [iR] at hx;rcases bM.1 hx with h | ⟨y, hym, h, hne'⟩ | ⟨b, hb, _⟩ | ⟨a, ha, _⟩
   ·rw [sN, hz0] at h; cases h
   ·obtain ⟨y0, hy0, rfl⟩ := mem_map.1 hym;rw [mem_singleton.1 hy0] at h;have hne' : ¬ x = nm1 := hne'.resolve_left (fun e => e rfl);rcases ih kid1 hk1 hc1 name u hu x h with ⟨h, hn⟩ | h
    ·obtain ⟨h1, h2⟩ := hy x h hne';by_cases e : x = nm
     ·exact .inr (h2 e)
     ·exact .inl ⟨bM.2 (.inr (.inl ⟨kid, mem_cons_self, h1, .inr e⟩)), hn⟩
    ·exact .inr h
   ·cases hb
   ·cases ha
  by_cases hnf : nm ∈ tfR u
  ·rw [if_pos ⟨rfl, hnf⟩, map_cons, map_nil] at hx;generalize b8 (tfR u ++ [kid].flatMap tyR) = z at hx;have hS1 := aB2 hI hMD k kid (by omega) g1 nm (vT z) (UOk.var z);refine hend z _ (le_trans hS1.sz (by omega)) (aMo hI hMD g1 g2 k (by omega) nm z) (fun y hy hyn => ?_) hx;rcases ih kid (by omega) g1 nm (vT z) (UOk.var z) y hy with ⟨h1, h2⟩ | h1
   ·exact ⟨h1, fun e => absurd e h2⟩
   ·rw [aFw] at h1; exact absurd (mem_singleton.1 h1) hyn
  ·rw [if_neg fun e => hnf e.2] at hx;exact hend nm kid (by omega) g1 (fun y hy hyn => ⟨hy, fun e => absurd e hyn⟩) hx
 ·rw [if_neg fun e => h7 e.1, if_neg fun e => h7 e.1, iR] at hx;rcases bM.1 hx with h | ⟨y, hy, h, _⟩ | ⟨y, hy, h⟩ | ⟨y, hy, h⟩
  ·exact (htft t ht0 x h).imp (fun h => ⟨bM.2 (.inl h.1), h.2⟩) id
  ·obtain ⟨y0, hy0, rfl⟩ := mem_map.1 hy;exact (ih y0 (by have := (hc.kid hy0).2.2; omega) (hc.kid hy0).1 name u hu x h).imp (fun h => ⟨bM.2 (.inr (.inl ⟨y0, hy0, h.1, .inl h7⟩)), h.2⟩) id
  ·obtain ⟨y0, hy0, rfl⟩ := mem_map.1 hy;rcases h with h | h
   ·exact (htft y0.ty (htb y0 hy0).1 x h).imp (fun h => ⟨bM.2 (.inr (.inr (.inl ⟨y0, hy0, .inl h.1⟩))), h.2⟩) id
   ·exact (ih y0.body (by have := (hc.bind hy0).2; omega) (hc.bind hy0).1 name u hu x h).imp (fun h => ⟨bM.2 (.inr (.inr (.inl ⟨y0, hy0, .inr h.1⟩))), h.2⟩) id
  ·obtain ⟨y0, hy0, rfl⟩ := mem_map.1 hy;exact (ih y0.body (by have := (hc.alt hy0).2; omega) (hc.alt hy0).1 name u hu x h).imp (fun h => ⟨bM.2 (.inr (.inr (.inr ⟨y0, hy0, h.1⟩))), h.2⟩) id
theorem q9 {α : Type} {g : α → α} : ∀ {l : List α}, (∀ x ∈ l, g x = x) → l.map g = l
 | [], _ => rfl
 | x :: l, h => by rw [map_cons, h x mem_cons_self, q9 fun y hy => h y (mem_cons_of_mem _ hy)]
theorem aUo {X : Nat} : ∀ (k : Nat) (c : Core), m30 c ≤ k → fF (QL X) c → ¬ ([] : Str) ∈ tyR c → sTR k c [] zTy = c := by
 intro k
 induction k with
 | zero => intro c h; have := fE c; omega
 | succ k ih =>
 intro c h hq hn;obtain ⟨f, n, nm, t, ks, bs, al⟩ := c;obtain ⟨⟨_, _, w1, w2, _⟩, q2, q3, q4⟩ := bE.1 hq;rw [m30] at h;rw [sTR];by_cases h7 : f = 7
 ·rw [if_pos ⟨h7, .inr hn⟩]
 ·have ts : ∀ v, wfS v = true → ¬ ([] : Str) ∈ tfR v → l8 v [([], zTy)] = v := fun v hv hnv => aAq (tn v) v (le_refl _) hv _ fun p hp h => by rw [mem_singleton.1 hp] at h; exact hnv h
  rw [if_neg (fun e => h7 e.1), if_neg (fun e => h7 e.1), iR, ts t w1 (fun e => hn (bM.2 (.inl e)))];rw [q9 (l := ks) fun x hx => ih x (by have := hJ hx; omega) (q2 x hx) fun e => hn (bM.2 (.inr (.inl ⟨x, hx, e, .inl h7⟩)))]
  rw [q9 (l := bs) fun x hx => by
   rw [ts x.ty (w2 (bhd x) (mem_map.2 ⟨x, hx, rfl⟩)) fun e => hn (bM.2 (.inr (.inr (.inl ⟨x, hx, .inl e⟩)))), ih x.body (by have := nI hx; omega) (q3 x hx) fun e => hn (bM.2 (.inr (.inr (.inl ⟨x, hx, .inr e⟩))))]
   cases x; rfl]
  rw [q9 (l := al) fun x hx => by
   rw [ih x.body (by have := iW hx; omega) (q4 x hx) fun e => hn (bM.2 (.inr (.inr (.inr ⟨x, hx, e⟩))))]
   cases x; rfl]
theorem dK : j6.k = 0 := by unfold Alg.k zTy; rw [tW, if_neg (by decide), if_neg (by decide), tWs]; rfl
theorem dZ : tW j6 zTy r0 = 0 := dK
structure ST (n : Nat) (U : List Str) (c : Core) : Prop where
 q : fF (QL 403) c
 cw : ∀ E, n * 3 ≤ E → cw j6 E c r0 ≤ 3 + E
 ty : ∀ x ∈ tyR c, x ∈ U
 tl : tlC c ≤ 6000
 sz : m30 c ≤ 3500000
structure SR (n : Nat) (U : List Str) (s : Nat) (c : Core) : Prop where
 q : fF (QL 403) c
 cw : ∀ E, n * 3 ≤ E → cw j6 E c r0 ≤ 3 + E
 ty : ∀ x ∈ tyR c, x ∈ U
 tl : tlC c ≤ 84000
 sz : 60 * m30 c ≤ 210000000 + s * s + 120 * s
theorem ST.mono {n m : Nat} {U : List Str} {c : Core} (h : ST n U c) (hm : n ≤ m) : ST m U c := ⟨h.q, fun E hE => h.cw E (by omega), h.ty, h.tl, h.sz⟩
theorem ST.cg {n : Nat} {U : List Str} {c : Core} (h : ST n U c) (hn : n ≤ 100) (hU : U.length ≤ 480000) : CG 400 650000 403 c := by
 refine ⟨h.q, ?_, ?_, le_trans h.sz (by decide)⟩
 ·have := h.cw (n * 3) (le_refl _);have := rQ (A := j6) (E := 0) (E' := n * 3) (zero_le _) (c := c) (ρ := r0) (ρ' := r0) (fun _ => le_refl _);omega
 ·have := dM h.ty;have := h.tl;omega
theorem ar0 {s : Nat} (h : s ≤ 3500000) : s * s ≤ 12250000000000 := le_trans (Nat.mul_le_mul h h) (by decide)
theorem SR.big {n s : Nat} {U : List Str} {c : Core} (h : SR n U s c) (hs : s ≤ 3500000) : m30 c ≤ Big := by
 have := ar0 hs;have := h.sz;have : Big = 250000000000 := rfl;omega
theorem SR.cg {n s : Nat} {U : List Str} {c : Core} (h : SR n U s c) (hn : n ≤ 100) (hs : s ≤ 3500000) (hU : U.length ≤ 480000) : CG 400 650000 403 c := by
 refine ⟨h.q, ?_, ?_, h.big hs⟩
 ·have := h.cw (n * 3) (le_refl _);have := rQ (A := j6) (E := 0) (E' := n * 3) (zero_le _) (c := c) (ρ := r0) (ρ' := r0) (fun _ => le_refl _);omega
 ·have := dM h.ty;have := h.tl;omega
section
variable {n : Nat} {U : List Str} {f i : Int} {s : Str} {t : Ty} {ks : List Core} {bs : List Bind} {al : List Alt}
theorem ST.kid (h : ST n U (.mk f i s t ks bs al)) (h7 : ¬ f = 7) {x : Core} (hx : x ∈ ks) : ST n U x := by
 refine ⟨(bE.1 h.q).2.1 x hx, fun E hE => ?_, fun y hy => h.ty y (bM.2 (.inr (.inl ⟨x, hx, hy, .inl h7⟩))), ?_, ?_⟩
 ·have := (fU.1 (h.cw E hE)).2.2.1 x hx;rwa [if_neg h7] at this
 ·have := (k7 (f := f) (n := i) (s := s) (t := t) (ks := ks) (bs := bs) (al := al)).1 x hx;have := h.tl;omega
 ·have := hJ hx;have := h.sz;rw [m30] at this;omega
theorem ST.tkid (h : ST n U (.mk 7 i s t ks bs al)) {x : Core} (hx : x ∈ ks) : ST n (s :: U) x ∧ tlC x + 1 ≤ tlC (.mk 7 i s t ks bs al) ∧ m30 x < m30 (.mk 7 i s t ks bs al) := by
 have h1 := (k7 (f := 7) (n := i) (s := s) (t := t) (ks := ks) (bs := bs) (al := al)).1 x hx;rw [if_pos rfl] at h1;have h2 := hJ hx;have h3 := h.tl;have h4 := h.sz;refine ⟨⟨(bE.1 h.q).2.1 x hx, fun E hE => ?_, fun y hy => ?_, by omega, ?_⟩, h1, ?_⟩
 ·have := (fU.1 (h.cw E hE)).2.2.1 x hx;rw [if_pos rfl] at this;exact le_trans (rQ (le_refl _) fun y => zero_le _) this
 ·by_cases e : y = s
  ·rw [e]; exact mem_cons_self
  ·exact mem_cons_of_mem _ (h.ty y (bM.2 (.inr (.inl ⟨x, hx, hy, .inr e⟩))))
 ·rw [m30] at h4; omega
 ·rw [m30]; omega
theorem ST.bind (h : ST n U (.mk f i s t ks bs al)) {x : Bind} (hx : x ∈ bs) : ST n U x.body := by
 refine ⟨(bE.1 h.q).2.2.1 x hx, fun E hE => ((fU.1 (h.cw E hE)).2.2.2.1 x hx).2, fun y hy => h.ty y (bM.2 (.inr (.inr (.inl ⟨x, hx, .inr hy⟩)))), ?_, ?_⟩
 ·have := (k7 (f := f) (n := i) (s := s) (t := t) (ks := ks) (bs := bs) (al := al)).2.1 x hx;have := h.tl;omega
 ·have := nI hx;have := h.sz;rw [m30] at this;omega
theorem ST.alt (h : ST n U (.mk f i s t ks bs al)) {x : Alt} (hx : x ∈ al) : ST n U x.body := by
 refine ⟨(bE.1 h.q).2.2.2 x hx, fun E hE => (fU.1 (h.cw E hE)).2.2.2.2 x hx, fun y hy => h.ty y (bM.2 (.inr (.inr (.inr ⟨x, hx, hy⟩)))), ?_, ?_⟩
 ·have := (k7 (f := f) (n := i) (s := s) (t := t) (ks := ks) (bs := bs) (al := al)).2.2 x hx;have := h.tl;omega
 ·have := iW hx;have := h.sz;rw [m30] at this;omega
theorem aCf (hf : okF f 0 0 0 = true) (h7 : ¬ f = 7) (h5 : ¬ f = 5) (hs : s.length ≤ 30) : fF (QL 403) (.mk f i s zTy [] [] []) := by
 have hw : w30 s = 30 := by unfold w30; omega
 exact bE.2 ⟨⟨hf, fun h => absurd h h7, rfl, by simp, by unfold lw; rw [hw]; decide, fun h => absurd h h5, by simp, by simp⟩, by simp, by simp, by simp⟩
theorem aCe {w : Nat} (hf : okF f 0 0 0 = true) (h7 : ¬ f = 7) (h5 : ¬ f = 5) (hs : s.length ≤ 30) : SR n U w (.mk f i s zTy [] [] []) := by
 have hw : w30 s = 30 := by unfold w30; omega
 refine ⟨aCf hf h7 h5 hs, fun E hE => fU.2 ⟨by rw [dK]; omega, by rw [dZ]; omega, by simp, by simp, by simp⟩, fun y hy => ?_, ?_, ?_⟩
 ·rcases bM.1 hy with h | ⟨x, hx, _⟩ | ⟨x, hx, _⟩ | ⟨x, hx, _⟩
  ·cases h
  ·cases hx
  ·cases hx
  ·cases hx
 ·rw [tlC, jI, pN, oZ, if_neg h7]; omega
 ·rw [m30, cZ, fV, hY, hw]; omega
end
theorem ST.sr {n w : Nat} {U : List Str} {c : Core} (h : ST n U c) : SR n U w c := ⟨h.q, h.cw, h.ty, by have := h.tl; omega, by have := h.sz; omega⟩
theorem aVy {n : Nat} {U : List Str} : ∀ (k : Nat) (c : Core), m30 c ≤ k → ST n U c → ∀ (s : Str) (l : List Core), gvC c = some (s, l) → (∀ x ∈ l, ST n U x) ∧ (l.map m30).sum ≤ m30 c := by
 intro k
 induction k with
 | zero => intro c h; have := fE c; omega
 | succ k ih =>
 intro c h hc s l hg;obtain ⟨f, i, nm, t, ks, bs, al⟩ := c;rw [gvC] at hg;by_cases h2 : f = 2
 ·rw [if_pos h2] at hg;cases hg;exact ⟨by simp, by simp⟩
 rw [if_neg h2] at hg;by_cases h4 : f = 4
 ·rw [if_pos h4] at hg;obtain ⟨⟨a, b, rfl⟩, rfl, rfl⟩ := s8 hc.q (.inl h4);have ha := hc.kid (by omega) (x := a) mem_cons_self;have hb := hc.kid (by omega) (x := b) (mem_cons_of_mem _ mem_cons_self);rw [m30, cZ, cZ, cZ] at h ⊢;rw [gvH] at hg;cases hga : gvC a with
  | none => rw [hga] at hg; cases hg
  | some p =>
   rw [hga] at hg;obtain ⟨s1, l1⟩ := p;obtain ⟨g1, g2⟩ := ih a (by omega) ha s1 l1 hga;have hg := Option.some.inj hg;have e : l = l1 ++ [b] := (congrArg Prod.snd hg).symm;rw [e];refine ⟨fun x hx => ?_, ?_⟩
   ·rcases mem_append.1 hx with hx | hx
    ·exact g1 x hx
    ·rw [mem_singleton.1 hx]; exact hb
   ·rw [map_append, List.sum_append];simp only [map_cons, map_nil, sum_cons, sum_nil];omega
 rw [if_neg h4] at hg;by_cases h6 : f = 6
 ·rw [if_pos h6] at hg;obtain ⟨⟨a, rfl⟩, rfl, rfl⟩ := fK hc.q (.inr (.inl h6));have ha := hc.kid (by omega) (x := a) mem_cons_self;rw [m30, cZ, cZ] at h ⊢;rw [gvH] at hg;obtain ⟨g1, g2⟩ := ih a (by omega) ha s l hg;exact ⟨g1, by omega⟩
 ·rw [if_neg h6] at hg; cases hg
theorem aUm {a b s : Nat} (h : a + b ≤ s) : a * a + 2 * (a * b) + b * b ≤ s * s := by
 have h1 := Nat.mul_le_mul h h;have h2 : (a + b) * (a + b) = a * a + 2 * (a * b) + b * b := by rw [add_mul, mul_add, mul_add, mul_comm b a]; omega
 omega
theorem aZl (a b : Nat) : 2 * (a * b) ≤ a * a + b * b := by
 rcases Nat.le_total a b with h | h
 ·obtain ⟨d, rfl⟩ := Nat.exists_eq_add_of_le h;have e1 : a * (a + d) = a * a + a * d := mul_add ..;have e2 : (a + d) * (a + d) = a * a + a * d + (a * d + d * d) := by rw [add_mul, mul_add, mul_add, mul_comm d a]
  omega
 ·obtain ⟨d, rfl⟩ := Nat.exists_eq_add_of_le h;have e1 : (b + d) * b = b * b + b * d := by rw [add_mul, mul_comm d b]
  have e2 : (b + d) * (b + d) = b * b + b * d + (b * d + d * d) := by rw [add_mul, mul_add, mul_add, mul_comm d b]
  omega
theorem ar1 {a b s : Nat} (h : a + b ≤ s) : 60 * (a * (b / 31 + 1)) ≤ s * s + 120 * s := by
 have h1 := aUm h;have h2 : a * (60 * (b / 31 + 1)) ≤ a * (2 * b + 60) := mul_le_mul_left _ (by omega);have e1 : a * (60 * (b / 31 + 1)) = 60 * (a * (b / 31 + 1)) := by rw [mul_left_comm]
 have e2 : a * (2 * b + 60) = 2 * (a * b) + a * 60 := by rw [mul_add, mul_left_comm]
 omega
theorem ar2 {a b s : Nat} (h : a + b ≤ s) : 60 * (a * (b / 15 + 2)) ≤ s * s + 120 * s := by
 have h1 := aUm h;have h3 := aZl a b;have h2 : a * (60 * (b / 15 + 2)) ≤ a * (4 * b + 120) := mul_le_mul_left _ (by omega);have e1 : a * (60 * (b / 15 + 2)) = 60 * (a * (b / 15 + 2)) := by rw [mul_left_comm]
 have e2 : a * (4 * b + 120) = 4 * (a * b) + a * 120 := by rw [mul_add, mul_left_comm]
 omega
theorem ar3 {s v : Nat} (hs : s ≤ 3500000) (h : 60 * v ≤ s * s + 120 * s) : v ≤ Big := by
 have := ar0 hs;have : Big = 250000000000 := rfl;omega
theorem ar4 {x m r C : Nat} (hx : x ≤ m) (h : 60 * r ≤ C + x * x + 120 * x) : 60 * (m - x + r) ≤ C + m * m + 120 * m := by
 have := Nat.mul_le_mul hx hx;omega
theorem aDf {α : Type} {g : α → Nat} : ∀ {l : List α} {x : α}, x ∈ l → g x ≤ (l.map g).sum
 | y :: l, x, h => by
  rw [map_cons, sum_cons];rcases mem_cons.1 h with e | h
  ·rw [e]; omega
  ·have := aDf (g := g) h; omega
theorem k8 {α : Type} {g : α → Nat} {K : Nat} : ∀ {l : List α}, (∀ x ∈ l, g x ≤ K) → (l.map g).sum ≤ l.length * K
 | [], _ => by simp
 | y :: l, h => by
  rw [map_cons, sum_cons, length_cons, Nat.succ_mul];have := h y mem_cons_self;have := k8 (l := l) fun x hx => h x (mem_cons_of_mem _ hx)
  omega
theorem aUl : ∀ bh : List (Str × Ty), 31 * bh.length ≤ (bh.map fun p => 1 + w30 p.1).sum
 | [] => le_refl _
 | p :: l => by simp only [map_cons, sum_cons, length_cons]; have := aUl l; have := mC p.1; omega
theorem aZg {s : Str} {bh : List (Str × Ty)} {ah : List (Str × List Str)} (h : lw s bh ah ≤ 403) : bh.length ≤ 12 := by
 unfold lw at h;have := aUl bh;have := mC s;omega
theorem aZh {s : Str} {bh : List (Str × Ty)} {ah : List (Str × List Str)} (h : lw s bh ah ≤ 403) {p : Str × List Str} (hp : p ∈ ah) : p.2.length ≤ 12 := by
 unfold lw at h;have h1 := aDf (g := fun p : Str × List Str => 1 + w30 p.1 + (p.2.map fun v => 1 + w30 v).sum) hp;have h2 := vA p.2;have := mC s;omega
section
variable {n : Nat} {U : List Str}
theorem aRb (hI : dR 540000000000) (hn : n ≤ 99) (hU : U.length ≤ 480000) {body a : Core} {nm : Str} {s : Nat} (h1 : ST n U body) (h2 : ST n U a) (hs : m30 body + m30 a ≤ s) :
  TB 403 body nm a (fC (m30 body) body nm a) ∧ SR (n + 1) U s (fC (m30 body) body nm a) := by
 have hT := z8 hI (D := 400) (M := 650000) (X := 403) (by decide) (by decide) (m30 body) body (le_refl _) (h1.cg (by omega) hU) nm a (h2.cg (by omega) hU);refine ⟨hT, hT.rx.q, fun E hE => ?_, fun x hx => (hT.rx.ty x hx).elim (h1.ty x) (h2.ty x), ?_, ?_⟩
 ·have := hT.rx.cw j6 E r0;have := h1.cw E (by omega);have := h2.cw E (by omega);omega
 ·have := hT.rx.tl;have := h1.tl;have := h2.tl;omega
 ·have := hT.sz (m30 a / 31 + 1) (by omega) (by omega);have := ar1 hs;omega
theorem aMf (hI : dR 540000000000) (hn : n ≤ 99) (hU : U.length ≤ 480000) {i i' : Int} {s nm : Str} {u t' : Ty} {body : Core} {bs : List Bind} {al : List Alt}
  (h : ST n U (.mk 6 i s u [.mk 7 i' nm t' [body] [] []] bs al)) {w : Nat} :
  SB 403 body nm u (sTR (m30 body) body nm u) ∧ SR (n + 1) U w (sTR (m30 body) body nm u) := by
 have hh := h.kid (by decide) (x := .mk 7 i' nm t' [body] [] []) mem_cons_self;obtain ⟨hb, _, _⟩ := hh.tkid (x := body) mem_cons_self;have hcg := h.cg (by omega) hU;have hcb := ((hh.cg (by omega) hU).kid (x := body) mem_cons_self).1
 obtain ⟨w1, w2, _⟩ := hcg.ty;have hu : UOk u := ⟨w1, by omega⟩
 have hS := aB2 hI (by decide) (m30 body) body (le_refl _) hcb nm u hu;refine ⟨hS, hS.q, fun E hE => ?_, fun x hx => ?_, ?_, ?_⟩
 ·have h1 := hS.cw j6 E r0;have h2 := (fU.1 (h.cw (n * 3) (le_refl _))).2.1
  have h3 := (fU.1 (hh.cw E (by omega))).2.2.1 body mem_cons_self;rw [if_pos rfl] at h3;refine le_trans h1 (le_trans (rQ (le_refl _) fun x => ?_) h3);unfold fO;split
  ·omega
  ·exact le_refl _
 ·rcases aUn hI (by decide) (m30 body) body (le_refl _) hcb nm u hu x hx with ⟨h1, h2⟩ | h1
  ·exact (mem_cons.1 (hb.ty x h1)).resolve_left h2
  ·exact h.ty x (bM.2 (.inl h1))
 ·have := hS.tl;have := hb.tl;omega
 ·have := hS.sz;have := hb.sz;omega
theorem aQ9 {B s : Nat} {c r : Core} {l : List Core} (hc : ST n U c) (hl : ∀ b ∈ l, (∀ E, n * 3 ≤ E → cw j6 E b r0 ≤ 3 + E) ∧ (∀ x ∈ tyR b, x ∈ U) ∧ tlC b ≤ 6000) (h12 : l.length ≤ 12) (hB : 60 * (m30 c * B) ≤ s * s + 120 * s) (h : PR 403 B c l r) : SR (n + 1) U s r := by
 refine ⟨h.q, fun E hE => h.cw j6 E r0 _ (hc.cw E (by omega)) fun b hb => (hl b hb).1 E (by omega), fun x hx => ?_, ?_, ?_⟩
 ·rcases h.ty x hx with h | ⟨b, hb, h⟩
  ·exact hc.ty x h
  ·exact (hl b hb).2.1 x h
 ·have h1 := h.tl;have h2 := k8 (g := tlC) (K := 6000) (l := l) fun b hb => (hl b hb).2.2
  have h3 := hc.tl;have h4 : l.length * 6000 ≤ 12 * 6000 := mul_le_mul_right _ h12;omega
 ·have := h.sz;omega
theorem aXa {B s : Nat} {c : Core} {l : List Core} (hn : n ≤ 99) (hU : U.length ≤ 480000) (hc : ST n U c) (hl : ∀ b ∈ l, (∀ E, n * 3 ≤ E → cw j6 E b r0 ≤ 3 + E) ∧ (∀ x ∈ tyR b, x ∈ U) ∧ tlC b ≤ 6000) (h12 : l.length ≤ 12) (hs : s ≤ 3500000) (hB1 : 1 ≤ B) (hB : 60 * (m30 c * B) ≤ s * s + 120 * s)
  (hq : ∀ b ∈ l, fF (QL 403) b) (hbs : ∀ b ∈ l, m30 b ≤ 31 * B) (hbm : ∀ b ∈ l, m30 b ≤ 10000000) : PO 400 650000 403 B c l := by
 refine ⟨hc.q, (hc.cg (by omega) hU).dep, hq, fun b hb => ?_, ⟨U, ?_, hc.ty, fun b hb => (hl b hb).2.1⟩, hB1, hbs, ar3 hs hB, ?_⟩
 ·have := (hl b hb).1 (n * 3) (le_refl _)
  have := rQ (A := j6) (E := 0) (E' := n * 3) (zero_le _) (c := b) (ρ := r0) (ρ' := r0) (fun _ => le_refl _);omega
 ·have h2 := k8 (g := tlC) (K := 6000) (l := l) fun b hb => (hl b hb).2.2
  have h3 := hc.tl;have h4 : l.length * 6000 ≤ 12 * 6000 := mul_le_mul_right _ h12;omega
 ·have h2 := k8 (g := m30) (K := 10000000) (l := l) hbm;have h4 : l.length * 10000000 ≤ 12 * 10000000 := mul_le_mul_right _ h12;have : Big = 250000000000 := rfl;omega
theorem aSd {i : Int} {s : Str} {t : Ty} {ks : List Core} {bs : List Bind} {al : List Alt} (h : ST n U (.mk 8 i s t ks bs al)) {b : Bind} (hb : b ∈ bs) :
  fF (QL 403) (lX bs b) ∧ ((∀ E, n * 3 ≤ E → cw j6 E (lX bs b) r0 ≤ 3 + E) ∧ (∀ x ∈ tyR (lX bs b), x ∈ U) ∧ tlC (lX bs b) ≤ 6000) ∧ m30 (lX bs b) ≤ 31 * (fV bs / 15 + 2) ∧ m30 (lX bs b) ≤ 10000000 := by
 have hbb := h.bind hb;obtain ⟨⟨g1, g2, g3, g4, g5, g6, g7, g8⟩, _, q3, _⟩ := bE.1 h.q;have hs := h.sz;rw [m30] at hs;have hm := nI hb;have hw0 : w30 ([] : Str) = 30 := rfl;have em : m30 (lX bs b) = 31 + m30 b.body + fV bs := by
  unfold lX;rw [m30, cZ, cZ, hY, hw0]; omega
 have hm31 : m30 b.body + 31 ≤ fV bs := by
  have h1 := w6 bs;have h2 : m30 b.body ≤ cZ (bs.map Bind.body) := hJ (mem_map.2 ⟨b, hb, rfl⟩);have h3 : 1 ≤ bs.length := List.length_pos_of_mem hb;omega
 refine ⟨?_, ⟨fun E hE => ?_, fun x hx => ?_, ?_⟩, by omega, by omega⟩
 ·unfold lX;refine bE.2 ⟨⟨by simp [okF], fun e => absurd e (by decide), rfl, g4, ?_, fun e => absurd e (by decide), g7, by simp⟩, by simpa using hbb.q, q3, by simp⟩;unfold lw at g5 ⊢;rw [hw0];have := mC s;simp only [map_nil, sum_nil];omega
 ·unfold lX;have g := fU.1 (h.cw E hE);refine fU.2 ⟨g.1, by rw [dZ]; omega, fun x hx => ?_, g.2.2.2.1, by simp⟩;rw [mem_singleton.1 hx, if_neg (by decide)];exact hbb.cw E hE
 ·unfold lX at hx;rcases bM.1 hx with h1 | ⟨y, hy, h1, _⟩ | ⟨y, hy, h1⟩ | ⟨y, hy, _⟩
  ·cases h1
  ·rw [mem_singleton.1 hy] at h1; exact hbb.ty x h1
  ·exact h.ty x (bM.2 (.inr (.inr (.inl ⟨y, hy, h1⟩))))
  ·cases hy
 ·unfold lX;have g := k7 (f := 8) (n := i) (s := s) (t := t) (ks := ks) (bs := bs) (al := al);have ht := h.tl;have := (xO (K := 6000) (f := 8) (n := 0) (s := []) (t := zTy) (ks := [b.body]) (bs := bs) (al := [])).2 ⟨fun x hx => by rw [mem_singleton.1 hx]; exact hbb.tl, fun x hx => le_trans (g.2.1 x hx) ht, by simp⟩
  rwa [if_neg (by decide), zero_add] at this
theorem aFr {i : Int} {s : Str} {t : Ty} {ks : List Core} {bs : List Bind} {al : List Alt} (h : fF (QL 403) (.mk 8 i s t ks bs al)) : (∃ a, ks = [a]) ∧ al = [] ∧ bs.length ≤ 12 := by
 obtain ⟨⟨h1, _, _, _, h5, _⟩, _⟩ := bE.1 h;have h6 := aZg h5;rw [length_map] at h6;unfold okF at h1;rw [if_neg (by decide), if_neg (by decide), if_pos rfl] at h1;obtain ⟨g1, g2⟩ := of_decide_eq_true h1;rw [length_map] at g2;exact ⟨length_eq_one_iff.1 g1, length_eq_zero_iff.1 g2, h6⟩
theorem aPn : ∀ l : List (Str × List Str), 31 * l.length ≤ (l.map fun p => 1 + w30 p.1 + (p.2.map fun v => 1 + w30 v).sum).sum
 | [] => by simp
 | p :: l => by
  have h1 := aPn l;have h2 := mC p.1;rw [map_cons, sum_cons, length_cons];omega
theorem aMk {i : Int} {s : Str} {t : Ty} {ks : List Core} {bs : List Bind} {al : List Alt} (h : fF (QL 403) (.mk 9 i s t ks bs al)) : (∃ a, ks = [a]) ∧ bs = [] ∧ al.length ≤ 12 ∧ ∀ a ∈ al, a.vars.length ≤ 12 := by
 obtain ⟨⟨h1, _, _, _, h5, _⟩, _⟩ := bE.1 h;unfold okF at h1;rw [if_neg (by decide), if_neg (by decide), if_neg (by decide), if_pos rfl] at h1;obtain ⟨g1, g2⟩ := of_decide_eq_true h1;rw [length_map] at g2;refine ⟨length_eq_one_iff.1 g1, length_eq_zero_iff.1 g2, ?_, fun a ha => aZh h5 (mem_map.2 ⟨a, ha, rfl⟩)⟩;unfold lw at h5;have h6 := aPn (al.map ahd);rw [length_map] at h6;have := mC s;omega
theorem aRa (hn : n ≤ 99) (hU : U.length ≤ 480000) {i : Int} {s : Str} {t : Ty} {a : Core} {bs : List Bind} (h : ST n U (.mk 8 i s t [a] bs [])) :
  PO 400 650000 403 (fV bs / 15 + 2) a (bs.map (lX bs)) ∧ (PR 403 (fV bs / 15 + 2) a (bs.map (lX bs)) (aBh a (bs.map Bind.name) (bs.map (lX bs))) → SR (n + 1) U (m30 (.mk 8 i s t [a] bs [])) (aBh a (bs.map Bind.name) (bs.map (lX bs)))) := by
 have ha := h.kid (by decide) (x := a) mem_cons_self;have h12 : (bs.map (lX bs)).length ≤ 12 := by rw [length_map]; exact (aFr h.q).2.2
 have hl : ∀ b ∈ bs.map (lX bs), fF (QL 403) b ∧ ((∀ E, n * 3 ≤ E → cw j6 E b r0 ≤ 3 + E) ∧ (∀ x ∈ tyR b, x ∈ U) ∧ tlC b ≤ 6000) ∧ m30 b ≤ 31 * (fV bs / 15 + 2) ∧ m30 b ≤ 10000000 := fun b hb => by
  obtain ⟨b0, hb0, rfl⟩ := mem_map.1 hb;exact aSd h hb0
 have hB := ar2 (a := m30 a) (b := fV bs) (s := m30 (.mk 8 i s t [a] bs [])) (by rw [m30, cZ, cZ]; omega);exact ⟨aXa hn hU ha (fun b hb => (hl b hb).2.1) h12 h.sz (by omega) hB (fun b hb => (hl b hb).1) (fun b hb => (hl b hb).2.2.1) (fun b hb => (hl b hb).2.2.2), aQ9 ha (fun b hb => (hl b hb).2.1) h12 hB⟩
theorem aMg (hn : n ≤ 99) (hU : U.length ≤ 480000) {a : Alt} {c : Core} {s : Nat} (hs : m30 a.body + m30 c ≤ s) (hs1 : s ≤ 3500000) (ha : ST n U a.body) (hc : ST n U c) (hv : a.vars.length ≤ 12) {nm : Str} {l : List Core} (hg : gvC c = some (nm, l)) (hl : l.length = a.vars.length) :
  PO 400 650000 403 (m30 c / 31 + 1) a.body l ∧ (PR 403 (m30 c / 31 + 1) a.body l (aBh a.body a.vars l) → SR (n + 1) U s (aBh a.body a.vars l)) := by
 obtain ⟨g1, g2⟩ := aVy _ c (le_refl _) hc nm l hg;have hm : ∀ b ∈ l, m30 b ≤ m30 c := fun b hb => le_trans (v8 hb) g2
 have hl' : ∀ b ∈ l, (∀ E, n * 3 ≤ E → cw j6 E b r0 ≤ 3 + E) ∧ (∀ x ∈ tyR b, x ∈ U) ∧ tlC b ≤ 6000 := fun b hb => ⟨(g1 b hb).cw, (g1 b hb).ty, (g1 b hb).tl⟩
 have hB := ar1 hs;exact ⟨aXa hn hU ha hl' (by omega) hs1 (by omega) hB (fun b hb => (g1 b hb).q) (fun b hb => by have := hm b hb; omega) (fun b hb => by have := hm b hb; omega), aQ9 ha hl' (by omega) hB⟩
theorem aEf {x r : Core} : ∀ {ks : List Core} {j : Nat}, ks[j]? = some x → cZ (ks.set j r) + m30 x = cZ ks + m30 r
 | y :: ks, 0, h => by
  have e : y = x := by simpa using h
  subst e;rw [List.set_cons_zero, cZ, cZ]; omega
 | y :: ks, j + 1, h => by
  rw [set_cons_succ, cZ, cZ];have := aEf (r := r) (ks := ks) (j := j) (by simpa using h);omega
theorem aW9 {f i : Int} {s : Str} {t : Ty} {ks : List Core} {bs : List Bind} {al : List Alt} (h7 : ¬ f = 7) (h : ST n U (.mk f i s t ks bs al)) {j : Nat} {x r : Core} (hx : ks[j]? = some x) (hr : SR (n + 1) U (m30 x) r) :
  SR (n + 1) U (m30 (.mk f i s t ks bs al)) (aMp (.mk f i s t ks bs al) j r) := by
 have hxm := List.mem_of_getElem? hx;have hin : ∀ y ∈ ks.set j r, y = r ∨ y ∈ ks := fun y hy => (List.mem_or_eq_of_mem_set hy).symm
 obtain ⟨g1, g2, g3, g4⟩ := bE.1 h.q;unfold aMp;refine ⟨bE.2 ⟨by rw [length_set]; exact g1, fun y hy => ?_, g3, g4⟩, fun E hE => ?_, fun y hy => ?_, ?_, ?_⟩
 ·rcases hin y hy with rfl | hy
  ·exact hr.q
  ·exact g2 y hy
 ·obtain ⟨c1, c2, c3, c4, c5⟩ := fU.1 (h.cw E (by omega));refine fU.2 ⟨c1, c2, fun y hy => ?_, c4, c5⟩;rcases hin y hy with rfl | hy
  ·rw [if_neg h7]; exact hr.cw E hE
  ·exact c3 y hy
 ·rcases bM.1 hy with h1 | ⟨z, hz, h1, _⟩ | h1
  ·exact h.ty y (bM.2 (.inl h1))
  ·rcases hin z hz with rfl | hz
   ·exact hr.ty y h1
   ·exact h.ty y (bM.2 (.inr (.inl ⟨z, hz, h1, .inl h7⟩)))
  ·exact h.ty y (bM.2 (.inr (.inr h1)))
 ·have g := k7 (f := f) (n := i) (s := s) (t := t) (ks := ks) (bs := bs) (al := al);have ht := h.tl;have := (xO (K := 84000) (f := f) (n := i) (s := s) (t := t) (ks := ks.set j r) (bs := bs) (al := al)).2 ⟨fun y hy => ?_, fun y hy => by have := g.2.1 y hy; omega, fun y hy => by have := g.2.2 y hy; omega⟩
  ·rwa [if_neg h7, zero_add] at this
  ·rcases hin y hy with rfl | hy
   ·exact hr.tl
   ·have := g.1 y hy; omega
 ·have g1 := aEf (r := r) hx;have g2 := hJ hxm;have e : m30 (.mk f i s t (ks.set j r) bs al) = m30 (.mk f i s t ks bs al) - m30 x + m30 r := by
   rw [m30, m30]; omega
  rw [e];exact ar4 (by rw [m30]; omega) hr.sz
end
theorem vE {bd : List Bind} {k : Nat} {f i : Int} {s : Str} {t : Ty} {ks : List Core} {bs : List Bind} {al : List Alt} : cV bd (k + 1) (.mk f i s t ks bs al) =
  if f = 1 then (match bd.find? fun b => decide (b.name = s) with | some b => (b.body, 0) | none => (zC, 51))
  else if f = 4 ∨ f = 6 then
   (if f = 4 ∧ (ks.headD zC).form = 5 then (fC (m30 ((ks.headD zC).kids.headD zC)) ((ks.headD zC).kids.headD zC) (ks.headD zC).name (ks.getD 1 zC), 0)
   else if f = 6 ∧ (ks.headD zC).form = 7 then (sTR (m30 ((ks.headD zC).kids.headD zC)) ((ks.headD zC).kids.headD zC) (ks.headD zC).name t, 0)
   else aAi (cV bd k) (.mk f i s t ks bs al) 0)
  else if f = 8 then (aBh (ks.headD zC) (bs.map Bind.name) (bs.map (lX bs)), 0)
  else if f = 9 then (if shC (ks.headD zC) = true then (match al.findSome? fun a => mF a (ks.headD zC) with | some r => (r, 0) | none => (zC, 52)) else aAi (cV bd k) (.mk f i s t ks bs al) 0)
  else if f = 10 then
   (if ¬ shC (ks.headD zC) = true then aAi (cV bd k) (.mk f i s t ks bs al) 0
   else if ¬ shC (ks.getD 1 zC) = true then aAi (cV bd k) (.mk f i s t ks bs al) 1
   else if (ks.headD zC).form = 3 ∧ (ks.getD 1 zC).form = 3 then r5 s (ks.headD zC).n (ks.getD 1 zC).n
   else (zC, 51))
  else if f = 11 then (zC, 52)
  else (zC, 51) := by rw [cV]; rfl
structure BI (U : List Str) (bd : List Bind) : Prop where
 len : bd.length ≤ 1000
 all : ∀ b ∈ bd, ST 0 U b.body
theorem aTn {n w : Nat} {U : List Str} {s : Str} {a b : Int} (h : (r5 s a b).2 = 0) : SR n U w (r5 s a b).1 := by
 have hi : ∀ m, SR n U w (jJ m) := fun m => aCe (by decide) (by decide) (by decide) (by decide)
 have ht : ∀ c, SR n U w (aTq c) := fun c => by cases c <;> exact aCe (by decide) (by decide) (by decide) (by decide)
 unfold r5 at h ⊢;by_cases h1 : s = aD6
 ·rw [if_pos h1]; exact hi _
 rw [if_neg h1] at h ⊢;by_cases h1 : s = aXg
 ·rw [if_pos h1]; exact hi _
 rw [if_neg h1] at h ⊢;by_cases h1 : s = aVj
 ·rw [if_pos h1]; exact hi _
 rw [if_neg h1] at h ⊢;by_cases h1 : s = aPy
 ·rw [if_pos h1] at h ⊢;by_cases h0 : b = 0
  ·rw [if_pos h0] at h; cases h
  ·rw [if_neg h0]; exact hi _
 rw [if_neg h1] at h ⊢;by_cases h1 : s = nEq
 ·rw [if_pos h1]; exact ht _
 rw [if_neg h1] at h ⊢;by_cases h1 : s = nLt
 ·rw [if_pos h1]; exact ht _
 ·rw [if_neg h1] at h; cases h
theorem aN4 {sh : Bool} {p : CE} {g : Core → Core} (h : (aMq sh p g).2 = 0) : sh = false ∧ p.2 = 0 ∧ (aMq sh p g).1 = g p.1 := by
 unfold aMq at h ⊢;cases sh with
 | true => cases h
 | false =>
  rw [if_neg Bool.false_ne_true] at h ⊢;by_cases h0 : p.2 = 0
  ·rw [if_pos h0]; exact ⟨rfl, h0, rfl⟩
  ·rw [if_neg h0] at h; exact absurd h h0
theorem pQ (hI : dR 540000000000) {n : Nat} {U : List Str} (hn : n ≤ 99) (hU : U.length ≤ 480000) {bd : List Bind} (hB : BI U bd) : ∀ (k : Nat) (c : Core), m30 c ≤ k → ST n U c → (cV bd k c).2 = 0 → SR (n + 1) U (m30 c) (cV bd k c).1 := by
 intro k
 induction k with
 | zero => intro c h; have := fE c; omega
 | succ k ih =>
 intro c h hc he;obtain ⟨f, i, s, t, ks, bs, al⟩ := c;have hkid : ∀ j, ¬ f = 7 → (aAi (cV bd k) (.mk f i s t ks bs al) j).2 = 0 → SR (n + 1) U (m30 (.mk f i s t ks bs al)) (aAi (cV bd k) (.mk f i s t ks bs al) j).1 := fun j h7 he => by
  unfold aAi at he ⊢;cases hx : ks[j]? with
  | none =>
   have hx' : (Core.mk f i s t ks bs al).kids[j]? = none := hx;rw [hx'] at he; cases he
  | some x =>
   have hx' : (Core.mk f i s t ks bs al).kids[j]? = some x := hx;rw [hx'] at he ⊢;dsimp only at he ⊢;obtain ⟨_, e2, e3⟩ := aN4 he;rw [e3];have hxm := List.mem_of_getElem? hx;exact aW9 h7 hc hx (ih x (by have := hJ hxm; rw [m30] at h; omega) (hc.kid h7 hxm) e2)
 rw [vE] at he ⊢;by_cases h1 : f = 1
 ·rw [if_pos h1] at he ⊢;cases hf : bd.find? fun b => decide (b.name = s) with
  | none => rw [hf] at he; cases he
  | some b => exact ((hB.all b (List.mem_of_find?_eq_some hf)).mono (zero_le _)).sr
 rw [if_neg h1] at he ⊢;by_cases h46 : f = 4 ∨ f = 6
 ·rw [if_pos h46] at he ⊢;by_cases ha : f = 4 ∧ (ks.headD zC).form = 5
  ·rw [if_pos ha];obtain ⟨rfl, ha⟩ := ha;obtain ⟨⟨a, b, rfl⟩, rfl, rfl⟩ := s8 hc.q (.inl rfl);have ka := hc.kid (by decide) (x := a) mem_cons_self;have kb := hc.kid (by decide) (x := b) (mem_cons_of_mem _ mem_cons_self);obtain ⟨f', i', s', t', ks', bs', al'⟩ := a;have ha : f' = 5 := ha;subst ha;obtain ⟨⟨body, rfl⟩, rfl, rfl⟩ := fK ka.q (.inl rfl);exact (aRb hI hn hU (ka.kid (by decide) (x := body) mem_cons_self) kb (by rw [m30, cZ, cZ, cZ, m30, cZ, cZ]; omega)).2
  rw [if_neg ha] at he ⊢;by_cases hb : f = 6 ∧ (ks.headD zC).form = 7
  ·rw [if_pos hb];obtain ⟨rfl, hb⟩ := hb;obtain ⟨⟨a, rfl⟩, rfl, rfl⟩ := fK hc.q (.inr (.inl rfl));have ka := hc.kid (by decide) (x := a) mem_cons_self;obtain ⟨f', i', s', t', ks', bs', al'⟩ := a;have hb : f' = 7 := hb;subst hb;obtain ⟨⟨body, rfl⟩, rfl, rfl⟩ := fK ka.q (.inr (.inr rfl));exact (aMf hI hn hU hc).2
  rw [if_neg hb] at he ⊢;exact hkid 0 (by omega) he
 rw [if_neg h46] at he ⊢;by_cases h8 : f = 8
 ·rw [if_pos h8];subst h8;obtain ⟨⟨a, rfl⟩, rfl, h12⟩ := aFr hc.q;obtain ⟨g1, g2⟩ := aRa hn hU hc;exact g2 (aOp hI (by decide) (by decide) a _ _ (by rw [length_map, length_map]) (by rw [length_map]; omega) g1).2
 rw [if_neg h8] at he ⊢;by_cases h9 : f = 9
 ·rw [if_pos h9] at he ⊢;subst h9;obtain ⟨⟨a, rfl⟩, rfl, h12, hv⟩ := aMk hc.q;cases hsh : shC a with
  | true =>
   have e : shC ([a].headD zC) = true := hsh;rw [if_pos e] at he ⊢;have ka := hc.kid (by decide) (x := a) mem_cons_self;cases hfs : al.findSome? fun x => mF x ([a].headD zC) with
   | none => rw [hfs] at he; cases he
   | some r =>
    obtain ⟨x, hx, hxr⟩ := List.exists_of_findSome?_eq_some hfs;have kx := hc.alt hx;have hxr : mF x a = some r := hxr;have hm := iW hx;have hsz := hc.sz;show SR (n + 1) U _ r;unfold mF at hxr;by_cases e1 : x.form = 3
    ·rw [if_pos e1] at hxr; cases hxr; exact (kx.mono (le_succ _)).sr
    rw [if_neg e1] at hxr;by_cases e2 : x.form = 2
    ·rw [if_pos e2] at hxr;by_cases e3 : a.form = 3 ∧ a.n = x.n
     ·rw [if_pos e3] at hxr; cases hxr; exact (kx.mono (le_succ _)).sr
     ·rw [if_neg e3] at hxr; cases hxr
    rw [if_neg e2] at hxr;cases hg : gvC a with
    | none => rw [hg] at hxr; cases hxr
    | some p =>
     obtain ⟨nm, l⟩ := p;rw [hg] at hxr;dsimp only at hxr;by_cases e3 : nm = x.name ∧ l.length = x.vars.length
     ·rw [if_pos e3] at hxr;cases hxr;obtain ⟨g1, g2⟩ := aMg hn hU (s := m30 (.mk 9 i s t [a] [] al)) (by rw [m30, cZ, cZ]; omega) hsz kx ka (hv x hx) hg e3.2;exact g2 (aOp hI (by decide) (by decide) x.body _ _ e3.2.symm (by have := hv x hx; omega) g1).2
     ·rw [if_neg e3] at hxr; cases hxr
  | false =>
   have e : ¬ shC ([a].headD zC) = true := by rw [show shC ([a].headD zC) = shC a from rfl, hsh]; decide
   rw [if_neg e] at he ⊢;exact hkid 0 (by decide) he
 rw [if_neg h9] at he ⊢;by_cases h10 : f = 10
 ·rw [if_pos h10] at he ⊢;by_cases g1 : ¬ shC (ks.headD zC) = true
  ·rw [if_pos g1] at he ⊢; exact hkid 0 (by omega) he
  rw [if_neg g1] at he ⊢;by_cases g2 : ¬ shC (ks.getD 1 zC) = true
  ·rw [if_pos g2] at he ⊢; exact hkid 1 (by omega) he
  rw [if_neg g2] at he ⊢;by_cases g3 : (ks.headD zC).form = 3 ∧ (ks.getD 1 zC).form = 3
  ·rw [if_pos g3] at he ⊢; exact aTn he
  ·rw [if_neg g3] at he; cases he
 rw [if_neg h10] at he;by_cases h11 : f = 11
 ·rw [if_pos h11] at he; cases he
 ·rw [if_neg h11] at he; cases he
mutual
theorem nJ {X : Nat} : ∀ c : Core, fF (QL X) c → m30 c ≤ X * eU c
 | .mk f n s t ks bs al, h => by
  obtain ⟨⟨_, _, _, _, h5, _⟩, h2, h3, h4⟩ := bE.1 h;have k1 := tU ks h2;have k2 := tV bs h3;have k3 := tX al h4;unfold lw at h5;rw [m30, eU, mul_add, mul_add, mul_add, mul_one];omega
theorem tU {X : Nat} : ∀ l : List Core, (∀ x ∈ l, fF (QL X) x) → cZ l ≤ X * bK l
 | [], _ => by rw [cZ]; exact zero_le _
 | c :: l, h => by
  rw [cZ, bK, mul_add];have := nJ c (h c mem_cons_self);have := tU l fun x hx => h x (mem_cons_of_mem _ hx)
  omega
theorem tV {X : Nat} : ∀ l : List Bind, (∀ x ∈ l, fF (QL X) x.body) → fV l ≤ X * dL l + ((l.map bhd).map fun p => 1 + w30 p.1).sum
 | [], _ => by rw [fV]; exact zero_le _
 | .mk s t c :: l, h => by
  rw [fV, dL, mul_add, map_cons, map_cons, sum_cons];have := nJ c (h _ mem_cons_self);have := tV l fun x hx => h x (mem_cons_of_mem _ hx)
  show _ ≤ _ + (1 + w30 s + _);omega
theorem tX {X : Nat} : ∀ l : List Alt, (∀ x ∈ l, fF (QL X) x.body) → hY l ≤ X * dS l + ((l.map ahd).map fun p => 1 + w30 p.1 + (p.2.map fun v => 1 + w30 v).sum).sum
 | [], _ => by rw [hY]; exact zero_le _
 | .mk f n s v c :: l, h => by
  rw [hY, dS, mul_add, map_cons, map_cons, sum_cons];have := nJ c (h _ mem_cons_self);have := tX l fun x hx => h x (mem_cons_of_mem _ hx)
  show _ ≤ _ + (1 + w30 s + (v.map fun v => 1 + w30 v).sum + _);omega
end
mutual
theorem n5 : ∀ c : Core, tlC c ≤ eU c
 | .mk f n s t ks bs al => by
  have k1 := xL ks;have k2 := xM bs;have k3 := xN al;rw [tlC, eU];split <;> omega
theorem xL : ∀ l : List Core, jI l ≤ bK l
 | [] => by rw [jI]; exact zero_le _
 | c :: l => by rw [jI, bK]; have := n5 c; have := xL l; omega
theorem xM : ∀ l : List Bind, pN l ≤ dL l
 | [] => by rw [pN]; exact zero_le _
 | .mk s t c :: l => by rw [pN, dL]; have := n5 c; have := xM l; omega
theorem xN : ∀ l : List Alt, oZ l ≤ dS l
 | [] => by rw [oZ]; exact zero_le _
 | .mk f n s v c :: l => by rw [oZ, dS]; have := n5 c; have := xN l; omega
end
theorem SR.st {n s : Nat} {U : List Str} {c : Core} (h : SR n U s c) (hs : eU c ≤ 6000) : ST n U c :=
 ⟨h.q, h.cw, h.ty, le_trans (n5 c) hs, by have := nJ c h.q; have : 403 * eU c ≤ 403 * 6000 := mul_le_mul_left _ hs; omega⟩
theorem oW {p q : Prop} [Decidable p] [Decidable q] (h : (bif decide p then decide q else false) = true) : p ∧ q := by
 by_cases hp : p
 ·rw [decide_eq_true hp] at h; exact ⟨hp, of_decide_eq_true h⟩
 ·rw [decide_eq_false hp] at h; cases h
theorem RowsLe.snoc {r r' : List C} (h : CsLe r r') : ∀ l : List (List C), RowsLe (l ++ [r]) (l ++ [r'])
 | [] => .cons h .nil
 | x :: l => .cons (CsLe.refl x) (RowsLe.snoc h l)
def aEo {α : Type} (p : α → Bool) : List α → Nat → Int
 | [], _ => -1
 | x :: l, i => if p x = true then (i : Int) else aEo p l (i + 1)
theorem rH {α : Type} (p : α → Bool) : ∀ (l : List α) (i : Nat), (∃ (k : Nat) (x : α), aEo p l i = ((i + k : Nat) : Int) ∧ l[k]? = some x ∧ l.find? p = some x) ∨ (aEo p l i = -1 ∧ l.find? p = none)
 | [], i => .inr ⟨rfl, rfl⟩
 | x :: l, i => by
  rw [aEo, List.find?_cons];cases h : p x with
  | true => rw [if_pos rfl]; exact .inl ⟨0, x, rfl, rfl, rfl⟩
  | false =>
   rw [if_neg Bool.false_ne_true];rcases rH p l (i + 1) with ⟨k, y, h1, h2, h3⟩ | h
   ·exact .inl ⟨k + 1, y, by rw [h1]; congr 1; omega, h2, h3⟩
   ·exact .inr h
theorem aS4 (b : Bind) (f n : Int) (s : Str) (t : Ty) (ks : List Core) (bs : List Bind) (al : List Alt) : aU Tryz.prog 160 ([.pa (bA b)] ++ [R.vp 3 0].map V.one) [(3, .var 37 (bB (.mk f n s t ks bs al)))] (B (decide (b.name = s))) [(3, .var 37 (bB (.mk f n s t ks bs al)))] := by
 refine bT (n := 9) tok Tryz.func160 rfl rfl rfl ?_;refine a8 (ag [(0, .id 12)] rfl ?_);refine a8 (ag [] rfl ?_);exact aI rtT
theorem aLj (l : List Bind) (hl : l.length ≤ 1000000000) (f n : Int) (s : Str) (t : Ty) (ks : List Core) (bs : List Bind) (al : List Alt) : aU Tryz.prog 152 [.one (.c (.sl 15 (l.map bA))), .one (.clo 160 [.vp 3 0])] [(3, .var 37 (bB (.mk f n s t ks bs al)))] (I .i64 (aEo (fun b : Bind => decide (b.name = s)) l 0)) [(3, .var 37 (bB (.mk f n s t ks bs al)))] := by
 have hkl : (l.map bA).length = l.length := length_map _;refine bT (n := 19) tok Tryz.func152 rfl rfl rfl ?_;refine a8 (ag [] rfl ?_);refine a8 (a8 (ag [] rfl ?_));refine aB ?_;refine aL (fun i : Nat => mk [(0, .one (.c (.sl 15 (l.map bA)))), (1, .one (.clo 160 [.vp 3 0])), (7, I .i64 ((l.map bA).length : Int)), (8, I .i64 i)] [(3, .var 37 (bB (.mk f n s t ks bs al)))]) (fun i => i ≤ l.length ∧ aEo (fun b : Bind => decide (b.name = s)) l 0 = aEo (fun b : Bind => decide (b.name = s)) (l.drop i) i) (fun i => l.length - i) 0 ⟨zero_le _, rfl⟩ sl ?_;intro i ⟨hi, hid⟩;refine a8 (ag [] rfl ?_);refine a8 (aA rfl (fun hb => ?_) (fun hb => ?_))
 ·have hlt := ltD hb hkl;obtain ⟨b, hbi⟩ := aK hlt;have hbi' := bQ bA hbi;have hc := aS4 b f n s t ks bs al;have hdr : l.drop i = b :: l.drop (i + 1) := by rw [drop_eq_getElem_cons hlt, (List.getElem?_eq_some_iff.1 hbi).2]
  rw [hdr, aEo] at hid;refine aD ?_;refine a8 (aB (a8 (ag [] rfl ?_)));refine a8 (aE mixed ?_);refine ak 5 [(3, .row i (bA b))] rfl ?_;refine kv (args := [.pa (bA b)]) hc ?_;refine az ?_;refine aA rfl (fun hb => ?_) (fun hb => ?_)
  ·rw [if_pos hb] at hid;rw [hid];refine a8 (ag [] rfl ?_);exact aI rtT
  ·rw [if_neg (by rw [show decide (b.name = s) = false from hb]; exact Bool.false_ne_true)] at hid;refine aD ?_;refine ag [] rfl ?_;exact ⟨i + 1, ⟨hlt, hid⟩, by dsimp only; omega, sl⟩
 have hge := geD hb hkl hi;subst hge;rw [drop_length, aEo] at hid;rw [hid];refine aM ?_;refine a8 (ag [] rfl ?_);exact aI rtT
theorem aSv (m : Mod) (hm : m.binds.length ≤ 1000000000) (f n : Int) (s : Str) (t : Ty) (ks : List Core) (bs : List Bind) (al : List Alt) :
  aU Tryz.prog 98 [.pa (jK m), .pa (aC (.mk f n s t ks bs al))] [] (fH (match m.binds.find? fun b => decide (b.name = s) with | some b => (b.body, 0) | none => (zC, 51))) [] := by
 have hix := aLj m.binds hm f n s t ks bs al;rcases rH (fun b : Bind => decide (b.name = s)) m.binds 0 with ⟨k, b, h1, h2, h3⟩ | ⟨h1, h3⟩
 ·rw [h1, zero_add] at hix;rw [h3];have hb' := bQ bA h2;have hlt := (List.getElem?_eq_some_iff.1 h2).1
  refine bT (n := 22) tok Tryz.func98 rfl rfl rfl ?_;refine a8 (ag [] rfl ?_);refine a8 (aE mixed ?_);refine ak 4 [] rfl ?_;refine kc hix ?_;refine ak 1 [] rfl ?_;refine az ?_;refine a8 (a8 (ag [] rfl ?_));refine aA rfl (fun hb => absurd (of_decide_eq_true hb) (by omega)) (fun _ => ?_);refine aD ?_;refine a8 (ag [(4, .row k (bA b))] rfl ?_);exact aI (iB trw)
 ·rw [h1] at hix;rw [h3];refine bT (n := 22) tok Tryz.func98 rfl rfl rfl ?_;refine a8 (ag [] rfl ?_);refine a8 (aE mixed ?_);refine ak 4 [] rfl ?_;refine kc hix ?_;refine ak 1 [] rfl ?_;refine az ?_;refine a8 (a8 (ag [] rfl ?_));refine aA rfl (fun _ => ?_) (fun hb => absurd hb (by decide));refine a8 (ag [] rfl ?_);exact aI (iB trw)
section
variable {n : Nat} {U : List Str}
theorem aW0 (hI : dR 540000000000) (hn : n ≤ 99) (hU : U.length ≤ 480000) (m : Mod) (i : Int) (s : Str) (t : Ty) (body b : Core) (i' : Int) (s' : Str) (t' : Ty) (h : ST n U (.mk 4 i s t [.mk 5 i' s' t' [body] [] [], b] [] [])) :
  aU Tryz.prog 99 [.pa (jK m), .pa (aC (.mk 4 i s t [.mk 5 i' s' t' [body] [] [], b] [] []))] [] (fH (fC (m30 body) body s' b, 0)) [] := by
 have ka := h.kid (by decide) (x := .mk 5 i' s' t' [body] [] []) mem_cons_self;have kb := h.kid (by decide) (x := b) (mem_cons_of_mem _ mem_cons_self);have kbody := ka.kid (by decide) (x := body) mem_cons_self;have hS := (aRb hI hn hU kbody kb (nm := s') (s := m30 body + m30 b) (le_refl _)).1.imp;refine bT (n := 54) tok Tryz.func99 rfl rfl rfl ?_;refine a8 (ag [] rfl ?_);refine a8 (ag [(2, .row 0 (aC (.mk 5 i' s' t' [body] [] [])))] rfl ?_);refine a8 (aB ?_);refine a8 (agF 4 [] rfl rfl rfl ?_);refine aA rfl (fun _ => ?_) (fun hb => absurd hb (by simp [Core.form]));refine a8 (aE mixed ?_);refine ak 10 [(2, .row 0 (aC body)), (8, .row 1 (aC b))] rfl ?_;refine kc hS ?_;refine ak 2 [] rfl ?_;refine az ?_;exact aI (iB trw)
theorem aWz (hI : dR 540000000000) (hn : n ≤ 99) (hU : U.length ≤ 480000) (m : Mod) (i : Int) (s : Str) (t : Ty) (body : Core) (i' : Int) (s' : Str) (t' : Ty) (h : ST n U (.mk 6 i s t [.mk 7 i' s' t' [body] [] []] [] [])) :
  aU Tryz.prog 99 [.pa (jK m), .pa (aC (.mk 6 i s t [.mk 7 i' s' t' [body] [] []] [] []))] [] (fH (sTR (m30 body) body s' t, 0)) [] := by
 have hS := (aMf hI hn hU h (w := 0)).1.imp;refine bT (n := 54) tok Tryz.func99 rfl rfl rfl ?_;refine a8 (ag [] rfl ?_);refine a8 (ag [(2, .row 0 (aC (.mk 7 i' s' t' [body] [] [])))] rfl ?_);refine a8 (aB ?_);refine a8 (agF 4 [] rfl rfl rfl ?_);refine aA rfl (fun hb => absurd hb (by simp [Core.form])) (fun _ => ?_);refine a8 (agF 4 [] rfl rfl rfl ?_);refine aA rfl (fun _ => ?_) (fun hb => absurd hb (by simp [Core.form]));refine a8 (aE mixed ?_);refine ak 8 [(2, .row 0 (aC body))] rfl ?_;refine kc hS ?_;refine ak 2 [] rfl ?_;refine az ?_;exact aI (iB trw)
theorem aWy (m : Mod) (f i : Int) (s : Str) (t : Ty) (a : Core) (ks : List Core) (bs : List Bind) (al : List Alt) (p : CE) (h1 : ¬ (f = 4 ∧ a.form = 5)) (h2 : ¬ (f = 6 ∧ a.form = 7))
  (hk : aU Tryz.prog 161 [.pa (jK m), .pa (aC (.mk f i s t (a :: ks) bs al)), I .i64 (0 : Nat)] [] (fH p) []) :
  aU Tryz.prog 99 [.pa (jK m), .pa (aC (.mk f i s t (a :: ks) bs al))] [] (fH p) [] := by
 refine bT (n := 54) tok Tryz.func99 rfl rfl rfl ?_;refine a8 (ag [] rfl ?_);refine a8 (ag [(2, .row 0 (aC a))] rfl ?_);refine a8 (AWp.cut (mk [(2, .one (.vp 2 0)), (3, .one (.vp 3 0)), (4, .one (.vp 4 0))] [(2, .var 96 ((jK m).map .c)), (3, .var 37 (bB (.mk f i s t (a :: ks) bs al))), (4, .var 37 bS)]) ?_ ?_)
 ·refine aB ?_;refine a8 (agF 4 [] rfl rfl rfl ?_);refine aA rfl (fun hb => (h1 (oW hb)).elim) (fun _ => ?_);refine a8 (agF 4 [] rfl rfl rfl ?_);refine aA rfl (fun hb => (h2 (oW hb)).elim) (fun _ => ?_);exact aD sl
 refine a8 (aE mixed ?_);refine ak 2 [] rfl ?_;refine kc hk ?_;refine ak 4 [] rfl ?_;refine az ?_;exact aI (iB trw)
theorem aYs (hI : dR 540000000000) (hn : n ≤ 99) (hU : U.length ≤ 480000) (m : Mod) (i : Int) (s : Str) (t : Ty) (a : Core) (bs : List Bind) (h : ST n U (.mk 8 i s t [a] bs [])) :
  aU Tryz.prog 100 [.pa (jK m), .pa (aC (.mk 8 i s t [a] bs []))] [] (fH (aBh a (bs.map Bind.name) (bs.map (lX bs)), 0)) [] := by
 have h12 := (aFr h.q).2.2
 have hput := (aOp hI (by decide) (by decide) a (bs.map Bind.name) (bs.map (lX bs)) (by rw [length_map, length_map]) (by rw [length_map]; omega) (aRa hn hU h).1).1
 have hkB : (aR bs).length = bs.length := by rw [bO, length_map]
 refine bT (n := 39) tok Tryz.func100 rfl rfl rfl ?_;refine a8 (ag [] rfl ?_);refine a8 (ag [] rfl ?_);refine a8 (ag [] rfl ?_);refine AWp.sub (Sub.own (t := 6) (id := 720) 9 1 rfl rfl) ?_;refine AWp.sub (Sub.own (t := 7) (id := 721) 37 10 rfl rfl) ?_;refine a8 (a8 (ag [] rfl ?_));refine aB ?_;refine aL (fun k : Nat => mk [(3, .one (.vp 3 0)), (4, .one (.vp 4 0)), (6, .one (.hs 720 0 ((bs.take k).map Bind.name).length ((bs.take k).map Bind.name).length)), (7, .one (.hs 721 0 ((bs.take k).map (lX bs)).length ((bs.take k).map (lX bs)).length)), (11, .one (.c (.sl 15 (aR bs)))), (12, I .i64 ((aR bs).length : Int)), (13, I .i64 k)] [(3, .var 37 (bB (.mk 8 i s t [a] bs []))), (4, .var 37 bS), (720, .arr 9 1 (((bs.take k).map Bind.name).map bN) 0), (721, .arr 37 10 (((bs.take k).map (lX bs)).map aC) 0)]) (fun k => k ≤ bs.length) (fun k => bs.length - k) 0 (zero_le _) sl ?_;intro k hk;refine a8 (ag [] rfl ?_);refine a8 (aA rfl (fun hb => ?_) (fun hb => ?_))
 ·have hlt := ltD hb hkB;obtain ⟨b, hbi⟩ := aK hlt;have hbi' := dC hbi;have e1 : (bs.take (k + 1)).map Bind.name = (bs.take k).map Bind.name ++ [b.name] := by rw [take_add_one, hbi, map_append]; rfl
  have e2 : (bs.take (k + 1)).map (lX bs) = (bs.take k).map (lX bs) ++ [lX bs b] := by rw [take_add_one, hbi, map_append]; rfl
  have hl1 : ((bs.take k).map Bind.name).length ≤ 12 := by rw [length_map, length_take]; omega
  have hl2 : ((bs.take k).map (lX bs)).length ≤ 12 := by rw [length_map, length_take]; omega
  have hx1 : (((bs.take k).map Bind.name).map bN).length = ((bs.take k).map Bind.name).length := length_map _;have hx2 : (((bs.take k).map (lX bs)).map aC).length = ((bs.take k).map (lX bs)).length := length_map _;generalize (bs.take k).map Bind.name = N at *;generalize (bs.take k).map (lX bs) = L at *;refine aD ?_;refine a8 (aB ?_);refine a8 (ag [(0, .row k (bA b))] rfl ?_);refine a8 (ag [(3, .all)] rfl ?_);refine ag [(5, .all), (7, .all)] rfl ?_;refine AWp.sub (Sub.arrWeak (x := 721) rfl (RowsLe.snoc (r' := aC (lX bs b)) ?_ (L.map aC))) ?_
  ·repeat (first | exact .nil | apply Go.AM.CsLe.cons .refl | apply Go.AM.CsLe.cons .nl)
  refine ag [] rfl ?_;refine ⟨k + 1, hlt, by dsimp only; omega, ?_⟩;dsimp only;rw [e1, e2];exact sl
 have hge := geD hb hkB hk;subst hge;rw [take_length];refine aM ?_;refine AWp.sub (Sub.freeze (id := 720) rfl) ?_;refine AWp.sub (Sub.freeze (id := 721) rfl) ?_;refine a8 (aE mixed ?_);refine ak 6 [(2, .row 0 (aC a))] rfl ?_;refine kc hput ?_;refine ak 2 [] rfl ?_;refine az ?_;exact aI (iB trw)
end
noncomputable def tkP (a : Alt) (c : Core) : Core × Bool :=
 if a.form = 3 then (a.body, true)
 else if a.form = 2 then (a.body, decide (c.form = 3) && decide (c.n = a.n))
 else match gvC c with
  | some (s, l) => if s = a.name ∧ l.length = a.vars.length then (aBh a.body a.vars l, true) else (zC, false)
  | none => (zC, false)
theorem aH6 (a : Alt) (c : Core) : mF a c = if (tkP a c).2 = true then some (tkP a c).1 else none := by
 unfold mF tkP;by_cases h3 : a.form = 3
 ·rw [if_pos h3, if_pos h3]; rfl
 rw [if_neg h3, if_neg h3];by_cases h2 : a.form = 2
 ·rw [if_pos h2, if_pos h2];by_cases h : c.form = 3 ∧ c.n = a.n
  ·rw [if_pos h, if_pos (by simp [h.1, h.2])]
  ·rw [if_neg h, if_neg (by simpa using h)]
 rw [if_neg h2, if_neg h2];cases gvC c with
 | none => rfl
 | some p =>
  obtain ⟨s, l⟩ := p;dsimp only;by_cases h : s = a.name ∧ l.length = a.vars.length
  ·simp [if_pos h]
  ·simp [if_neg h]
theorem aUe {f i : Int} {s : Str} {vs : List Str} {body : Core} {cf cn : Int} {cs : Str} {ct : Ty} {ks : List Core} {bs : List Bind} {al : List Alt} : tkP (.mk f i s vs body) (.mk cf cn cs ct ks bs al) =
  if f = 3 then (body, true)
  else if f = 2 then (body, decide (cf = 3) && decide (cn = i))
  else match gvC (.mk cf cn cs ct ks bs al) with
   | some (s1, l) => if s1 = s ∧ l.length = vs.length then (aBh body vs l, true) else (zC, false)
   | none => (zC, false) := rfl
theorem aSz (a : Alt) (c : Core) (hl : b6 c ≤ 570000000000) (hg : aU Tryz.prog 97 [.pa (aC c)] [] (wC (gvC c)) [])
  (hp : ∀ s l, gvC c = some (s, l) → l.length = a.vars.length → aU Tryz.prog 162 [.pa (aC a.body), bU a.vars, .one (.c (.sl 10 (l.map aC)))] [] (.pa (aC (aBh a.body a.vars l))) []) :
  aU Tryz.prog 163 [.pa (dQ a), .pa (aC c)] [] (.tup [.pa (aC (tkP a c).1), B (tkP a c).2]) [] := by
 obtain ⟨f, i, s, vs, body⟩ := a;obtain ⟨cf, cn, cs, ct, ks, bs, al⟩ := c;rw [aUe];refine bT (n := 58) tok Tryz.func163 rfl rfl rfl ?_;refine a8 (ag [] rfl ?_);refine a8 (a8 (ag [] rfl ?_));by_cases h3 : f = 3
 ·subst h3;rw [if_pos rfl];refine aB (a8 (ag [] rfl ?_));refine aA rfl (fun _ => ?_) (fun hb => by simp [Alt.form] at hb);refine a8 (ag [] rfl ?_);exact aI (iB trw)
 rw [if_neg h3];by_cases h2 : f = 2
 ·subst h2;rw [if_pos rfl];refine aB (a8 (ag [] rfl ?_));refine aA rfl (fun hb => by simp [Alt.form] at hb) (fun _ => ?_);refine a8 (ag [] rfl ?_);refine aA rfl (fun _ => ?_) (fun hb => by simp [Alt.form] at hb);by_cases hc : cf = 3
  ·have hd : decide (cf = 3) = true := decide_eq_true hc;have e : (decide (cf = 3) && decide (cn = i)) = decide (cn = i) := by rw [hd]; rfl
   rw [e];refine a8 (ag [(5, .bv true), (11, .bv true)] rfl ?_);exact aI (iB trw)
  ·have hd : decide (cf = 3) = false := decide_eq_false hc;have e : (decide (cf = 3) && decide (cn = i)) = false := by rw [hd]; rfl
   rw [e];refine a8 (ag [(5, .bv false), (11, .bv false)] rfl ?_);exact aI (iB trw)
 rw [if_neg h2];refine AWp.cut (mk [(2, .one (.vp 2 0)), (3, .one (.vp 3 0)), (4, .one (.vp 4 0))] [(2, .var 78 ((dQ (.mk f i s vs body)).map .c)), (3, .var 37 (bB (.mk cf cn cs ct ks bs al))), (4, .var 37 bS)]) ?_ ?_
 ·refine aB (a8 (ag [] rfl ?_));refine aA rfl (fun hb => absurd (of_decide_eq_true hb) h3) (fun _ => ?_);refine a8 (ag [] rfl ?_);refine aA rfl (fun hb => absurd (of_decide_eq_true hb) h2) (fun _ => ?_);exact aD sl
 cases hgv : gvC (.mk cf cn cs ct ks bs al) with
 | none =>
  rw [hgv] at hg;refine a8 (ag [(1, .pc (wC none))] rfl ?_);refine a8 (a8 (agF 3 [] rfl rfl rfl ?_));refine aA rfl (fun _ => ?_) (fun hb => by simp [Alt.form] at hb);refine a8 (ag [] rfl ?_);exact aI (iB trw)
 | some p =>
  obtain ⟨s1, l1⟩ := p;rw [hgv] at hg;have hlk : (l1.map aC).length = l1.length := length_map _;have hlv : (vs.map bN).length = vs.length := length_map _;dsimp only;refine a8 (ag [(1, .pc (wC (some (s1, l1))))] rfl ?_);refine a8 (a8 (agF 3 [] rfl rfl rfl ?_));refine aA rfl (fun hb => ?_) (fun hb => ?_)
  ·have hn : ¬ (s1 = s ∧ l1.length = vs.length) := by
    rintro ⟨rfl, h⟩;simp [h, Alt.name, Alt.vars] at hb
   rw [if_neg hn];refine a8 (ag [] rfl ?_);exact aI (iB trw)
  ·have hy : s1 = s ∧ l1.length = vs.length := by
    simp at hb;have h2 : (l1.length : Int) = (vs.length : Int) := hb.2;exact ⟨hb.1, by omega⟩
   rw [if_pos hy];have hpt := hp s1 l1 hgv hy.2;refine aD ?_;refine a8 (aE mixed ?_);refine ak 5 [] rfl ?_;refine kc hpt ?_;refine ak 2 [] rfl ?_;refine az ?_;exact aI (iB trw)
theorem aS7 (m : Mod) (i : Int) (s : Str) (t : Ty) (a : Core) (al : List Alt) (p : CE) (hl : al.length ≤ 12) (hsh : aU Tryz.prog 41 [.pa (aC a)] [] (B (shC a)) [])
  (hk : shC a = false → aU Tryz.prog 161 [.pa (jK m), .pa (aC (.mk 9 i s t [a] [] al)), I .i64 (0 : Nat)] [] (fH p) [])
  (htk : ∀ x ∈ al, aU Tryz.prog 163 [.pa (dQ x), .pa (aC a)] [] (.tup [.pa (aC (tkP x a).1), B (tkP x a).2]) []) :
  aU Tryz.prog 101 [.pa (jK m), .pa (aC (.mk 9 i s t [a] [] al))] [] (fH (if shC a = true then (match al.findSome? fun x => mF x a with | some r => (r, 0) | none => (zC, 52)) else p)) [] := by
 have hkA : (c9 al).length = al.length := by rw [bH, length_map]
 refine bT (n := 41) tok Tryz.func101 rfl rfl rfl ?_;refine a8 (ag [] rfl ?_);refine a8 (a8 (aE mixed ?_));refine ak 4 [(2, .row 0 (aC a))] rfl ?_;refine kc hsh ?_;refine ak 1 [] rfl ?_;refine az ?_;cases hs : shC a with
 | false =>
  have hk := hk hs;rw [if_neg Bool.false_ne_true];refine aA rfl (fun _ => ?_) (fun hb => by cases hb);refine a8 (aE mixed ?_);refine ak 2 [] rfl ?_;refine kc hk ?_;refine ak 4 [] rfl ?_;refine az ?_;exact aI (iB trw)
 | true =>
  rw [if_pos rfl];refine aA rfl (fun hb => by cases hb) (fun _ => ?_);refine aD ?_;refine a8 (a8 (ag [] rfl ?_));refine aB ?_;refine aL (fun k : Nat => mk [(3, .one (.vp 3 0)), (4, .one (.vp 4 0)), (22, .one (.c (.sl 14 (c9 al)))), (23, I .i64 ((c9 al).length : Int)), (24, I .i64 k)] [(3, .var 37 (bB (.mk 9 i s t [a] [] al))), (4, .var 37 bS)]) (fun k => k ≤ al.length ∧ (al.findSome? fun x => mF x a) = (al.drop k).findSome? fun x => mF x a) (fun k => al.length - k) 0 ⟨zero_le _, rfl⟩ sl ?_;intro k ⟨hi, hid⟩;refine a8 (ag [] rfl ?_);refine a8 (aA rfl (fun hb => ?_) (fun hb => ?_))
  ·have hlt := ltD hb hkA;obtain ⟨x, hx⟩ := aK hlt;have hx' : (c9 al)[k]? = some (dQ x) := by rw [bH]; exact bQ dQ hx
   have ht := htk x (List.mem_of_getElem? hx);have hdr : al.drop k = x :: al.drop (k + 1) := by rw [drop_eq_getElem_cons hlt, (List.getElem?_eq_some_iff.1 hx).2]
   rw [hdr, List.findSome?_cons, aH6] at hid;generalize tkP x a = q at *;obtain ⟨qc, qb⟩ := q;refine aD ?_;refine a8 (aB ?_);refine a8 (ag [(0, .row k (dQ x))] rfl ?_);refine a8 (aE mixed ?_);refine ak 5 [(3, .row 0 (aC a))] rfl ?_;refine kc ht ?_;refine ak 6 [] rfl ?_;refine az ?_;refine a8 (ag [] rfl ?_);cases qb with
   | true =>
    rw [if_pos rfl] at hid;dsimp only at hid;rw [hid];refine aA rfl (fun _ => ?_) (fun hb => by cases hb);refine a8 (ag [] rfl ?_);exact aI (iB trw)
   | false =>
    rw [if_neg Bool.false_ne_true] at hid;dsimp only at hid;refine aA rfl (fun hb => by cases hb) (fun _ => ?_);refine aD ?_;refine ag [] rfl ?_;exact ⟨k + 1, ⟨hlt, hid⟩, by dsimp only; omega, sl⟩
  have hge := geD hb hkA hi;subst hge;rw [drop_length, List.findSome?_nil] at hid;rw [hid];refine aM ?_;refine a8 (ag [] rfl ?_);exact aI (iB trw)
theorem aR1 (s : Str) (a b : Int) : (j4 s tE = none ∧ r5 s a b = (zC, 51)) ∨
  ∃ (fn : FuncId) (r : Core), pE Tryz.prog fn ∧ j4 s tE = some [.fn fn] ∧ (s = aPy → b = 0 → r5 s a b = (zC, 53)) ∧ (¬ (s = aPy ∧ b = 0) → r5 s a b = (r, 0) ∧ aU Tryz.prog fn [I .i64 a, I .i64 b] [] (.pa (aC r)) []) := by
 by_cases h1 : s = aD6
 ·subst h1; exact .inr ⟨_, _, aMs (by kernel_rfl), rfl, fun h => absurd h (by decide), fun _ => ⟨rfl, aWt a b⟩⟩
 by_cases h2 : s = aXg
 ·subst h2; exact .inr ⟨_, _, aMs (by kernel_rfl), rfl, fun h => absurd h (by decide), fun _ => ⟨rfl, aWp a b⟩⟩
 by_cases h3 : s = aVj
 ·subst h3; exact .inr ⟨_, _, aMs (by kernel_rfl), rfl, fun h => absurd h (by decide), fun _ => ⟨rfl, aWr a b⟩⟩
 by_cases h4 : s = aPy
 ·subst h4;refine .inr ⟨185, jJ (IntKind.i64.wrap (a.tdiv b)), aMs (by kernel_rfl), rfl, fun _ h => ?_, fun h => ?_⟩
  ·subst h; rfl
  ·have hb : ¬ b = 0 := fun e => h ⟨rfl, e⟩
   refine ⟨?_, aWs a b hb⟩;unfold r5;rw [if_neg (by decide), if_neg (by decide), if_neg (by decide), if_pos rfl, if_neg hb]
 by_cases h5 : s = nEq
 ·subst h5; exact .inr ⟨_, _, aMs (by kernel_rfl), rfl, fun h => absurd h (by decide), fun _ => ⟨rfl, aYq a b⟩⟩
 by_cases h6 : s = nLt
 ·subst h6; exact .inr ⟨_, _, aMs (by kernel_rfl), rfl, fun h => absurd h (by decide), fun _ => ⟨rfl, aYp a b⟩⟩
 refine .inl ⟨?_, ?_⟩
 ·unfold tE;simp only [j4];rw [if_neg (fun e => h1 e.symm), if_neg (fun e => h2 e.symm), if_neg (fun e => h3 e.symm), if_neg (fun e => h4 e.symm), if_neg (fun e => h5 e.symm), if_neg (fun e => h6 e.symm)]
 ·unfold r5;rw [if_neg h1, if_neg h2, if_neg h3, if_neg h4, if_neg h5, if_neg h6]
theorem aSu (m : Mod) (i : Int) (s : Str) (t : Ty) (a b : Core) (pa pb : CE) (hsa : aU Tryz.prog 41 [.pa (aC a)] [] (B (shC a)) []) (hsb : aU Tryz.prog 41 [.pa (aC b)] [] (B (shC b)) [])
  (hka : shC a = false → aU Tryz.prog 161 [.pa (jK m), .pa (aC (.mk 10 i s t [a, b] [] [])), I .i64 (0 : Nat)] [] (fH pa) [])
  (hkb : shC b = false → aU Tryz.prog 161 [.pa (jK m), .pa (aC (.mk 10 i s t [a, b] [] [])), I .i64 (1 : Nat)] [] (fH pb) []) :
  aU Tryz.prog 102 [.pa (jK m), .pa (aC (.mk 10 i s t [a, b] [] []))] [] (fH (if ¬ shC a = true then pa else if ¬ shC b = true then pb else if a.form = 3 ∧ b.form = 3 then r5 s a.n b.n else (zC, 51))) [] := by
 refine bT (n := 76) tok Tryz.func102 rfl rfl rfl ?_;refine a8 (ag [] rfl ?_);refine a8 (a8 (ag [] rfl ?_));refine aB ?_;refine aL (fun k : Nat => mk [(2, .one (.vp 2 0)), (3, .one (.vp 3 0)), (4, .one (.vp 4 0)), (11, .one (.c (.sl 10 (aQ [a, b])))), (12, I .i64 (2 : Nat)), (13, I .i64 k)] [(2, .var 96 ((jK m).map .c)), (3, .var 37 (bB (.mk 10 i s t [a, b] [] []))), (4, .var 37 bS)]) (fun k => k ≤ 2 ∧ (0 < k → shC a = true) ∧ (1 < k → shC b = true)) (fun k => 2 - k) 0 ⟨by omega, fun h => absurd h (by omega), fun h => absurd h (by omega)⟩ sl ?_;rintro k ⟨hk, g1, g2⟩;refine a8 (ag [] rfl ?_);refine a8 (aA rfl (fun hb => ?_) (fun hb => ?_))
 ·have hlt : k < 2 := by have := of_decide_eq_true hb; omega
  refine aD ?_;refine a8 (aB ?_);by_cases h0 : k = 0
  ·subst h0;refine a8 (ag [(1, .row 0 (aC a))] rfl ?_);refine a8 (aE mixed ?_);refine ak 1 [] rfl ?_;refine kc hsa ?_;refine ak 1 [] rfl ?_;refine az ?_;cases hs : shC a with
   | false =>
    have hka := hka hs;rw [if_pos Bool.false_ne_true];refine aA rfl (fun _ => ?_) (fun hb => absurd hb (by decide));refine a8 (aE mixed ?_);refine ak 3 [] rfl ?_;refine kc hka ?_;refine ak 4 [] rfl ?_;refine az ?_;exact aI (iB trw)
   | true =>
    refine aA rfl (fun hb => absurd hb (by decide)) (fun _ => ?_);refine aD ?_;refine ag [] rfl ?_;exact ⟨1, ⟨by omega, fun _ => rfl, fun h => absurd h (by omega)⟩, by dsimp only; omega, sl⟩
  ·have h1 : k = 1 := by omega
   subst h1;have hsa1 := g1 (by omega);refine a8 (ag [(1, .row 1 (aC b))] rfl ?_);refine a8 (aE mixed ?_);refine ak 1 [] rfl ?_;refine kc hsb ?_;refine ak 1 [] rfl ?_;refine az ?_;cases hs : shC b with
   | false =>
    have hkb := hkb hs;rw [if_neg (fun h => h hsa1), if_pos Bool.false_ne_true];refine aA rfl (fun _ => ?_) (fun hb => absurd hb (by decide));refine a8 (aE mixed ?_);refine ak 3 [] rfl ?_;refine kc hkb ?_;refine ak 4 [] rfl ?_;refine az ?_;exact aI (iB trw)
   | true =>
    refine aA rfl (fun hb => absurd hb (by decide)) (fun _ => ?_);refine aD ?_;refine ag [] rfl ?_;exact ⟨2, ⟨by omega, fun _ => hsa1, fun _ => rfl⟩, by dsimp only; omega, sl⟩
 have hk2 : k = 2 := by have := of_decide_eq_false hb; omega
 subst hk2;have hsa1 := g1 (by omega);have hsb1 := g2 (by omega);rw [if_neg (fun h => h hsa1), if_neg (fun h => h hsb1)];refine aM ?_;refine a8 (aE mixed ?_);refine kc aS3 ?_;have hmp : mI tE := yA;rcases aR1 s a.n b.n with ⟨hfd, hr⟩ | ⟨fn, r, hbd, hfd, hdz, hok⟩
 ·-- no such name
  refine ak 8 [(3, .look none)] rfl ?_;refine az ?_;rw [hr, ite_self];refine a8 (aB (a8 (a8 (ag [] rfl ?_))));refine aA rfl (fun _ => ?_) (fun hb => absurd hb (by decide));refine aD ?_;refine aA rfl (fun _ => ?_) (fun hb => absurd hb (by decide));refine a8 (ag [] rfl ?_);exact aI (iB trw)
 ·refine ak 8 [(3, .look (some [.fn fn]))] rfl ?_;refine az ?_;refine a8 (aB (a8 (a8 (ag [] rfl ?_))));refine aA rfl (fun hb => by simp [aJ1] at hb) (fun _ => ?_);refine a8 (ag [(2, .row 0 (aC a))] rfl ?_);by_cases ha : a.form = 3
  ·refine aA rfl (fun hb => absurd hb (by simp [ha])) (fun _ => ?_);refine ag [(2, .row 1 (aC b))] rfl ?_;by_cases hb3 : b.form = 3
   ·rw [if_pos ⟨ha, hb3⟩];refine aA rfl (fun hb => absurd hb (by simp [hb3])) (fun _ => ?_);by_cases hd : s = aPy
    ·subst hd;refine a8 (ag [(3, .bv true), (6, .row 1 (aC b)), (10, .bv true)] rfl ?_);by_cases hz : b.n = 0
     ·rw [hdz rfl hz];refine aA rfl (fun _ => ?_) (fun hb => absurd hz (of_decide_eq_false hb));refine a8 (ag [] rfl ?_);exact aI (iB trw)
     ·obtain ⟨e, hc⟩ := hok fun h => hz h.2
      rw [e];refine aA rfl (fun hb => absurd (of_decide_eq_true hb) hz) (fun _ => ?_);refine aD ?_;refine AWp.sub (Sub.fnClo 8 rfl) ?_;refine a8 (aE mixed ?_);refine ak 11 [(3, .row 0 (aC a)), (8, .row 1 (aC b))] rfl ?_;refine kv (args := [I .i64 a.n, I .i64 b.n]) (caps := []) hc ?_ hbd;refine ak 2 [] rfl ?_;refine az ?_;exact aI (iB trw)
    ·obtain ⟨e, hc⟩ := hok fun h => hd h.1
     rw [e];have hd' : decide (s = aPy) = false := decide_eq_false hd;refine a8 (ag [(3, .bv false), (10, .bv false)] rfl ?_);refine aA rfl (fun hb => by cases hb) (fun _ => ?_);refine aD ?_;refine AWp.sub (Sub.fnClo 8 rfl) ?_;refine a8 (aE mixed ?_);refine ak 11 [(3, .row 0 (aC a)), (8, .row 1 (aC b))] rfl ?_;refine kv (args := [I .i64 a.n, I .i64 b.n]) (caps := []) hc ?_ hbd;refine ak 2 [] rfl ?_;refine az ?_;exact aI (iB trw)
   ·rw [if_neg fun h => hb3 h.2];refine aA rfl (fun _ => ?_) (fun hb => absurd hb (by simp [hb3]));refine a8 (ag [] rfl ?_);exact aI (iB trw)
  ·rw [if_neg fun h => ha h.1];refine aA rfl (fun _ => ?_) (fun hb => absurd hb (by simp [ha]));refine aD ?_;refine aA rfl (fun _ => ?_) (fun hb => absurd hb (by simp [ha]));refine a8 (ag [] rfl ?_);exact aI (iB trw)
section
variable {m : Mod} {f i : Int} {s : Str} {t : Ty} {ks : List Core} {bs : List Bind} {al : List Alt} {p : CE}
theorem aYn (h : aU Tryz.prog 98 [.pa (jK m), .pa (aC (.mk 1 i s t ks bs al))] [] (fH p) []) : aU Tryz.prog 42 [.pa (jK m), .pa (aC (.mk 1 i s t ks bs al))] [] (fH p) [] := by
 refine bT (n := 48) tok Tryz.func42 rfl rfl rfl ?_;refine a8 (ag [] rfl ?_);refine a8 (a8 (ag [] rfl ?_));refine aB (a8 (ag [] rfl ?_));refine aA rfl (fun _ => ?_) (fun hb => by simp [Core.form] at hb);refine a8 (aE mixed ?_);refine ak 2 [] rfl ?_;refine kc h ?_;refine ak 4 [] rfl ?_;refine az ?_;exact aI (iB trw)
theorem aS0 (hf : f = 4 ∨ f = 6) (h : aU Tryz.prog 99 [.pa (jK m), .pa (aC (.mk f i s t ks bs al))] [] (fH p) []) : aU Tryz.prog 42 [.pa (jK m), .pa (aC (.mk f i s t ks bs al))] [] (fH p) [] := by
 refine bT (n := 48) tok Tryz.func42 rfl rfl rfl ?_;refine a8 (ag [] rfl ?_);refine a8 (a8 (ag [] rfl ?_));refine aB (a8 (ag [] rfl ?_));refine aA rfl (fun hb => by have h0 : f = 1 := of_decide_eq_true hb; omega) (fun _ => ?_);refine a8 (a8 (ag [] rfl ?_));rcases hf with rfl | rfl
 ·refine aA rfl (fun _ => ?_) (fun hb => by simp [Core.form] at hb);refine aD ?_;refine aA rfl (fun _ => ?_) (fun hb => by simp [Core.form] at hb);refine a8 (aE mixed ?_);refine ak 2 [] rfl ?_;refine kc h ?_;refine ak 4 [] rfl ?_;refine az ?_;exact aI (iB trw)
 ·refine aA rfl (fun hb => by simp [Core.form] at hb) (fun _ => ?_);refine ag [] rfl ?_;refine aA rfl (fun _ => ?_) (fun hb => by simp [Core.form] at hb);refine a8 (aE mixed ?_);refine ak 2 [] rfl ?_;refine kc h ?_;refine ak 4 [] rfl ?_;refine az ?_;exact aI (iB trw)
theorem aYm (h : aU Tryz.prog 100 [.pa (jK m), .pa (aC (.mk 8 i s t ks bs al))] [] (fH p) []) : aU Tryz.prog 42 [.pa (jK m), .pa (aC (.mk 8 i s t ks bs al))] [] (fH p) [] := by
 refine bT (n := 48) tok Tryz.func42 rfl rfl rfl ?_;refine a8 (ag [] rfl ?_);refine a8 (a8 (ag [] rfl ?_));refine aB (a8 (ag [] rfl ?_));refine aA rfl (fun hb => by simp [Core.form] at hb) (fun _ => ?_);refine a8 (a8 (ag [] rfl ?_));refine aA rfl (fun hb => by simp [Core.form] at hb) (fun _ => ?_);refine ag [] rfl ?_;refine aA rfl (fun hb => by simp [Core.form] at hb) (fun _ => ?_);refine a8 (ag [] rfl ?_);refine aA rfl (fun _ => ?_) (fun hb => by simp [Core.form] at hb);refine a8 (aE mixed ?_);refine ak 2 [] rfl ?_;refine kc h ?_;refine ak 4 [] rfl ?_;refine az ?_;exact aI (iB trw)
theorem aYl (h : aU Tryz.prog 101 [.pa (jK m), .pa (aC (.mk 9 i s t ks bs al))] [] (fH p) []) : aU Tryz.prog 42 [.pa (jK m), .pa (aC (.mk 9 i s t ks bs al))] [] (fH p) [] := by
 refine bT (n := 48) tok Tryz.func42 rfl rfl rfl ?_;refine a8 (ag [] rfl ?_);refine a8 (a8 (ag [] rfl ?_));refine aB (a8 (ag [] rfl ?_));refine aA rfl (fun hb => by simp [Core.form] at hb) (fun _ => ?_);refine a8 (a8 (ag [] rfl ?_));refine aA rfl (fun hb => by simp [Core.form] at hb) (fun _ => ?_);refine ag [] rfl ?_;refine aA rfl (fun hb => by simp [Core.form] at hb) (fun _ => ?_);refine a8 (ag [] rfl ?_);refine aA rfl (fun hb => by simp [Core.form] at hb) (fun _ => ?_);refine a8 (ag [] rfl ?_);refine aA rfl (fun _ => ?_) (fun hb => by simp [Core.form] at hb);refine a8 (aE mixed ?_);refine ak 2 [] rfl ?_;refine kc h ?_;refine ak 4 [] rfl ?_;refine az ?_;exact aI (iB trw)
theorem aWl (h : aU Tryz.prog 102 [.pa (jK m), .pa (aC (.mk 10 i s t ks bs al))] [] (fH p) []) : aU Tryz.prog 42 [.pa (jK m), .pa (aC (.mk 10 i s t ks bs al))] [] (fH p) [] := by
 refine bT (n := 48) tok Tryz.func42 rfl rfl rfl ?_;refine a8 (ag [] rfl ?_);refine a8 (a8 (ag [] rfl ?_));refine aB (a8 (ag [] rfl ?_));refine aA rfl (fun hb => by simp [Core.form] at hb) (fun _ => ?_);refine a8 (a8 (ag [] rfl ?_));refine aA rfl (fun hb => by simp [Core.form] at hb) (fun _ => ?_);refine ag [] rfl ?_;refine aA rfl (fun hb => by simp [Core.form] at hb) (fun _ => ?_);refine a8 (ag [] rfl ?_);refine aA rfl (fun hb => by simp [Core.form] at hb) (fun _ => ?_);refine a8 (ag [] rfl ?_);refine aA rfl (fun hb => by simp [Core.form] at hb) (fun _ => ?_);refine a8 (ag [] rfl ?_);refine aA rfl (fun _ => ?_) (fun hb => by simp [Core.form] at hb);refine a8 (aE mixed ?_);refine ak 2 [] rfl ?_;refine kc h ?_;refine ak 4 [] rfl ?_;refine az ?_;exact aI (iB trw)
theorem aYo (h1 : ¬ f = 1) (h4 : ¬ f = 4) (h6 : ¬ f = 6) (h8 : ¬ f = 8) (h9 : ¬ f = 9) (h10 : ¬ f = 10) : aU Tryz.prog 42 [.pa (jK m), .pa (aC (.mk f i s t ks bs al))] [] (fH (if f = 11 then (zC, 52) else (zC, 51))) [] := by
 refine bT (n := 48) tok Tryz.func42 rfl rfl rfl ?_;refine a8 (ag [] rfl ?_);refine a8 (a8 (ag [] rfl ?_));refine aB (a8 (ag [] rfl ?_));refine aA rfl (fun hb => absurd (of_decide_eq_true hb) h1) (fun _ => ?_);refine a8 (a8 (ag [] rfl ?_));refine aA rfl (fun hb => absurd (of_decide_eq_true hb) h4) (fun _ => ?_);refine ag [] rfl ?_;refine aA rfl (fun hb => absurd (of_decide_eq_true hb) h6) (fun _ => ?_);refine a8 (ag [] rfl ?_);refine aA rfl (fun hb => absurd (of_decide_eq_true hb) h8) (fun _ => ?_);refine a8 (ag [] rfl ?_);refine aA rfl (fun hb => absurd (of_decide_eq_true hb) h9) (fun _ => ?_);refine a8 (ag [] rfl ?_);refine aA rfl (fun hb => absurd (of_decide_eq_true hb) h10) (fun _ => ?_);refine a8 (ag [] rfl ?_);by_cases h11 : f = 11
 ·subst h11;rw [if_pos rfl];refine aA rfl (fun _ => ?_) (fun hb => by simp [Core.form] at hb);refine a8 (ag [] rfl ?_);exact aI (iB trw)
 ·rw [if_neg h11];refine aA rfl (fun hb => absurd (of_decide_eq_true hb) h11) (fun _ => ?_);refine aD ?_;refine a8 (ag [] rfl ?_);exact aI (iB trw)
end
theorem aQr (hI : dR 540000000000) {n : Nat} {U : List Str} (hn : n ≤ 99) (hU : U.length ≤ 480000) {m : Mod} (hB : BI U m.binds) : ∀ (k : Nat) (c : Core), m30 c ≤ k → ST n U c →
  aU Tryz.prog 42 [.pa (jK m), .pa (aC c)] [] (fH (cV m.binds k c)) [] := by
 intro k
 induction k with
 | zero => intro c h; have := fE c; omega
 | succ k ih =>
 intro c h hc;obtain ⟨f, i, s, t, ks, bs, al⟩ := c;have hsz := hc.sz;have hm : ∀ x ∈ ks, m30 x < m30 (.mk f i s t ks bs al) := fun x hx => by have := hJ hx; rw [m30]; omega
 have hcs : ∀ x ∈ ks, b6 x ≤ 570000000000 := fun x hx => by have := dA x; have := hm x hx; omega
 have hsh : ∀ x ∈ ks, ¬ f = 7 → aU Tryz.prog 41 [.pa (aC x)] [] (B (shC x)) [] := fun x hx h7 => wU 403 x (hc.kid h7 hx).q (hcs x hx)
 have hkid : ∀ (j : Nat) (x : Core), ks[j]? = some x → ¬ f = 7 → ks.length ≤ 2 → aU Tryz.prog 161 [.pa (jK m), .pa (aC (.mk f i s t ks bs al)), I .i64 (j : Nat)] [] (fH (aAi (cV m.binds k) (.mk f i s t ks bs al) j)) [] := fun j x hx h7 hl => by
  have hxm := List.mem_of_getElem? hx;exact aYt m 403 (.mk f i s t ks bs al) x j (cV m.binds k) hx (by show ks.length ≤ _; omega) (hc.kid h7 hxm).q (hcs x hxm) fun _ => ih x (by have := hm x hxm; omega) (hc.kid h7 hxm)
 rw [vE];by_cases h1 : f = 1
 ·subst h1;rw [if_pos rfl];exact aYn (aSv m (by have := hB.len; omega) 1 i s t ks bs al)
 rw [if_neg h1];by_cases h46 : f = 4 ∨ f = 6
 ·rw [if_pos h46];by_cases ha : f = 4 ∧ (ks.headD zC).form = 5
  ·rw [if_pos ha];obtain ⟨rfl, ha⟩ := ha;obtain ⟨⟨a, b, rfl⟩, rfl, rfl⟩ := s8 hc.q (.inl rfl);have ka := hc.kid (by decide) (x := a) mem_cons_self;obtain ⟨f', i', s', t', ks', bs', al'⟩ := a;have ha : f' = 5 := ha;subst ha;obtain ⟨⟨body, rfl⟩, rfl, rfl⟩ := fK ka.q (.inl rfl);exact aS0 (.inl rfl) (aW0 hI hn hU m i s t body b i' s' t' hc)
  rw [if_neg ha];by_cases hb : f = 6 ∧ (ks.headD zC).form = 7
  ·rw [if_pos hb];obtain ⟨rfl, hb⟩ := hb;obtain ⟨⟨a, rfl⟩, rfl, rfl⟩ := fK hc.q (.inr (.inl rfl));have ka := hc.kid (by decide) (x := a) mem_cons_self;obtain ⟨f', i', s', t', ks', bs', al'⟩ := a;have hb : f' = 7 := hb;subst hb;obtain ⟨⟨body, rfl⟩, rfl, rfl⟩ := fK ka.q (.inr (.inr rfl));exact aS0 (.inr rfl) (aWz hI hn hU m i s t body i' s' t' hc)
  rw [if_neg hb];have hex : ∃ a ks1, ks = a :: ks1 ∧ ks.length ≤ 2 := by
   rcases h46 with rfl | rfl
   ·obtain ⟨⟨a, b, rfl⟩, _⟩ := s8 hc.q (.inl rfl);exact ⟨a, [b], rfl, le_refl _⟩
   ·obtain ⟨⟨a, rfl⟩, _⟩ := fK hc.q (.inr (.inl rfl));exact ⟨a, [], rfl, by simp⟩
  obtain ⟨a, ks1, rfl, hl⟩ := hex;exact aS0 h46 (aWy m f i s t a ks1 bs al _ ha hb (hkid 0 a rfl (by omega) hl))
 rw [if_neg h46];by_cases h8 : f = 8
 ·rw [if_pos h8];subst h8;obtain ⟨⟨a, rfl⟩, rfl, h12⟩ := aFr hc.q;exact aYm (aYs hI hn hU m i s t a bs hc)
 rw [if_neg h8];by_cases h9 : f = 9
 ·rw [if_pos h9];subst h9;obtain ⟨⟨a, rfl⟩, rfl, h12, hv⟩ := aMk hc.q;have ka := hc.kid (by decide) (x := a) mem_cons_self;have hca := hcs a mem_cons_self;have hcc := aS7 m i s t a al (aAi (cV m.binds k) (.mk 9 i s t [a] [] al) 0) h12 (hsh a mem_cons_self (by decide)) (fun _ => hkid 0 a rfl (by decide) (by simp)) fun x hx => by
   refine aSz x a hca (aB3 403 a ka.q hca) fun s1 l1 hg hlv => ?_
   have kx := hc.alt hx;have hm' := iW hx;obtain ⟨g1, _⟩ := aMg hn hU (s := m30 (.mk 9 i s t [a] [] al)) (by rw [m30, cZ, cZ]; omega) hsz kx ka (hv x hx) hg hlv;exact (aOp hI (by decide) (by decide) x.body _ _ hlv.symm (by have := hv x hx; omega) g1).1
  exact aYl hcc
 rw [if_neg h9];by_cases h10 : f = 10
 ·rw [if_pos h10];subst h10;obtain ⟨⟨a, b, rfl⟩, rfl, rfl⟩ := s8 hc.q (.inr rfl);exact aWl (aSu m i s t a b _ _ (hsh a mem_cons_self (by decide)) (hsh b (mem_cons_of_mem _ mem_cons_self) (by decide)) (fun _ => hkid 0 a rfl (by decide) (le_refl _)) (fun _ => hkid 1 b rfl (by decide) (le_refl _)))
 rw [if_neg h10];exact aYo h1 (fun e => h46 (.inl e)) (fun e => h46 (.inr e)) h8 h9 h10
inductive Val where
 | mk (form n : Int) (name : Str) (kids : List Val)
def Val.form : Val → Int | .mk f _ _ _ => f
def Val.n : Val → Int | .mk _ n _ _ => n
def Val.name : Val → Str | .mk _ _ s _ => s
mutual
def aEy : Val → List (List C)
 | .mk _ _ _ l => kT l
def kT : List Val → List (List C)
 | [] => []
 | v :: l => [.int .i64 v.form, .int .i64 v.n, .str v.name, .sl 4 (aEy v)] :: kT l
end
def jE (v : Val) : List C := [.int .i64 v.form, .int .i64 v.n, .str v.name, .sl 4 (aEy v)]
theorem iM : ∀ l : List Val, kT l = l.map jE
 | [] => by simp [kT]
 | v :: l => by rw [kT, iM l]; rfl
def zV : Val := .mk 0 0 [] []
noncomputable def bX (bd : List Bind) : Nat → Nat → Core → Core × Nat × Int
 | 0, n, c => if shC c = true then (c, n, 0) else (zC, 0, 3)
 | k + 1, n, c => if shC c = true then (c, n, 0) else
  if (cV bd (m30 c) c).2 = 0 then (if 6000 < eU (cV bd (m30 c) c).1 then (zC, 0, 2) else bX bd k (n + 1) (cV bd (m30 c) c).1) else (zC, 0, (cV bd (m30 c) c).2)
abbrev VE : Type := Val × Nat × Int
def dF (f : Nat → Core → VE) : Nat → List Core → List Val × Nat × Int
 | F, [] => ([], F, 0)
 | F, c :: l =>
  if (f F c).2.2 = 0 then
   (if (dF f (f F c).2.1 l).2.2 = 0 then ((f F c).1 :: (dF f (f F c).2.1 l).1, (dF f (f F c).2.1 l).2.1, 0) else ([], (dF f (f F c).2.1 l).2.1, (dF f (f F c).2.1 l).2.2))
  else ([], (f F c).2.1, (f F c).2.2)
def aXo : Val := .mk 4 0 [] []
def aXq : Val := .mk 3 0 [] []
def aXp (n : Int) : Val := .mk 2 n [] []
def aFx (fs : List Fld) (f : Nat → Core → VE) (F : Nat) : Option (Str × List Core) → VE
 | none => (aXq, F, 0)
 | some (s, l) => match fs.find? fun x => decide (x.name = s) with
  | none => (aXq, F, 0)
  | some x => if ¬ (l.length : Int) = x.arity then (aXq, F, 0) else
   if (dF f F l).2.2 = 0 then (.mk 1 0 s (dF f F l).1, (dF f F l).2.1, 0) else (zV, (dF f F l).2.1, (dF f F l).2.2)
noncomputable def dV (md : Mod) : Nat → Nat → Nat → Core → VE
 | 0, _, F, _ => (zV, F, 3)
 | g + 1, d, F, c =>
  if d = 0 then (aXo, F, 0)
  else if ¬ (bX md.binds F 0 c).2.2 = 0 then (zV, F, (bX md.binds F 0 c).2.2)
  else if (bX md.binds F 0 c).1.form = 3 then (aXp (bX md.binds F 0 c).1.n, F - (bX md.binds F 0 c).2.1, 0)
  else if (bX md.binds F 0 c).1.form = 7 then dV md g d (F - (bX md.binds F 0 c).2.1) ((bX md.binds F 0 c).1.kids.headD zC)
  else aFx md.fields (fun F c => dV md g (d - 1) F c) (F - (bX md.binds F 0 c).2.1) (gvC (bX md.binds F 0 c).1)
theorem aAk {bd : List Bind} : ∀ (k n : Nat) (c : Core), (bX bd k n c).2.2 = 0 → n ≤ (bX bd k n c).2.1 ∧ (bX bd k n c).2.1 ≤ n + k
 | 0, n, c, h => by
  rw [bX] at h ⊢;by_cases hs : shC c = true
  ·rw [if_pos hs]; exact ⟨le_refl _, le_refl _⟩
  ·rw [if_neg hs] at h; cases h
 | k + 1, n, c, h => by
  rw [bX] at h ⊢;by_cases hs : shC c = true
  ·rw [if_pos hs]; exact ⟨le_refl _, Nat.le_add_right _ _⟩
  rw [if_neg hs] at h ⊢;by_cases h1 : (cV bd (m30 c) c).2 = 0
  ·rw [if_pos h1] at h ⊢;by_cases h2 : 6000 < eU (cV bd (m30 c) c).1
   ·rw [if_pos h2] at h; cases h
   ·rw [if_neg h2] at h ⊢;have := aAk k (n + 1) _ h;omega
  ·rw [if_neg h1] at h; exact absurd h h1
theorem sM {bd : List Bind} : ∀ (k n : Nat) (c : Core), bX bd k (n + 1) c = ((bX bd k n c).1, (if (bX bd k n c).2.2 = 0 then (bX bd k n c).2.1 + 1 else 0), (bX bd k n c).2.2) ∧ ((bX bd k n c).2.2 = 0 ∨ (bX bd k n c).2.1 = 0)
 | 0, n, c => by
  rw [bX, bX];by_cases hs : shC c = true
  ·rw [if_pos hs, if_pos hs, if_pos rfl]; exact ⟨rfl, .inl rfl⟩
  ·rw [if_neg hs, if_neg hs, if_neg (by decide)]; exact ⟨rfl, .inr rfl⟩
 | k + 1, n, c => by
  rw [bX, bX];by_cases hs : shC c = true
  ·rw [if_pos hs, if_pos hs, if_pos rfl]; exact ⟨rfl, .inl rfl⟩
  rw [if_neg hs, if_neg hs];by_cases h1 : (cV bd (m30 c) c).2 = 0
  ·rw [if_pos h1, if_pos h1];by_cases h2 : 6000 < eU (cV bd (m30 c) c).1
   ·rw [if_pos h2, if_pos h2, if_neg (by decide)]; exact ⟨rfl, .inr rfl⟩
   ·rw [if_neg h2, if_neg h2];exact sM k (n + 1) _
  ·rw [if_neg h1, if_neg h1, if_neg h1]; exact ⟨rfl, .inr rfl⟩
theorem uV {f : Nat → Core → VE} (hf : ∀ F c, (f F c).2.1 ≤ F) : ∀ (l : List Core) (F : Nat), (dF f F l).2.1 ≤ F
 | [], F => le_refl _
 | c :: l, F => by
  rw [dF];have h1 := hf F c;have h2 := uV hf l (f F c).2.1;by_cases e1 : (f F c).2.2 = 0
  ·rw [if_pos e1];by_cases e2 : (dF f (f F c).2.1 l).2.2 = 0
   ·rw [if_pos e2]; exact le_trans h2 h1
   ·rw [if_neg e2]; exact le_trans h2 h1
  ·rw [if_neg e1]; exact h1
theorem aA0 {md : Mod} : ∀ (g d F : Nat) (c : Core), (dV md g d F c).2.1 ≤ F
 | 0, d, F, c => le_refl _
 | g + 1, d, F, c => by
  rw [dV];by_cases hd : d = 0
  ·rw [if_pos hd]; exact le_refl _
  rw [if_neg hd];by_cases h0 : ¬ (bX md.binds F 0 c).2.2 = 0
  ·rw [if_pos h0]; exact le_refl _
  rw [if_neg h0];by_cases h3 : (bX md.binds F 0 c).1.form = 3
  ·rw [if_pos h3]; exact sub_le _ _
  rw [if_neg h3];by_cases h7 : (bX md.binds F 0 c).1.form = 7
  ·rw [if_pos h7]; exact le_trans (aA0 g d _ _) (sub_le _ _)
  rw [if_neg h7];refine le_trans (m := F - (bX md.binds F 0 c).2.1) ?_ (sub_le _ _);generalize F - (bX md.binds F 0 c).2.1 = F';cases gvC (bX md.binds F 0 c).1 with
  | none => exact le_refl _
  | some p =>
   obtain ⟨s, l⟩ := p;unfold aFx;dsimp only;cases hx : md.fields.find? fun x => decide (x.name = s) with
   | none => exact le_refl _
   | some x =>
    dsimp only;have hl := uV (fun F c => aA0 (md := md) g (d - 1) F c) l F';split
    ·exact le_refl _
    ·split
     ·exact hl
     ·exact hl
theorem aRj {md : Mod} {g d F : Nat} {c : Core} (hs : shC c = false) (h0 : (cV md.binds (m30 c) c).2 = 0) (hz : eU (cV md.binds (m30 c) c).1 ≤ 6000) :
  (dV md (g + 1) d (F + 1) c).1 = (dV md (g + 1) d F (cV md.binds (m30 c) c).1).1 ∧ (dV md (g + 1) d (F + 1) c).2.2 = (dV md (g + 1) d F (cV md.binds (m30 c) c).1).2.2 := by
 rw [dV, dV];by_cases hd : d = 0
 ·rw [if_pos hd, if_pos hd]; exact ⟨rfl, rfl⟩
 rw [if_neg hd, if_neg hd];have hw : bX md.binds (F + 1) 0 c = bX md.binds F 1 (cV md.binds (m30 c) c).1 := by
  rw [bX, if_neg (by rw [hs]; decide), if_pos h0, if_neg (by omega)]
 obtain ⟨k1, k2⟩ := sM (bd := md.binds) F 0 (cV md.binds (m30 c) c).1;rw [hw, k1];generalize bX md.binds F 0 (cV md.binds (m30 c) c).1 = w at *;dsimp only;by_cases e : w.2.2 = 0
 ·have hnn : ¬ ¬ w.2.2 = 0 := fun h => h e
  rw [if_neg hnn, if_neg hnn, if_pos e, Nat.add_sub_add_right];exact ⟨rfl, rfl⟩
 ·rw [if_pos e, if_pos e]; exact ⟨rfl, rfl⟩
theorem aXr : UOk zTy := ⟨by decide, by unfold zTy; rw [fvm]; decide⟩
noncomputable def vD (bd : List Bind) (c : Core) : CE := if shC c = true then (zC, 21) else if (cV bd (m30 c) c).2 = 0 then ((cV bd (m30 c) c).1, 0) else (zC, (cV bd (m30 c) c).2)
theorem aQq (hI : dR 540000000000) {D M X : Nat} (hMD : M + D ≤ 700000) {c : Core} (hc : CG D M X c) (hz : ¬ ([] : Str) ∈ tyR c) : aU Tryz.prog 23 [.pa (aC c), Go.AM.T [], tyV zTy] [] (.pa (aC c)) [] := by
 have h := (aB2 hI hMD (m30 c) c (le_refl _) hc [] zTy aXr).imp;rwa [aUo (m30 c) c (le_refl _) hc.q hz] at h
section
variable {n : Nat} {U : List Str}
theorem aLn (hI : dR 540000000000) (hn : n ≤ 99) (hU : U.length ≤ 480000) (hz : ¬ ([] : Str) ∈ U) {m : Mod} (hB : BI U m.binds) {c : Core} (hc : ST n U c) :
  aU Tryz.prog 11 [.pa (jK m), .pa (aC c)] [] (fH (vD m.binds c)) [] := by
 have hcs := dA c;have hsz := hc.sz;have hsh := wU 403 c hc.q (by omega);have hst := aQr hI hn hU hB (m30 c) c (le_refl _) hc;have hok := pQ hI hn hU hB (m30 c) c (le_refl _) hc;unfold vD;generalize cV m.binds (m30 c) c = p at *;refine bT (n := 25) tok Tryz.func11 rfl rfl rfl ?_;refine a8 (ag [] rfl ?_);refine a8 (a8 (aE mixed ?_));refine ak 1 [] rfl ?_;refine kc hsh ?_;refine az ?_;cases hs : shC c with
 | true =>
  rw [if_pos rfl];refine aA rfl (fun _ => ?_) (fun hb => by cases hb);refine a8 (ag [] rfl ?_);exact aI (iB trw)
 | false =>
  rw [if_neg Bool.false_ne_true];refine aA rfl (fun hb => by cases hb) (fun _ => ?_);refine aD ?_;refine a8 (aE mixed ?_);refine ak 3 [] rfl ?_;refine kc hst ?_;refine ak 6 [] rfl ?_;refine az ?_;obtain ⟨r, e⟩ := p;dsimp only at hok ⊢;by_cases he : e = 0
  ·subst he;have hr := hok rfl;have hzz := aQq hI (by decide) (hr.cg (n := n + 1) (by omega) hsz hU) (fun h => hz (hr.ty _ h));rw [if_pos rfl];refine a8 (a8 (ag [] rfl ?_));refine aA rfl (fun hb => absurd hb (by decide)) (fun _ => ?_);refine aD ?_;refine a8 (aE mixed ?_);refine ak 2 [] rfl ?_;refine kc hzz ?_;refine ak 2 [] rfl ?_;refine az ?_;exact aI (iB trw)
  ·rw [if_neg he];refine a8 (a8 (ag [] rfl ?_));refine aA rfl (fun _ => ?_) (fun hb => absurd hb (by simp [he]));refine a8 (ag [] rfl ?_);exact aI (iB trw)
theorem aHc (hI : dR 540000000000) (hU : U.length ≤ 480000) {bd : List Bind} (hB : BI U bd) : ∀ (k j : Nat) (c : Core), n + j + k ≤ 99 → ST (n + j) U c → (bX bd k j c).2.2 = 0 →
  ST (n + (bX bd k j c).2.1) U (bX bd k j c).1 ∧ shC (bX bd k j c).1 = true ∧ ((bX bd k j c).2.1 = j → (bX bd k j c).1 = c)
 | 0, j, c, hn, hc, h => by
  rw [bX] at h ⊢;by_cases hs : shC c = true
  ·rw [if_pos hs]; exact ⟨hc, hs, fun _ => rfl⟩
  ·rw [if_neg hs] at h; cases h
 | k + 1, j, c, hn, hc, h => by
  rw [bX] at h ⊢;by_cases hs : shC c = true
  ·rw [if_pos hs]; exact ⟨hc, hs, fun _ => rfl⟩
  rw [if_neg hs] at h ⊢;by_cases h1 : (cV bd (m30 c) c).2 = 0
  ·rw [if_pos h1] at h ⊢;by_cases h2 : 6000 < eU (cV bd (m30 c) c).1
   ·rw [if_pos h2] at h; cases h
   ·rw [if_neg h2] at h ⊢;have hr := (pQ hI (by omega) hU hB (m30 c) c (le_refl _) hc h1).st (by omega);obtain ⟨g1, g2, g3⟩ := aHc hI hU hB k (j + 1) _ (by omega) hr h;have := (aAk k (j + 1) _ h).1
    exact ⟨g1, g2, fun e => by omega⟩
  ·rw [if_neg h1] at h; exact absurd h h1
def whV (w : Core × Nat × Int) : V := .tup [.pa (aC w.1), I .i64 w.2.1, I .i64 w.2.2]
theorem aQ0 (hI : dR 540000000000) (hU : U.length ≤ 480000) (hz : ¬ ([] : Str) ∈ U) {m : Mod} (hB : BI U m.binds) (F : Nat) (hn : n + F ≤ 99) {c : Core} (hc : ST n U c) :
  aU Tryz.prog 54 [.pa (jK m), .pa (aC c), I .i64 F] [] (whV (bX m.binds F 0 c)) [] := by
 refine bT (n := 43) tok Tryz.func54 rfl rfl rfl ?_;refine a8 (ag [] rfl ?_);refine a8 (ag [] rfl ?_);refine aB ?_;refine aL (fun p : Nat × Core => mk [(2, I .i64 F), (3, .one (.vp 3 0)), (4, .one (.vp 4 0)), (6, .one (.vp 6 0)), (9, I .i64 p.1)] [(3, .var 27 ((jK m).map .c)), (4, .var 37 (bB p.2)), (6, .var 37 bS)]) (fun p => p.1 ≤ F ∧ ST (n + p.1) U p.2 ∧ bX m.binds F 0 c = bX m.binds (F - p.1) p.1 p.2) (fun p => F - p.1) (0, c) ⟨zero_le _, hc, rfl⟩ sl ?_;rintro ⟨j, x⟩ ⟨hj, hx, hw⟩;dsimp only at hj hx hw ⊢;have hcs := dA x;have hsz := hx.sz;have hsh := wU 403 x hx.q (by omega);refine a8 (aB ?_);refine a8 (a8 (aE mixed ?_));refine ak 1 [] rfl ?_;refine kc hsh ?_;refine az ?_;cases hs : shC x with
 | true =>
  have e : bX m.binds F 0 c = (x, j, 0) := by
   rw [hw];cases F - j with
   | zero => rw [bX, if_pos hs]
   | succ k => rw [bX, if_pos hs]
  have hzz := aQq hI (by decide) (hx.cg (by omega) hU) (fun h => hz (hx.ty _ h));rw [e];refine aA rfl (fun _ => ?_) (fun hb => by cases hb);refine a8 (aE mixed ?_);refine ak 2 [] rfl ?_;refine kc hzz ?_;refine ak 4 [] rfl ?_;refine az ?_;exact aI (aXf trw)
 | false =>
  have hs' : ¬ shC x = true := by rw [hs]; exact Bool.false_ne_true
  refine aA rfl (fun hb => by cases hb) (fun _ => ?_);refine aD ?_;refine a8 (a8 (ag [] rfl ?_));refine aA rfl (fun hb => ?_) (fun hb => ?_)
  ·have hjF : j = F := by have := of_decide_eq_true hb; omega
   have e : bX m.binds F 0 c = (zC, 0, 3) := by rw [hw, hjF, sub_self, bX, if_neg (by rw [← hjF] at *; exact hs')]
   rw [e];refine a8 (ag [] rfl ?_);exact aI (aXf trw)
  have hjF : j < F := by have := of_decide_eq_false hb; omega
  obtain ⟨k, hk⟩ : ∃ k, F - j = k + 1 := ⟨F - j - 1, by omega⟩
  have hst := aQr hI (n := n + j) (by omega) hU hB (m30 x) x (le_refl _) hx;have hok := pQ hI (n := n + j) (by omega) hU hB (m30 x) x (le_refl _) hx;rw [hk, bX, if_neg hs'] at hw;generalize cV m.binds (m30 x) x = p at *;obtain ⟨r, e⟩ := p;dsimp only at hok hw ⊢;refine aD ?_;refine a8 (aE mixed ?_);refine ak 3 [] rfl ?_;refine kc hst ?_;refine ak 6 [] rfl ?_;refine az ?_;by_cases he : e = 0
  ·subst he;have hr := hok rfl;have hrb := hr.big hsz;have hcr := dA r;have hB2 : Big = 250000000000 := rfl;have hze := aQs (b6 r) r (le_refl _) (by omega);rw [if_pos rfl] at hw;refine a8 (a8 (ag [(2, .bv true), (4, .pc (I .i64 (eU r : Nat))), (6, .bv true)] rfl ?_));by_cases hbig : 6000 < eU r
   ·rw [if_pos hbig] at hw;rw [hw];refine aA rfl (fun _ => ?_) (fun hb => absurd hb (by simp; omega));refine ag [] rfl ?_;refine a8 (a8 (ag [] rfl ?_));refine aA rfl (fun _ => ?_) (fun hb => absurd hb (by decide));refine a8 (ag [] rfl ?_);exact aI (aXf trw)
   ·rw [if_neg hbig] at hw;refine aA rfl (fun hb => absurd hb (by simp; omega)) (fun _ => ?_);refine aD ?_;refine a8 (a8 (ag [] rfl ?_));refine aA rfl (fun hb => by simp at hb) (fun _ => ?_);refine aD ?_;refine ag [] rfl ?_;refine ag [] rfl ?_;exact ⟨(j + 1, r), ⟨hjF, hr.st (by omega), by rw [hw]; congr 1; omega⟩, by dsimp only; omega, sl⟩
  ·rw [if_neg he] at hw;rw [hw];have hd : decide (e = 0) = false := decide_eq_false he;refine a8 (a8 (ag [(2, .bv false), (6, .bv false)] rfl ?_));refine aA rfl (fun hb => by cases hb) (fun _ => ?_);refine aD ?_;refine a8 (a8 (ag [] rfl ?_));refine aA rfl (fun _ => ?_) (fun hb => absurd hb (by simp [he]));refine a8 (ag [] rfl ?_);exact aI (aXf trw)
end
end Go.Proofs.YtmoekkcdkjopgaaGreatDoor
