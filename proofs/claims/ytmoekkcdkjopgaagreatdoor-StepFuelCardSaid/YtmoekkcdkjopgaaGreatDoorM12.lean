/-
  Texts Ly13 to Ly19 in one.
-/
import Derived.Test.YtmoekkcdkjopgaaGreatDoorM11
import Derived.Shelf.Strconv.Itoa3
import Derived.Lib.LaidTab
open List (drop_eq_getElem_cons drop_length drop_zero length_cons length_eq_one_iff length_eq_zero_iff length_map length_set length_take map_append map_cons map_nil mem_append mem_cons mem_cons_of_mem mem_cons_self mem_map mem_singleton set_cons_succ sum_cons sum_nil take_add_one take_length take_of_length_le)
open Nat (add_mul le_refl le_succ le_trans lt_of_lt_of_le mul_add mul_comm mul_le_mul_left mul_le_mul_right mul_left_comm mul_one sub_le sub_self zero_add zero_le)
namespace Go.Proofs.YtmoekkcdkjopgaaGreatDoor
open Go Go.AM
set_option maxRecDepth 20000
set_option maxHeartbeats 4000000
structure Fld where
 name : Str
 tag : Int
 many : Int
 arity : Int
 ty : Ty
def iP (x : Fld) : List C := [.str x.name, .int .i64 x.tag, .int .i64 x.many, .int .i64 x.arity] ++ bB x.ty
structure Mod where
 fields : List Fld
 binds : List Bind
def jW (m : Mod) : List C := [.sl 8 (m.fields.map iP), .sl 15 (m.binds.map bA)]
abbrev CE : Type := Core × Int
def fL (p : CE) : V := .tup [.pa (aB p.1), I .i64 p.2]
def aMg (sh : Bool) (p : CE) (g : Core → Core) : CE := if sh then (zC, 51) else if p.2 = 0 then (g p.1, 0) else (zC, p.2)
noncomputable def mE (a : Alt) (c : Core) : Option Core :=
 if a.form = 3 then some a.body
 else if a.form = 2 then (if c.form = 3 ∧ c.n = a.n then some a.body else none)
 else match gvC c with
  | some (s, l) => if s = a.name ∧ l.length = a.vars.length then some (aBb a.body a.vars l) else none
  | none => none
def aMf (c : Core) (i : Nat) (r : Core) : Core := match c with | .mk f n s t ks bs al => .mk f n s t (ks.set i r) bs al
def aAi (st : Core → CE) (c : Core) (i : Nat) : CE := match c.kids[i]? with
 | some x => aMg (shC x) (st x) (aMf c i)
 | none => (zC, 51)
def lX (bs : List Bind) (b : Bind) : Core := .mk 8 0 [] zTy [b.body] bs []
noncomputable def eI (bd : List Bind) : Nat → Core → CE
 | 0, _ => (zC, 51)
 | k + 1, c =>
  let hd := c.kids.headD zC
  if c.form = 1 then (match bd.find? fun b => decide (b.name = c.name) with | some b => (b.body, 0) | none => (zC, 51))
  else if c.form = 4 ∨ c.form = 6 then
   (if c.form = 4 ∧ hd.form = 5 then (eY (m30 (hd.kids.headD zC)) (hd.kids.headD zC) hd.name (c.kids.getD 1 zC), 0)
   else if c.form = 6 ∧ hd.form = 7 then (sTR (m30 (hd.kids.headD zC)) (hd.kids.headD zC) hd.name c.ty, 0)
   else aAi (eI bd k) c 0)
  else if c.form = 8 then (aBb hd (c.binds.map Bind.name) (c.binds.map (lX c.binds)), 0)
  else if c.form = 9 then (if shC hd then (match c.alts.findSome? fun a => mE a hd with | some r => (r, 0) | none => (zC, 52)) else aAi (eI bd k) c 0)
  else if c.form = 10 then
   (if ¬ shC hd then aAi (eI bd k) c 0
   else if ¬ shC (c.kids.getD 1 zC) then aAi (eI bd k) c 1
   else if hd.form = 3 ∧ (c.kids.getD 1 zC).form = 3 then r8 c.name hd.n (c.kids.getD 1 zC).n
   else (zC, 51))
  else if c.form = 11 then (zC, 52)
  else (zC, 51)
theorem aRd {α : Type} (g : α → List C) (l : List α) (i : Nat) (x : α) : (l.map g).set i (g x) = (l.set i x).map g := by
 induction l generalizing i with
 | nil => rfl
 | cons y l ih => cases i with
  | zero => rfl
  | succ i => show g y :: (l.map g).set i (g x) = g y :: (l.set i x).map g; rw [ih]
theorem aWj (f n : Int) (s : Str) (t : Ty) (ks : List Core) (bs : List Bind) (al : List Alt) (i : Nat) (r : Core) (hi : i < ks.length) (hk : ks.length ≤ 600000000000) :
  aV Tryz.prog 180 ([.pa (aB r)] ++ [R.vp 4 0, R.vp 5 0].map V.one) [(4, .var 37 (bD (.mk f n s t ks bs al))), (5, .var 3 [.c (.int .i64 i)])] (.pa (aB (.mk f n s t (ks.set i r) bs al))) [(4, .var 37 (bD (.mk f n s t (ks.set i r) bs al))), (5, .var 3 [.c (.int .i64 i)])] := by
 have hkl : (aQ ks).length = ks.length := by rw [bG, length_map]
 have hcl := o7 (aQ ks) (by omega);have hset : (aQ ks).set i (aB r) = aQ (ks.set i r) := by rw [bG, bG, aRd]
 have hsl : (aQ (ks.set i r)).length = ks.length := by rw [bG, length_map, length_set]
 obtain ⟨x, hx⟩ := aK hi;have hxe : (aQ ks)[i]? = some (aB x) := by rw [bG]; exact bO aB hx
 refine bT (n := 15) tok Tryz.func180 rfl rfl rfl ?_;refine a8 (ag [(0, .id 3), (1, .id 6)] rfl ?_);refine a8 (aE mixed ?_);refine ak 2 [] rfl ?_;refine kc hcl ?_;refine ak 2 [] rfl ?_;refine az ?_;refine a8 (ag [(5, .row i (aB x))] rfl ?_);refine AWp.sub (Sub.freeze (id := 702) rfl) ?_;refine AWp.sub (Sub.varPure (x := 4) (cs := aB (.mk f n s t (ks.set i r) bs al)) rfl (.c .refl (.c .refl (.c .refl (.c .refl (.c .refl (.c .refl (.c .refl (.hs rfl (by rw [length_set]) (by rw [drop_zero]; show aQ (ks.set i r) = List.take (aQ ks).length ((aQ ks).set i (aB r)); rw [hset, take_of_length_le]; rw [hsl, hkl]; exact le_refl _) (.c .refl (.c .refl .nil))))))))))) ?_;refine a8 (ag [] rfl ?_);exact aI (rtC trw)
def kO (c : Core) (i : Nat) : List (Nat × AObj) := [(4, .var 37 (bD c)), (5, .var 3 [.c (.int .i64 i)])]
def yP (sh : Bool) (p : CE) (c : Core) (i : Nat) : Core := if sh then c else if p.2 = 0 then aMf c i p.1 else c
theorem aOd (m : Mod) (X : Nat) (c x : Core) (i : Nat) (p : CE) (hi : i < c.kids.length) (hk : c.kids.length ≤ 600000000000) (hq : fE (QL X) x) (hsz : b6 x ≤ 570000000000) (hst : shC x = false → aV Tryz.prog 42 [.pa (jW m), .pa (aB x)] [] (fL p) []) :
  aV Tryz.prog 179 [.pa (jW m), .pa (aB x), .one (.clo 180 [.vp 4 0, .vp 5 0])] (kO c i) (fL (aMg (shC x) p (aMf c i))) (kO (yP (shC x) p c i) i) := by
 have hsh := wV X x hq hsz;unfold kO;refine bT (n := 26) tok Tryz.func179 rfl rfl rfl ?_;refine a8 (ag [(0, .id 13), (1, .id 14), (2, .id 16)] rfl ?_);refine a8 (a8 (aE mixed ?_));refine ak 1 [] rfl ?_;refine kc hsh ?_;refine az ?_;cases hS : shC x with
 | true =>
  refine aA rfl (fun _ => ?_) (fun hb => by cases hb);refine a8 (ag [] rfl ?_);exact aI (iD trw)
 | false =>
  have hst := hst hS;refine aA rfl (fun hb => by cases hb) (fun _ => ?_);refine aD ?_;refine a8 (aE mixed ?_);refine ak 2 [] rfl ?_;refine kc hst ?_;refine ak 6 [] rfl ?_;refine az ?_;refine a8 (a8 (ag [] rfl ?_));refine aA rfl (fun hb => ?_) (fun hb => ?_)
  ·have he : ¬ p.2 = 0 := by
    intro h;have hb : (!decide (p.2 = 0)) = true := hb;rw [decide_eq_true h] at hb; cases hb
   have e1 : aMg false p (aMf c i) = (zC, p.2) := by unfold aMg; rw [if_neg Bool.false_ne_true, if_neg he]
   have e2 : yP false p c i = c := by unfold yP; rw [if_neg Bool.false_ne_true, if_neg he]
   rw [e1, e2];refine a8 (ag [] rfl ?_);exact aI (iD trw)
  ·have he : p.2 = 0 := by
    have hb : (!decide (p.2 = 0)) = false := hb;by_cases h : p.2 = 0
    ·exact h
    ·rw [decide_eq_false h] at hb; cases hb
   have e1 : aMg false p (aMf c i) = (aMf c i p.1, 0) := by unfold aMg; rw [if_neg Bool.false_ne_true, if_pos he]
   have e2 : yP false p c i = aMf c i p.1 := by unfold yP; rw [if_neg Bool.false_ne_true, if_pos he]
   rw [e1, e2];obtain ⟨f, n, s, t, ks, bs, al⟩ := c;have hk1 := aWj f n s t ks bs al i p.1 hi hk;refine aD ?_;refine a8 (aE mixed ?_);refine ak 2 [] rfl ?_;refine kv (args := [.pa (aB p.1)]) hk1 ?_;refine ak 2 [] rfl ?_;refine az ?_;exact aI (iD trw)
theorem aYi (m : Mod) (X : Nat) (c x : Core) (i : Nat) (st : Core → CE) (hx : c.kids[i]? = some x) (hk : c.kids.length ≤ 600000000000) (hq : fE (QL X) x) (hsz : b6 x ≤ 570000000000) (hst : shC x = false → aV Tryz.prog 42 [.pa (jW m), .pa (aB x)] [] (fL (st x)) []) :
  aV Tryz.prog 161 [.pa (jW m), .pa (aB c), I .i64 i] [] (fL (aAi st c i)) [] := by
 have hi : i < c.kids.length := (List.getElem?_eq_some_iff.1 hx).1
 have hw := aOd m X c x i (st x) hi hk hq hsz hst;have hxe : (aQ c.kids)[i]? = some (aB x) := by rw [bG]; exact bO aB hx
 have he : aAi st c i = aMg (shC x) (st x) (aMf c i) := by unfold aAi; rw [hx]
 rw [he];obtain ⟨f, n, s, t, ks, bs, al⟩ := c;unfold kO at hw;refine bT (n := 18) tok Tryz.func161 rfl rfl rfl ?_;refine a8 (ag [] rfl ?_);refine a8 (aE mixed ?_);refine ak 7 [(4, .row i (aB x))] rfl ?_;refine kc hw ?_;refine ak 4 [] rfl ?_;refine az ?_;exact aI (iD trw)
end Go.Proofs.YtmoekkcdkjopgaaGreatDoor
namespace Go.Proofs.YtmoekkcdkjopgaaGreatDoor
open Go Go.AM Go.Shelf
set_option maxRecDepth 100000
def ir : Ren := ⟨fun f => if f = 129 then 200 else if f = 171 then 181 else if f = 243 then 193 else if f = 246 then 194 else if f = 283 then 195 else if f = 284 then 196 else if f = 285 then 197 else if f = 286 then 198 else if f = 317 then 199 else if f = 318 then 201 else if f = 319 then 202 else if f = 320 then 203 else if f = 337 then 204 else if f = 338 then 205 else f, fun t => if t = 0 then 0 else if t = 2 then 2 else if t = 3 then 3 else if t = 4 then 4 else if t = 5 then 5 else if t = 9 then 9 else if t = 20 then 20 else if t = 37 then 197 else if t = 46 then 218 else if t = 51 then 216 else if t = 53 then 209 else if t = 171 then 208 else if t = 173 then 212 else if t = 212 then 215 else if t = 213 then 217 else if t = 232 then 221 else if t = 233 then 222 else t, fun g => if g = 17 then 0 else if g = 18 then 1 else if g = 19 then 2 else g⟩
theorem il : LaysM.n171 Tryz.prog ir where
 mixed := mixed
 f129 := by kernel_rfl
 f171 := by kernel_rfl
 f243 := by kernel_rfl
 f246 := by kernel_rfl
 f283 := by kernel_rfl
 f284 := by kernel_rfl
 f285 := by kernel_rfl
 f286 := by kernel_rfl
 f317 := by kernel_rfl
 f318 := by kernel_rfl
 f319 := by kernel_rfl
 f320 := by kernel_rfl
 f337 := by kernel_rfl
 f338 := by kernel_rfl
 t0 := by kernel_rfl
 a0 := fun w => by kernel_rfl
 z0 := fun w => by kernel_rfl
 v0 := fun w => by kernel_rfl
 t2 := by kernel_rfl
 a2 := fun w => by kernel_rfl
 z2 := fun w => by kernel_rfl
 v2 := fun w => by kernel_rfl
 t3 := by kernel_rfl
 a3 := fun w => by kernel_rfl
 z3 := fun w => by kernel_rfl
 v3 := fun w => by kernel_rfl
 t4 := by kernel_rfl
 a4 := fun w => by kernel_rfl
 z4 := fun w => by kernel_rfl
 v4 := fun w => by kernel_rfl
 t5 := by kernel_rfl
 a5 := fun w => by kernel_rfl
 z5 := fun w => by kernel_rfl
 v5 := fun w => by kernel_rfl
 t9 := by kernel_rfl
 a9 := fun w => by kernel_rfl
 z9 := fun w => by kernel_rfl
 v9 := fun w => by kernel_rfl
 t20 := by kernel_rfl
 a20 := fun w => by kernel_rfl
 z20 := fun w => by kernel_rfl
 v20 := fun w => by kernel_rfl
 t37 := by kernel_rfl
 a37 := fun w => by kernel_rfl
 z37 := fun w => by kernel_rfl
 v37 := fun w => by kernel_rfl
 t46 := by kernel_rfl
 a46 := fun w => by kernel_rfl
 z46 := fun w => by kernel_rfl
 v46 := fun w => by kernel_rfl
 t51 := by kernel_rfl
 a51 := fun w => by kernel_rfl
 z51 := fun w => by kernel_rfl
 v51 := fun w => by kernel_rfl
 t53 := by kernel_rfl
 a53 := fun w => by kernel_rfl
 z53 := fun w => by kernel_rfl
 v53 := fun w => by kernel_rfl
 t171 := by kernel_rfl
 a171 := fun w => by kernel_rfl
 z171 := fun w => by kernel_rfl
 v171 := fun w => by kernel_rfl
 t173 := by kernel_rfl
 a173 := fun w => by kernel_rfl
 z173 := fun w => by kernel_rfl
 v173 := fun w => by kernel_rfl
 t212 := by kernel_rfl
 a212 := fun w => by kernel_rfl
 z212 := fun w => by kernel_rfl
 v212 := fun w => by kernel_rfl
 t213 := by kernel_rfl
 a213 := fun w => by kernel_rfl
 z213 := fun w => by kernel_rfl
 t232 := by kernel_rfl
 a232 := fun w => by kernel_rfl
 z232 := fun w => by kernel_rfl
 v232 := fun w => by kernel_rfl
 t233 := by kernel_rfl
 a233 := fun w => by kernel_rfl
 z233 := fun w => by kernel_rfl
 v233 := fun w => by kernel_rfl
 g17 := by kernel_rfl
 g18 := by kernel_rfl
 g19 := by kernel_rfl
 i0 := by kernel_rfl
 i2 := by kernel_rfl
 i3 := by kernel_rfl
 i4 := by kernel_rfl
 i5 := by kernel_rfl
 i9 := by kernel_rfl
 i20 := by kernel_rfl
 i37 := by kernel_rfl
 i46 := by kernel_rfl
 i51 := by kernel_rfl
 i53 := by kernel_rfl
 i171 := by kernel_rfl
 i173 := by kernel_rfl
 i212 := by kernel_rfl
 i232 := by kernel_rfl
 i233 := by kernel_rfl
 m17 := by kernel_rfl
 m18 := by kernel_rfl
 m19 := by kernel_rfl
end Go.Proofs.YtmoekkcdkjopgaaGreatDoor
namespace Go.AM
open Go
theorem Inv.grown {G : Ctx} {S : Sto} {μ : Mu} {H : cK} {w : World} (h : Inv G S μ H w) (k : Nat) (os : Array Obj) : Inv G S μ H (Sort.grow (w.drewN k) os) := by
 have hold : ∀ b : Nat, b < w.heap.size → (Sort.grow (w.drewN k) os).heap[b]? = w.heap[b]? := fun b hb => by
  show (w.heap ++ os)[b]? = w.heap[b]?;exact Array.getElem?_append_left hb
 have hsz : w.heap.size ≤ (Sort.grow (w.drewN k) os).heap.size := by
  show w.heap.size ≤ (w.heap ++ os).size;rw [Array.size_append]; omega
 obtain ⟨h1, h2, h3, h4, h5, h6, h7, h8⟩ := h;refine ⟨⟨fun b o v e => ?_, fun b es clk e => ?_⟩, fun id o e => (h2 id o e).evolve (Evolve.refl _ _ _) rfl fun b c hm => ⟨hold b ((h2 id o e).lt hm), fun _ => rfl, rfl⟩, h3, h4, ?_, h6, h7, h8⟩
 ·obtain ⟨vs, t, fr, g1, g2⟩ := h1.1 b o v e;exact ⟨vs, t, fr, by rw [hold b (dY g1)]; exact g1, g2⟩
 ·have g := h1.2 b es clk e;rw [hold b (dY g)]; exact g
 ·obtain ⟨f1, f2, f3, f4, f5, f6⟩ := h5;exact ⟨f1, f2, f3, le_trans f4 hsz, fun b hb hF => by rw [hold b (lt_of_lt_of_le hb f4)]; exact f5 b hb hF, f6⟩
end Go.AM
namespace Go.Proofs.YtmoekkcdkjopgaaGreatDoor
open Go Go.AM
set_option maxRecDepth 20000
theorem aK9 (k : Nat) (h : k < 1000000000000000000) : aV Tryz.prog 181 [I .i64 (k : Int)] [] (Go.AM.T (Lib.decDigits k)) [] := by
 intro S μ w vals hI hv;simp only [bW, aW, b9, Rep] at hv;obtain ⟨v1, vs1, rfl, rfl, rfl⟩ := hv;have htab : Lib.TabIs Tryz.prog w "internal/strconv.uint64pow10" .u64 Lib.pow10Tab := by
  obtain ⟨h1, t, fr, h2⟩ := hI.frame.tabAt 0 rfl;unfold Lib.TabIs World.var?;rw [show Tryz.prog.globalNamed "internal/strconv.uint64pow10" = some 0 by kernel_rfl];simp only [Option.bind_some, h2];rfl
 refine Calls.mono (Any.strconv_Itoa il (k : Int) (by omega) (by omega) w htab) ?_;rintro e w' ⟨rfl, j, os, rfl⟩;refine ⟨S, μ, _, rfl, hI.grown j os, ?_⟩;rw [Lib.itoa_nonneg];simp only [aW, b9, Rep]
end Go.Proofs.YtmoekkcdkjopgaaGreatDoor
namespace Go.Proofs.YtmoekkcdkjopgaaGreatDoor
open Go Go.AM
set_option maxRecDepth 20000
set_option maxHeartbeats 4000000
theorem aUd (hI : dP 540000000000) {D M X : Nat} (hMD : M + D ≤ 700000) : ∀ (k : Nat) (c : Core), m30 c ≤ k → CG D M X c → ∀ (name : Str) (u : Ty), UOk u → ∀ x ∈ tyR (sTR k c name u), (x ∈ tyR c ∧ ¬ x = name) ∨ x ∈ tfR u := by
 intro k
 induction k with
 | zero => intro c h; have := fD c; omega
 | succ k ih =>
 intro c h hc name u hu x hx;obtain ⟨f, n, nm, t, ks, bs, al⟩ := c;obtain ⟨ht0, ht1, htb⟩ := hc.ty;have hq := hc.q;obtain ⟨q1, q2, q3, q4⟩ := bC.1 hq;have hz0 : tfR zTy = [] := rfl;have htft : ∀ v, wfS v = true → ∀ x ∈ tfR (l7 v [(name, u)]), (x ∈ tfR v ∧ ¬ x = name) ∨ x ∈ tfR u := fun v h1 x hx => by
  rcases aHo (tn v) v (le_refl _) h1 _ x hx with h | ⟨p, hp, _, h⟩
  ·exact .inl ⟨h.1, fun e => h.2 (by rw [e]; exact mem_singleton.2 rfl)⟩
  ·rw [mem_singleton.1 hp] at h; exact .inr h
 rw [sTR] at hx;by_cases h7 : f = 7
 ·subst h7;obtain ⟨⟨kid, rfl⟩, rfl, rfl⟩ := fJ hq (.inr (.inr rfl));obtain ⟨g1, g2, g3⟩ := hc.kid (x := kid) mem_cons_self;rw [if_pos rfl] at g2;obtain rfl : t = zTy := (q1.2.1 rfl).1
  by_cases hs : nm = name ∨ ¬ name ∈ tyR (.mk 7 n nm zTy [kid] [] [])
  ·rw [if_pos ⟨rfl, hs⟩] at hx;refine .inl ⟨hx, fun e => ?_⟩;rw [e] at hx;rcases hs with rfl | hs
   ·rcases bL.1 hx with h | ⟨x, _, _, h | h⟩ | ⟨b, hb, _⟩ | ⟨a, ha, _⟩
    ·rw [hz0] at h; cases h
    ·exact h rfl
    ·exact h rfl
    ·cases hb
    ·cases ha
   ·exact hs hx
  rw [if_neg fun e => hs e.2] at hx;have hend : ∀ (nm1 : Str) (kid1 : Core), m30 kid1 ≤ k → CG D M X kid1 → (∀ y ∈ tyR kid1, ¬ y = nm1 → y ∈ tyR kid ∧ (y = nm → y ∈ tfR u)) → x ∈ tyR (iS (fun t => l7 t [(name, u)]) (fun x => sTR k x name u) (.mk 7 n nm1 zTy [kid1] [] [])) → (x ∈ tyR (.mk 7 n nm zTy [kid] [] []) ∧ ¬ x = name) ∨ x ∈ tfR u := fun nm1 kid1 hk1 hc1 hy hx => by
   rw [iS] at hx;rcases bL.1 hx with h | ⟨y, hym, h, hne'⟩ | ⟨b, hb, _⟩ | ⟨a, ha, _⟩
   ·rw [sQ, hz0] at h; cases h
   ·obtain ⟨y0, hy0, rfl⟩ := mem_map.1 hym;rw [mem_singleton.1 hy0] at h;have hne' : ¬ x = nm1 := hne'.resolve_left (fun e => e rfl);rcases ih kid1 hk1 hc1 name u hu x h with ⟨h, hn⟩ | h
    ·obtain ⟨h1, h2⟩ := hy x h hne';by_cases e : x = nm
     ·exact .inr (h2 e)
     ·exact .inl ⟨bL.2 (.inr (.inl ⟨kid, mem_cons_self, h1, .inr e⟩)), hn⟩
    ·exact .inr h
   ·cases hb
   ·cases ha
  by_cases hnf : nm ∈ tfR u
  ·rw [if_pos ⟨rfl, hnf⟩, map_cons, map_nil] at hx;generalize b8 (tfR u ++ [kid].flatMap tyR) = z at hx;have hS1 := aBw hI hMD k kid (by omega) g1 nm (vT z) (UOk.var z);refine hend z _ (le_trans hS1.sz (by omega)) (aMe hI hMD g1 g2 k (by omega) nm z) (fun y hy hyn => ?_) hx;rcases ih kid (by omega) g1 nm (vT z) (UOk.var z) y hy with ⟨h1, h2⟩ | h1
   ·exact ⟨h1, fun e => absurd e h2⟩
   ·rw [aFp] at h1; exact absurd (mem_singleton.1 h1) hyn
  ·rw [if_neg fun e => hnf e.2] at hx;exact hend nm kid (by omega) g1 (fun y hy hyn => ⟨hy, fun e => absurd e hyn⟩) hx
 ·rw [if_neg fun e => h7 e.1, if_neg fun e => h7 e.1, iS] at hx;rcases bL.1 hx with h | ⟨y, hy, h, _⟩ | ⟨y, hy, h⟩ | ⟨y, hy, h⟩
  ·exact (htft t ht0 x h).imp (fun h => ⟨bL.2 (.inl h.1), h.2⟩) id
  ·obtain ⟨y0, hy0, rfl⟩ := mem_map.1 hy;exact (ih y0 (by have := (hc.kid hy0).2.2; omega) (hc.kid hy0).1 name u hu x h).imp (fun h => ⟨bL.2 (.inr (.inl ⟨y0, hy0, h.1, .inl h7⟩)), h.2⟩) id
  ·obtain ⟨y0, hy0, rfl⟩ := mem_map.1 hy;rcases h with h | h
   ·exact (htft y0.ty (htb y0 hy0).1 x h).imp (fun h => ⟨bL.2 (.inr (.inr (.inl ⟨y0, hy0, .inl h.1⟩))), h.2⟩) id
   ·exact (ih y0.body (by have := (hc.bind hy0).2; omega) (hc.bind hy0).1 name u hu x h).imp (fun h => ⟨bL.2 (.inr (.inr (.inl ⟨y0, hy0, .inr h.1⟩))), h.2⟩) id
  ·obtain ⟨y0, hy0, rfl⟩ := mem_map.1 hy;exact (ih y0.body (by have := (hc.alt hy0).2; omega) (hc.alt hy0).1 name u hu x h).imp (fun h => ⟨bL.2 (.inr (.inr (.inr ⟨y0, hy0, h.1⟩))), h.2⟩) id
theorem qB {α : Type} {g : α → α} : ∀ {l : List α}, (∀ x ∈ l, g x = x) → l.map g = l
 | [], _ => rfl
 | x :: l, h => by rw [map_cons, h x mem_cons_self, qB fun y hy => h y (mem_cons_of_mem _ hy)]
theorem aUe {X : Nat} : ∀ (k : Nat) (c : Core), m30 c ≤ k → fE (QL X) c → ¬ ([] : Str) ∈ tyR c → sTR k c [] zTy = c := by
 intro k
 induction k with
 | zero => intro c h; have := fD c; omega
 | succ k ih =>
 intro c h hq hn;obtain ⟨f, n, nm, t, ks, bs, al⟩ := c;obtain ⟨⟨_, _, w1, w2, _⟩, q2, q3, q4⟩ := bC.1 hq;rw [m30] at h;rw [sTR];by_cases h7 : f = 7
 ·rw [if_pos ⟨h7, .inr hn⟩]
 ·have ts : ∀ v, wfS v = true → ¬ ([] : Str) ∈ tfR v → l7 v [([], zTy)] = v := fun v hv hnv => aAo (tn v) v (le_refl _) hv _ fun p hp h => by rw [mem_singleton.1 hp] at h; exact hnv h
  rw [if_neg (fun e => h7 e.1), if_neg (fun e => h7 e.1), iS, ts t w1 (fun e => hn (bL.2 (.inl e)))];rw [qB (l := ks) fun x hx => ih x (by have := hY hx; omega) (q2 x hx) fun e => hn (bL.2 (.inr (.inl ⟨x, hx, e, .inl h7⟩)))]
  rw [qB (l := bs) fun x hx => by
   rw [ts x.ty (w2 (bhd x) (mem_map.2 ⟨x, hx, rfl⟩)) fun e => hn (bL.2 (.inr (.inr (.inl ⟨x, hx, .inl e⟩)))), ih x.body (by have := nK hx; omega) (q3 x hx) fun e => hn (bL.2 (.inr (.inr (.inl ⟨x, hx, .inr e⟩))))]
   cases x; rfl]
  rw [qB (l := al) fun x hx => by
   rw [ih x.body (by have := iX hx; omega) (q4 x hx) fun e => hn (bL.2 (.inr (.inr (.inr ⟨x, hx, e⟩))))]
   cases x; rfl]
theorem dK : j6.k = 0 := by unfold Alg.k zTy; rw [tW, if_neg (by decide), if_neg (by decide), tWs]; rfl
theorem dZ : tW j6 zTy r0 = 0 := dK
structure ST (n : Nat) (U : List Str) (c : Core) : Prop where
 q : fE (QL 403) c
 cw : ∀ E, n * 3 ≤ E → cw j6 E c r0 ≤ 3 + E
 ty : ∀ x ∈ tyR c, x ∈ U
 tl : tlC c ≤ 6000
 sz : m30 c ≤ 3500000
structure SR (n : Nat) (U : List Str) (s : Nat) (c : Core) : Prop where
 q : fE (QL 403) c
 cw : ∀ E, n * 3 ≤ E → cw j6 E c r0 ≤ 3 + E
 ty : ∀ x ∈ tyR c, x ∈ U
 tl : tlC c ≤ 84000
 sz : 60 * m30 c ≤ 210000000 + s * s + 120 * s
theorem ST.mono {n m : Nat} {U : List Str} {c : Core} (h : ST n U c) (hm : n ≤ m) : ST m U c := ⟨h.q, fun E hE => h.cw E (by omega), h.ty, h.tl, h.sz⟩
theorem ST.cg {n : Nat} {U : List Str} {c : Core} (h : ST n U c) (hn : n ≤ 100) (hU : U.length ≤ 480000) : CG 400 650000 403 c := by
 refine ⟨h.q, ?_, ?_, le_trans h.sz (by decide)⟩
 ·have := h.cw (n * 3) (le_refl _);have := rT (A := j6) (E := 0) (E' := n * 3) (zero_le _) (c := c) (ρ := r0) (ρ' := r0) (fun _ => le_refl _);omega
 ·have := dL h.ty;have := h.tl;omega
theorem ar0 {s : Nat} (h : s ≤ 3500000) : s * s ≤ 12250000000000 := le_trans (Nat.mul_le_mul h h) (by decide)
theorem SR.big {n s : Nat} {U : List Str} {c : Core} (h : SR n U s c) (hs : s ≤ 3500000) : m30 c ≤ Big := by
 have := ar0 hs;have := h.sz;have : Big = 250000000000 := rfl;omega
theorem SR.cg {n s : Nat} {U : List Str} {c : Core} (h : SR n U s c) (hn : n ≤ 100) (hs : s ≤ 3500000) (hU : U.length ≤ 480000) : CG 400 650000 403 c := by
 refine ⟨h.q, ?_, ?_, h.big hs⟩
 ·have := h.cw (n * 3) (le_refl _);have := rT (A := j6) (E := 0) (E' := n * 3) (zero_le _) (c := c) (ρ := r0) (ρ' := r0) (fun _ => le_refl _);omega
 ·have := dL h.ty;have := h.tl;omega
section
variable {n : Nat} {U : List Str} {f i : Int} {s : Str} {t : Ty} {ks : List Core} {bs : List Bind} {al : List Alt}
theorem ST.kid (h : ST n U (.mk f i s t ks bs al)) (h7 : ¬ f = 7) {x : Core} (hx : x ∈ ks) : ST n U x := by
 refine ⟨(bC.1 h.q).2.1 x hx, fun E hE => ?_, fun y hy => h.ty y (bL.2 (.inr (.inl ⟨x, hx, hy, .inl h7⟩))), ?_, ?_⟩
 ·have := (fU.1 (h.cw E hE)).2.2.1 x hx;rwa [if_neg h7] at this
 ·have := (k8 (f := f) (n := i) (s := s) (t := t) (ks := ks) (bs := bs) (al := al)).1 x hx;have := h.tl;omega
 ·have := hY hx;have := h.sz;rw [m30] at this;omega
theorem ST.tkid (h : ST n U (.mk 7 i s t ks bs al)) {x : Core} (hx : x ∈ ks) : ST n (s :: U) x ∧ tlC x + 1 ≤ tlC (.mk 7 i s t ks bs al) ∧ m30 x < m30 (.mk 7 i s t ks bs al) := by
 have h1 := (k8 (f := 7) (n := i) (s := s) (t := t) (ks := ks) (bs := bs) (al := al)).1 x hx;rw [if_pos rfl] at h1;have h2 := hY hx;have h3 := h.tl;have h4 := h.sz;refine ⟨⟨(bC.1 h.q).2.1 x hx, fun E hE => ?_, fun y hy => ?_, by omega, ?_⟩, h1, ?_⟩
 ·have := (fU.1 (h.cw E hE)).2.2.1 x hx;rw [if_pos rfl] at this;exact le_trans (rT (le_refl _) fun y => zero_le _) this
 ·by_cases e : y = s
  ·rw [e]; exact mem_cons_self
  ·exact mem_cons_of_mem _ (h.ty y (bL.2 (.inr (.inl ⟨x, hx, hy, .inr e⟩))))
 ·rw [m30] at h4; omega
 ·rw [m30]; omega
theorem ST.bind (h : ST n U (.mk f i s t ks bs al)) {x : Bind} (hx : x ∈ bs) : ST n U x.body := by
 refine ⟨(bC.1 h.q).2.2.1 x hx, fun E hE => ((fU.1 (h.cw E hE)).2.2.2.1 x hx).2, fun y hy => h.ty y (bL.2 (.inr (.inr (.inl ⟨x, hx, .inr hy⟩)))), ?_, ?_⟩
 ·have := (k8 (f := f) (n := i) (s := s) (t := t) (ks := ks) (bs := bs) (al := al)).2.1 x hx;have := h.tl;omega
 ·have := nK hx;have := h.sz;rw [m30] at this;omega
theorem ST.alt (h : ST n U (.mk f i s t ks bs al)) {x : Alt} (hx : x ∈ al) : ST n U x.body := by
 refine ⟨(bC.1 h.q).2.2.2 x hx, fun E hE => (fU.1 (h.cw E hE)).2.2.2.2 x hx, fun y hy => h.ty y (bL.2 (.inr (.inr (.inr ⟨x, hx, hy⟩)))), ?_, ?_⟩
 ·have := (k8 (f := f) (n := i) (s := s) (t := t) (ks := ks) (bs := bs) (al := al)).2.2 x hx;have := h.tl;omega
 ·have := iX hx;have := h.sz;rw [m30] at this;omega
theorem aB9 (hf : okF f 0 0 0 = true) (h7 : ¬ f = 7) (h5 : ¬ f = 5) (hs : s.length ≤ 30) : fE (QL 403) (.mk f i s zTy [] [] []) := by
 have hw : w30 s = 30 := by unfold w30; omega
 exact bC.2 ⟨⟨hf, fun h => absurd h h7, rfl, by simp, by unfold lw; rw [hw]; decide, fun h => absurd h h5, by simp, by simp⟩, by simp, by simp, by simp⟩
theorem aB8 {w : Nat} (hf : okF f 0 0 0 = true) (h7 : ¬ f = 7) (h5 : ¬ f = 5) (hs : s.length ≤ 30) : SR n U w (.mk f i s zTy [] [] []) := by
 have hw : w30 s = 30 := by unfold w30; omega
 refine ⟨aB9 hf h7 h5 hs, fun E hE => fU.2 ⟨by rw [dK]; omega, by rw [dZ]; omega, by simp, by simp, by simp⟩, fun y hy => ?_, ?_, ?_⟩
 ·rcases bL.1 hy with h | ⟨x, hx, _⟩ | ⟨x, hx, _⟩ | ⟨x, hx, _⟩
  ·cases h
  ·cases hx
  ·cases hx
  ·cases hx
 ·rw [tlC, jH, pP, pA, if_neg h7]; omega
 ·rw [m30, cZ, fV, hZ, hw]; omega
end
theorem ST.sr {n w : Nat} {U : List Str} {c : Core} (h : ST n U c) : SR n U w c := ⟨h.q, h.cw, h.ty, by have := h.tl; omega, by have := h.sz; omega⟩
theorem aVo {n : Nat} {U : List Str} : ∀ (k : Nat) (c : Core), m30 c ≤ k → ST n U c → ∀ (s : Str) (l : List Core), gvC c = some (s, l) → (∀ x ∈ l, ST n U x) ∧ (l.map m30).sum ≤ m30 c := by
 intro k
 induction k with
 | zero => intro c h; have := fD c; omega
 | succ k ih =>
 intro c h hc s l hg;obtain ⟨f, i, nm, t, ks, bs, al⟩ := c;rw [gvC] at hg;by_cases h2 : f = 2
 ·rw [if_pos h2] at hg;cases hg;exact ⟨by simp, by simp⟩
 rw [if_neg h2] at hg;by_cases h4 : f = 4
 ·rw [if_pos h4] at hg;obtain ⟨⟨a, b, rfl⟩, rfl, rfl⟩ := sB hc.q (.inl h4);have ha := hc.kid (by omega) (x := a) mem_cons_self;have hb := hc.kid (by omega) (x := b) (mem_cons_of_mem _ mem_cons_self);rw [m30, cZ, cZ, cZ] at h ⊢;rw [gvH] at hg;cases hga : gvC a with
  | none => rw [hga] at hg; cases hg
  | some p =>
   rw [hga] at hg;obtain ⟨s1, l1⟩ := p;obtain ⟨g1, g2⟩ := ih a (by omega) ha s1 l1 hga;have hg := Option.some.inj hg;have e : l = l1 ++ [b] := (congrArg Prod.snd hg).symm;rw [e];refine ⟨fun x hx => ?_, ?_⟩
   ·rcases mem_append.1 hx with hx | hx
    ·exact g1 x hx
    ·rw [mem_singleton.1 hx]; exact hb
   ·rw [map_append, List.sum_append];simp only [map_cons, map_nil, sum_cons, sum_nil];omega
 rw [if_neg h4] at hg;by_cases h6 : f = 6
 ·rw [if_pos h6] at hg;obtain ⟨⟨a, rfl⟩, rfl, rfl⟩ := fJ hc.q (.inr (.inl h6));have ha := hc.kid (by omega) (x := a) mem_cons_self;rw [m30, cZ, cZ] at h ⊢;rw [gvH] at hg;obtain ⟨g1, g2⟩ := ih a (by omega) ha s l hg;exact ⟨g1, by omega⟩
 ·rw [if_neg h6] at hg; cases hg
theorem aUc {a b s : Nat} (h : a + b ≤ s) : a * a + 2 * (a * b) + b * b ≤ s * s := by
 have h1 := Nat.mul_le_mul h h;have h2 : (a + b) * (a + b) = a * a + 2 * (a * b) + b * b := by rw [add_mul, mul_add, mul_add, mul_comm b a]; omega
 omega
theorem aZb (a b : Nat) : 2 * (a * b) ≤ a * a + b * b := by
 rcases Nat.le_total a b with h | h
 ·obtain ⟨d, rfl⟩ := Nat.exists_eq_add_of_le h;have e1 : a * (a + d) = a * a + a * d := mul_add ..;have e2 : (a + d) * (a + d) = a * a + a * d + (a * d + d * d) := by rw [add_mul, mul_add, mul_add, mul_comm d a]
  omega
 ·obtain ⟨d, rfl⟩ := Nat.exists_eq_add_of_le h;have e1 : (b + d) * b = b * b + b * d := by rw [add_mul, mul_comm d b]
  have e2 : (b + d) * (b + d) = b * b + b * d + (b * d + d * d) := by rw [add_mul, mul_add, mul_add, mul_comm d b]
  omega
theorem ar1 {a b s : Nat} (h : a + b ≤ s) : 60 * (a * (b / 31 + 1)) ≤ s * s + 120 * s := by
 have h1 := aUc h;have h2 : a * (60 * (b / 31 + 1)) ≤ a * (2 * b + 60) := mul_le_mul_left _ (by omega);have e1 : a * (60 * (b / 31 + 1)) = 60 * (a * (b / 31 + 1)) := by rw [mul_left_comm]
 have e2 : a * (2 * b + 60) = 2 * (a * b) + a * 60 := by rw [mul_add, mul_left_comm]
 omega
theorem ar2 {a b s : Nat} (h : a + b ≤ s) : 60 * (a * (b / 15 + 2)) ≤ s * s + 120 * s := by
 have h1 := aUc h;have h3 := aZb a b;have h2 : a * (60 * (b / 15 + 2)) ≤ a * (4 * b + 120) := mul_le_mul_left _ (by omega);have e1 : a * (60 * (b / 15 + 2)) = 60 * (a * (b / 15 + 2)) := by rw [mul_left_comm]
 have e2 : a * (4 * b + 120) = 4 * (a * b) + a * 120 := by rw [mul_add, mul_left_comm]
 omega
theorem ar3 {s v : Nat} (hs : s ≤ 3500000) (h : 60 * v ≤ s * s + 120 * s) : v ≤ Big := by
 have := ar0 hs;have : Big = 250000000000 := rfl;omega
theorem ar4 {x m r C : Nat} (hx : x ≤ m) (h : 60 * r ≤ C + x * x + 120 * x) : 60 * (m - x + r) ≤ C + m * m + 120 * m := by
 have := Nat.mul_le_mul hx hx;omega
theorem aDa {α : Type} {g : α → Nat} : ∀ {l : List α} {x : α}, x ∈ l → g x ≤ (l.map g).sum
 | y :: l, x, h => by
  rw [map_cons, sum_cons];rcases mem_cons.1 h with e | h
  ·rw [e]; omega
  ·have := aDa (g := g) h; omega
theorem k9 {α : Type} {g : α → Nat} {K : Nat} : ∀ {l : List α}, (∀ x ∈ l, g x ≤ K) → (l.map g).sum ≤ l.length * K
 | [], _ => by simp
 | y :: l, h => by
  rw [map_cons, sum_cons, length_cons, Nat.succ_mul];have := h y mem_cons_self;have := k9 (l := l) fun x hx => h x (mem_cons_of_mem _ hx)
  omega
theorem aUb : ∀ bh : List (Str × Ty), 31 * bh.length ≤ (bh.map fun p => 1 + w30 p.1).sum
 | [] => le_refl _
 | p :: l => by simp only [map_cons, sum_cons, length_cons]; have := aUb l; have := mB p.1; omega
theorem aY6 {s : Str} {bh : List (Str × Ty)} {ah : List (Str × List Str)} (h : lw s bh ah ≤ 403) : bh.length ≤ 12 := by
 unfold lw at h;have := aUb bh;have := mB s;omega
theorem aY7 {s : Str} {bh : List (Str × Ty)} {ah : List (Str × List Str)} (h : lw s bh ah ≤ 403) {p : Str × List Str} (hp : p ∈ ah) : p.2.length ≤ 12 := by
 unfold lw at h;have h1 := aDa (g := fun p : Str × List Str => 1 + w30 p.1 + (p.2.map fun v => 1 + w30 v).sum) hp;have h2 := vE p.2;have := mB s;omega
section
variable {n : Nat} {U : List Str}
theorem aQ2 (hI : dP 540000000000) (hn : n ≤ 99) (hU : U.length ≤ 480000) {body a : Core} {nm : Str} {s : Nat} (h1 : ST n U body) (h2 : ST n U a) (hs : m30 body + m30 a ≤ s) :
  TB 403 body nm a (eY (m30 body) body nm a) ∧ SR (n + 1) U s (eY (m30 body) body nm a) := by
 have hT := z8 hI (D := 400) (M := 650000) (X := 403) (by decide) (by decide) (m30 body) body (le_refl _) (h1.cg (by omega) hU) nm a (h2.cg (by omega) hU);refine ⟨hT, hT.rx.q, fun E hE => ?_, fun x hx => (hT.rx.ty x hx).elim (h1.ty x) (h2.ty x), ?_, ?_⟩
 ·have := hT.rx.cw j6 E r0;have := h1.cw E (by omega);have := h2.cw E (by omega);omega
 ·have := hT.rx.tl;have := h1.tl;have := h2.tl;omega
 ·have := hT.sz (m30 a / 31 + 1) (by omega) (by omega);have := ar1 hs;omega
theorem aL5 (hI : dP 540000000000) (hn : n ≤ 99) (hU : U.length ≤ 480000) {i i' : Int} {s nm : Str} {u t' : Ty} {body : Core} {bs : List Bind} {al : List Alt}
  (h : ST n U (.mk 6 i s u [.mk 7 i' nm t' [body] [] []] bs al)) {w : Nat} :
  SB 403 body nm u (sTR (m30 body) body nm u) ∧ SR (n + 1) U w (sTR (m30 body) body nm u) := by
 have hh := h.kid (by decide) (x := .mk 7 i' nm t' [body] [] []) mem_cons_self;obtain ⟨hb, _, _⟩ := hh.tkid (x := body) mem_cons_self;have hcg := h.cg (by omega) hU;have hcb := ((hh.cg (by omega) hU).kid (x := body) mem_cons_self).1
 obtain ⟨w1, w2, _⟩ := hcg.ty;have hu : UOk u := ⟨w1, by omega⟩
 have hS := aBw hI (by decide) (m30 body) body (le_refl _) hcb nm u hu;refine ⟨hS, hS.q, fun E hE => ?_, fun x hx => ?_, ?_, ?_⟩
 ·have h1 := hS.cw j6 E r0;have h2 := (fU.1 (h.cw (n * 3) (le_refl _))).2.1
  have h3 := (fU.1 (hh.cw E (by omega))).2.2.1 body mem_cons_self;rw [if_pos rfl] at h3;refine le_trans h1 (le_trans (rT (le_refl _) fun x => ?_) h3);unfold fO;split
  ·omega
  ·exact le_refl _
 ·rcases aUd hI (by decide) (m30 body) body (le_refl _) hcb nm u hu x hx with ⟨h1, h2⟩ | h1
  ·exact (mem_cons.1 (hb.ty x h1)).resolve_left h2
  ·exact h.ty x (bL.2 (.inl h1))
 ·have := hS.tl;have := hb.tl;omega
 ·have := hS.sz;have := hb.sz;omega
theorem aQ0 {B s : Nat} {c r : Core} {l : List Core} (hc : ST n U c) (hl : ∀ b ∈ l, (∀ E, n * 3 ≤ E → cw j6 E b r0 ≤ 3 + E) ∧ (∀ x ∈ tyR b, x ∈ U) ∧ tlC b ≤ 6000) (h12 : l.length ≤ 12) (hB : 60 * (m30 c * B) ≤ s * s + 120 * s) (h : PR 403 B c l r) : SR (n + 1) U s r := by
 refine ⟨h.q, fun E hE => h.cw j6 E r0 _ (hc.cw E (by omega)) fun b hb => (hl b hb).1 E (by omega), fun x hx => ?_, ?_, ?_⟩
 ·rcases h.ty x hx with h | ⟨b, hb, h⟩
  ·exact hc.ty x h
  ·exact (hl b hb).2.1 x h
 ·have h1 := h.tl;have h2 := k9 (g := tlC) (K := 6000) (l := l) fun b hb => (hl b hb).2.2
  have h3 := hc.tl;have h4 : l.length * 6000 ≤ 12 * 6000 := mul_le_mul_right _ h12;omega
 ·have := h.sz;omega
theorem aWz {B s : Nat} {c : Core} {l : List Core} (hn : n ≤ 99) (hU : U.length ≤ 480000) (hc : ST n U c) (hl : ∀ b ∈ l, (∀ E, n * 3 ≤ E → cw j6 E b r0 ≤ 3 + E) ∧ (∀ x ∈ tyR b, x ∈ U) ∧ tlC b ≤ 6000) (h12 : l.length ≤ 12) (hs : s ≤ 3500000) (hB1 : 1 ≤ B) (hB : 60 * (m30 c * B) ≤ s * s + 120 * s)
  (hq : ∀ b ∈ l, fE (QL 403) b) (hbs : ∀ b ∈ l, m30 b ≤ 31 * B) (hbm : ∀ b ∈ l, m30 b ≤ 10000000) : PO 400 650000 403 B c l := by
 refine ⟨hc.q, (hc.cg (by omega) hU).dep, hq, fun b hb => ?_, ⟨U, ?_, hc.ty, fun b hb => (hl b hb).2.1⟩, hB1, hbs, ar3 hs hB, ?_⟩
 ·have := (hl b hb).1 (n * 3) (le_refl _)
  have := rT (A := j6) (E := 0) (E' := n * 3) (zero_le _) (c := b) (ρ := r0) (ρ' := r0) (fun _ => le_refl _);omega
 ·have h2 := k9 (g := tlC) (K := 6000) (l := l) fun b hb => (hl b hb).2.2
  have h3 := hc.tl;have h4 : l.length * 6000 ≤ 12 * 6000 := mul_le_mul_right _ h12;omega
 ·have h2 := k9 (g := m30) (K := 10000000) (l := l) hbm;have h4 : l.length * 10000000 ≤ 12 * 10000000 := mul_le_mul_right _ h12;have : Big = 250000000000 := rfl;omega
theorem aR2 {i : Int} {s : Str} {t : Ty} {ks : List Core} {bs : List Bind} {al : List Alt} (h : ST n U (.mk 8 i s t ks bs al)) {b : Bind} (hb : b ∈ bs) :
  fE (QL 403) (lX bs b) ∧ ((∀ E, n * 3 ≤ E → cw j6 E (lX bs b) r0 ≤ 3 + E) ∧ (∀ x ∈ tyR (lX bs b), x ∈ U) ∧ tlC (lX bs b) ≤ 6000) ∧ m30 (lX bs b) ≤ 31 * (fV bs / 15 + 2) ∧ m30 (lX bs b) ≤ 10000000 := by
 have hbb := h.bind hb;obtain ⟨⟨g1, g2, g3, g4, g5, g6, g7, g8⟩, _, q3, _⟩ := bC.1 h.q;have hs := h.sz;rw [m30] at hs;have hm := nK hb;have hw0 : w30 ([] : Str) = 30 := rfl;have em : m30 (lX bs b) = 31 + m30 b.body + fV bs := by
  unfold lX;rw [m30, cZ, cZ, hZ, hw0]; omega
 have hm31 : m30 b.body + 31 ≤ fV bs := by
  have h1 := w8 bs;have h2 : m30 b.body ≤ cZ (bs.map Bind.body) := hY (mem_map.2 ⟨b, hb, rfl⟩);have h3 : 1 ≤ bs.length := List.length_pos_of_mem hb;omega
 refine ⟨?_, ⟨fun E hE => ?_, fun x hx => ?_, ?_⟩, by omega, by omega⟩
 ·unfold lX;refine bC.2 ⟨⟨by simp [okF], fun e => absurd e (by decide), rfl, g4, ?_, fun e => absurd e (by decide), g7, by simp⟩, by simpa using hbb.q, q3, by simp⟩;unfold lw at g5 ⊢;rw [hw0];have := mB s;simp only [map_nil, sum_nil];omega
 ·unfold lX;have g := fU.1 (h.cw E hE);refine fU.2 ⟨g.1, by rw [dZ]; omega, fun x hx => ?_, g.2.2.2.1, by simp⟩;rw [mem_singleton.1 hx, if_neg (by decide)];exact hbb.cw E hE
 ·unfold lX at hx;rcases bL.1 hx with h1 | ⟨y, hy, h1, _⟩ | ⟨y, hy, h1⟩ | ⟨y, hy, _⟩
  ·cases h1
  ·rw [mem_singleton.1 hy] at h1; exact hbb.ty x h1
  ·exact h.ty x (bL.2 (.inr (.inr (.inl ⟨y, hy, h1⟩))))
  ·cases hy
 ·unfold lX;have g := k8 (f := 8) (n := i) (s := s) (t := t) (ks := ks) (bs := bs) (al := al);have ht := h.tl;have := (xO (K := 6000) (f := 8) (n := 0) (s := []) (t := zTy) (ks := [b.body]) (bs := bs) (al := [])).2 ⟨fun x hx => by rw [mem_singleton.1 hx]; exact hbb.tl, fun x hx => le_trans (g.2.1 x hx) ht, by simp⟩
  rwa [if_neg (by decide), zero_add] at this
theorem aFk {i : Int} {s : Str} {t : Ty} {ks : List Core} {bs : List Bind} {al : List Alt} (h : fE (QL 403) (.mk 8 i s t ks bs al)) : (∃ a, ks = [a]) ∧ al = [] ∧ bs.length ≤ 12 := by
 obtain ⟨⟨h1, _, _, _, h5, _⟩, _⟩ := bC.1 h;have h6 := aY6 h5;rw [length_map] at h6;unfold okF at h1;rw [if_neg (by decide), if_neg (by decide), if_pos rfl] at h1;obtain ⟨g1, g2⟩ := of_decide_eq_true h1;rw [length_map] at g2;exact ⟨length_eq_one_iff.1 g1, length_eq_zero_iff.1 g2, h6⟩
theorem aPf : ∀ l : List (Str × List Str), 31 * l.length ≤ (l.map fun p => 1 + w30 p.1 + (p.2.map fun v => 1 + w30 v).sum).sum
 | [] => by simp
 | p :: l => by
  have h1 := aPf l;have h2 := mB p.1;rw [map_cons, sum_cons, length_cons];omega
theorem aMa {i : Int} {s : Str} {t : Ty} {ks : List Core} {bs : List Bind} {al : List Alt} (h : fE (QL 403) (.mk 9 i s t ks bs al)) : (∃ a, ks = [a]) ∧ bs = [] ∧ al.length ≤ 12 ∧ ∀ a ∈ al, a.vars.length ≤ 12 := by
 obtain ⟨⟨h1, _, _, _, h5, _⟩, _⟩ := bC.1 h;unfold okF at h1;rw [if_neg (by decide), if_neg (by decide), if_neg (by decide), if_pos rfl] at h1;obtain ⟨g1, g2⟩ := of_decide_eq_true h1;rw [length_map] at g2;refine ⟨length_eq_one_iff.1 g1, length_eq_zero_iff.1 g2, ?_, fun a ha => aY7 h5 (mem_map.2 ⟨a, ha, rfl⟩)⟩;unfold lw at h5;have h6 := aPf (al.map ahd);rw [length_map] at h6;have := mB s;omega
theorem aQ1 (hn : n ≤ 99) (hU : U.length ≤ 480000) {i : Int} {s : Str} {t : Ty} {a : Core} {bs : List Bind} (h : ST n U (.mk 8 i s t [a] bs [])) :
  PO 400 650000 403 (fV bs / 15 + 2) a (bs.map (lX bs)) ∧ (PR 403 (fV bs / 15 + 2) a (bs.map (lX bs)) (aBb a (bs.map Bind.name) (bs.map (lX bs))) → SR (n + 1) U (m30 (.mk 8 i s t [a] bs [])) (aBb a (bs.map Bind.name) (bs.map (lX bs)))) := by
 have ha := h.kid (by decide) (x := a) mem_cons_self;have h12 : (bs.map (lX bs)).length ≤ 12 := by rw [length_map]; exact (aFk h.q).2.2
 have hl : ∀ b ∈ bs.map (lX bs), fE (QL 403) b ∧ ((∀ E, n * 3 ≤ E → cw j6 E b r0 ≤ 3 + E) ∧ (∀ x ∈ tyR b, x ∈ U) ∧ tlC b ≤ 6000) ∧ m30 b ≤ 31 * (fV bs / 15 + 2) ∧ m30 b ≤ 10000000 := fun b hb => by
  obtain ⟨b0, hb0, rfl⟩ := mem_map.1 hb;exact aR2 h hb0
 have hB := ar2 (a := m30 a) (b := fV bs) (s := m30 (.mk 8 i s t [a] bs [])) (by rw [m30, cZ, cZ]; omega);exact ⟨aWz hn hU ha (fun b hb => (hl b hb).2.1) h12 h.sz (by omega) hB (fun b hb => (hl b hb).1) (fun b hb => (hl b hb).2.2.1) (fun b hb => (hl b hb).2.2.2), aQ0 ha (fun b hb => (hl b hb).2.1) h12 hB⟩
theorem aL6 (hn : n ≤ 99) (hU : U.length ≤ 480000) {a : Alt} {c : Core} {s : Nat} (hs : m30 a.body + m30 c ≤ s) (hs1 : s ≤ 3500000) (ha : ST n U a.body) (hc : ST n U c) (hv : a.vars.length ≤ 12) {nm : Str} {l : List Core} (hg : gvC c = some (nm, l)) (hl : l.length = a.vars.length) :
  PO 400 650000 403 (m30 c / 31 + 1) a.body l ∧ (PR 403 (m30 c / 31 + 1) a.body l (aBb a.body a.vars l) → SR (n + 1) U s (aBb a.body a.vars l)) := by
 obtain ⟨g1, g2⟩ := aVo _ c (le_refl _) hc nm l hg;have hm : ∀ b ∈ l, m30 b ≤ m30 c := fun b hb => le_trans (vD hb) g2
 have hl' : ∀ b ∈ l, (∀ E, n * 3 ≤ E → cw j6 E b r0 ≤ 3 + E) ∧ (∀ x ∈ tyR b, x ∈ U) ∧ tlC b ≤ 6000 := fun b hb => ⟨(g1 b hb).cw, (g1 b hb).ty, (g1 b hb).tl⟩
 have hB := ar1 hs;exact ⟨aWz hn hU ha hl' (by omega) hs1 (by omega) hB (fun b hb => (g1 b hb).q) (fun b hb => by have := hm b hb; omega) (fun b hb => by have := hm b hb; omega), aQ0 ha hl' (by omega) hB⟩
theorem aD9 {x r : Core} : ∀ {ks : List Core} {j : Nat}, ks[j]? = some x → cZ (ks.set j r) + m30 x = cZ ks + m30 r
 | y :: ks, 0, h => by
  have e : y = x := by simpa using h
  subst e;rw [List.set_cons_zero, cZ, cZ]; omega
 | y :: ks, j + 1, h => by
  rw [set_cons_succ, cZ, cZ];have := aD9 (r := r) (ks := ks) (j := j) (by simpa using h);omega
theorem aWy {f i : Int} {s : Str} {t : Ty} {ks : List Core} {bs : List Bind} {al : List Alt} (h7 : ¬ f = 7) (h : ST n U (.mk f i s t ks bs al)) {j : Nat} {x r : Core} (hx : ks[j]? = some x) (hr : SR (n + 1) U (m30 x) r) :
  SR (n + 1) U (m30 (.mk f i s t ks bs al)) (aMf (.mk f i s t ks bs al) j r) := by
 have hxm := List.mem_of_getElem? hx;have hin : ∀ y ∈ ks.set j r, y = r ∨ y ∈ ks := fun y hy => (List.mem_or_eq_of_mem_set hy).symm
 obtain ⟨g1, g2, g3, g4⟩ := bC.1 h.q;unfold aMf;refine ⟨bC.2 ⟨by rw [length_set]; exact g1, fun y hy => ?_, g3, g4⟩, fun E hE => ?_, fun y hy => ?_, ?_, ?_⟩
 ·rcases hin y hy with rfl | hy
  ·exact hr.q
  ·exact g2 y hy
 ·obtain ⟨c1, c2, c3, c4, c5⟩ := fU.1 (h.cw E (by omega));refine fU.2 ⟨c1, c2, fun y hy => ?_, c4, c5⟩;rcases hin y hy with rfl | hy
  ·rw [if_neg h7]; exact hr.cw E hE
  ·exact c3 y hy
 ·rcases bL.1 hy with h1 | ⟨z, hz, h1, _⟩ | h1
  ·exact h.ty y (bL.2 (.inl h1))
  ·rcases hin z hz with rfl | hz
   ·exact hr.ty y h1
   ·exact h.ty y (bL.2 (.inr (.inl ⟨z, hz, h1, .inl h7⟩)))
  ·exact h.ty y (bL.2 (.inr (.inr h1)))
 ·have g := k8 (f := f) (n := i) (s := s) (t := t) (ks := ks) (bs := bs) (al := al);have ht := h.tl;have := (xO (K := 84000) (f := f) (n := i) (s := s) (t := t) (ks := ks.set j r) (bs := bs) (al := al)).2 ⟨fun y hy => ?_, fun y hy => by have := g.2.1 y hy; omega, fun y hy => by have := g.2.2 y hy; omega⟩
  ·rwa [if_neg h7, zero_add] at this
  ·rcases hin y hy with rfl | hy
   ·exact hr.tl
   ·have := g.1 y hy; omega
 ·have g1 := aD9 (r := r) hx;have g2 := hY hxm;have e : m30 (.mk f i s t (ks.set j r) bs al) = m30 (.mk f i s t ks bs al) - m30 x + m30 r := by
   rw [m30, m30]; omega
  rw [e];exact ar4 (by rw [m30]; omega) hr.sz
end
theorem vG {bd : List Bind} {k : Nat} {f i : Int} {s : Str} {t : Ty} {ks : List Core} {bs : List Bind} {al : List Alt} : eI bd (k + 1) (.mk f i s t ks bs al) =
  if f = 1 then (match bd.find? fun b => decide (b.name = s) with | some b => (b.body, 0) | none => (zC, 51))
  else if f = 4 ∨ f = 6 then
   (if f = 4 ∧ (ks.headD zC).form = 5 then (eY (m30 ((ks.headD zC).kids.headD zC)) ((ks.headD zC).kids.headD zC) (ks.headD zC).name (ks.getD 1 zC), 0)
   else if f = 6 ∧ (ks.headD zC).form = 7 then (sTR (m30 ((ks.headD zC).kids.headD zC)) ((ks.headD zC).kids.headD zC) (ks.headD zC).name t, 0)
   else aAi (eI bd k) (.mk f i s t ks bs al) 0)
  else if f = 8 then (aBb (ks.headD zC) (bs.map Bind.name) (bs.map (lX bs)), 0)
  else if f = 9 then (if shC (ks.headD zC) = true then (match al.findSome? fun a => mE a (ks.headD zC) with | some r => (r, 0) | none => (zC, 52)) else aAi (eI bd k) (.mk f i s t ks bs al) 0)
  else if f = 10 then
   (if ¬ shC (ks.headD zC) = true then aAi (eI bd k) (.mk f i s t ks bs al) 0
   else if ¬ shC (ks.getD 1 zC) = true then aAi (eI bd k) (.mk f i s t ks bs al) 1
   else if (ks.headD zC).form = 3 ∧ (ks.getD 1 zC).form = 3 then r8 s (ks.headD zC).n (ks.getD 1 zC).n
   else (zC, 51))
  else if f = 11 then (zC, 52)
  else (zC, 51) := by rw [eI]; rfl
structure BI (U : List Str) (bd : List Bind) : Prop where
 len : bd.length ≤ 1000
 all : ∀ b ∈ bd, ST 0 U b.body
theorem aTc {n w : Nat} {U : List Str} {s : Str} {a b : Int} (h : (r8 s a b).2 = 0) : SR n U w (r8 s a b).1 := by
 have hi : ∀ m, SR n U w (jI m) := fun m => aB8 (by decide) (by decide) (by decide) (by decide)
 have ht : ∀ c, SR n U w (aTf c) := fun c => by cases c <;> exact aB8 (by decide) (by decide) (by decide) (by decide)
 unfold r8 at h ⊢;by_cases h1 : s = aD0
 ·rw [if_pos h1]; exact hi _
 rw [if_neg h1] at h ⊢;by_cases h1 : s = aW6
 ·rw [if_pos h1]; exact hi _
 rw [if_neg h1] at h ⊢;by_cases h1 : s = aU9
 ·rw [if_pos h1]; exact hi _
 rw [if_neg h1] at h ⊢;by_cases h1 : s = aPq
 ·rw [if_pos h1] at h ⊢;by_cases h0 : b = 0
  ·rw [if_pos h0] at h; cases h
  ·rw [if_neg h0]; exact hi _
 rw [if_neg h1] at h ⊢;by_cases h1 : s = nEq
 ·rw [if_pos h1]; exact ht _
 rw [if_neg h1] at h ⊢;by_cases h1 : s = nLt
 ·rw [if_pos h1]; exact ht _
 ·rw [if_neg h1] at h; cases h
theorem aNv {sh : Bool} {p : CE} {g : Core → Core} (h : (aMg sh p g).2 = 0) : sh = false ∧ p.2 = 0 ∧ (aMg sh p g).1 = g p.1 := by
 unfold aMg at h ⊢;cases sh with
 | true => cases h
 | false =>
  rw [if_neg Bool.false_ne_true] at h ⊢;by_cases h0 : p.2 = 0
  ·rw [if_pos h0]; exact ⟨rfl, h0, rfl⟩
  ·rw [if_neg h0] at h; exact absurd h h0
theorem vF (hI : dP 540000000000) {n : Nat} {U : List Str} (hn : n ≤ 99) (hU : U.length ≤ 480000) {bd : List Bind} (hB : BI U bd) : ∀ (k : Nat) (c : Core), m30 c ≤ k → ST n U c → (eI bd k c).2 = 0 → SR (n + 1) U (m30 c) (eI bd k c).1 := by
 intro k
 induction k with
 | zero => intro c h; have := fD c; omega
 | succ k ih =>
 intro c h hc he;obtain ⟨f, i, s, t, ks, bs, al⟩ := c;have hkid : ∀ j, ¬ f = 7 → (aAi (eI bd k) (.mk f i s t ks bs al) j).2 = 0 → SR (n + 1) U (m30 (.mk f i s t ks bs al)) (aAi (eI bd k) (.mk f i s t ks bs al) j).1 := fun j h7 he => by
  unfold aAi at he ⊢;cases hx : ks[j]? with
  | none =>
   have hx' : (Core.mk f i s t ks bs al).kids[j]? = none := hx;rw [hx'] at he; cases he
  | some x =>
   have hx' : (Core.mk f i s t ks bs al).kids[j]? = some x := hx;rw [hx'] at he ⊢;dsimp only at he ⊢;obtain ⟨_, e2, e3⟩ := aNv he;rw [e3];have hxm := List.mem_of_getElem? hx;exact aWy h7 hc hx (ih x (by have := hY hxm; rw [m30] at h; omega) (hc.kid h7 hxm) e2)
 rw [vG] at he ⊢;by_cases h1 : f = 1
 ·rw [if_pos h1] at he ⊢;cases hf : bd.find? fun b => decide (b.name = s) with
  | none => rw [hf] at he; cases he
  | some b => exact ((hB.all b (List.mem_of_find?_eq_some hf)).mono (zero_le _)).sr
 rw [if_neg h1] at he ⊢;by_cases h46 : f = 4 ∨ f = 6
 ·rw [if_pos h46] at he ⊢;by_cases ha : f = 4 ∧ (ks.headD zC).form = 5
  ·rw [if_pos ha];obtain ⟨rfl, ha⟩ := ha;obtain ⟨⟨a, b, rfl⟩, rfl, rfl⟩ := sB hc.q (.inl rfl);have ka := hc.kid (by decide) (x := a) mem_cons_self;have kb := hc.kid (by decide) (x := b) (mem_cons_of_mem _ mem_cons_self);obtain ⟨f', i', s', t', ks', bs', al'⟩ := a;have ha : f' = 5 := ha;subst ha;obtain ⟨⟨body, rfl⟩, rfl, rfl⟩ := fJ ka.q (.inl rfl);exact (aQ2 hI hn hU (ka.kid (by decide) (x := body) mem_cons_self) kb (by rw [m30, cZ, cZ, cZ, m30, cZ, cZ]; omega)).2
  rw [if_neg ha] at he ⊢;by_cases hb : f = 6 ∧ (ks.headD zC).form = 7
  ·rw [if_pos hb];obtain ⟨rfl, hb⟩ := hb;obtain ⟨⟨a, rfl⟩, rfl, rfl⟩ := fJ hc.q (.inr (.inl rfl));have ka := hc.kid (by decide) (x := a) mem_cons_self;obtain ⟨f', i', s', t', ks', bs', al'⟩ := a;have hb : f' = 7 := hb;subst hb;obtain ⟨⟨body, rfl⟩, rfl, rfl⟩ := fJ ka.q (.inr (.inr rfl));exact (aL5 hI hn hU hc).2
  rw [if_neg hb] at he ⊢;exact hkid 0 (by omega) he
 rw [if_neg h46] at he ⊢;by_cases h8 : f = 8
 ·rw [if_pos h8];subst h8;obtain ⟨⟨a, rfl⟩, rfl, h12⟩ := aFk hc.q;obtain ⟨g1, g2⟩ := aQ1 hn hU hc;exact g2 (aOh hI (by decide) (by decide) a _ _ (by rw [length_map, length_map]) (by rw [length_map]; omega) g1).2
 rw [if_neg h8] at he ⊢;by_cases h9 : f = 9
 ·rw [if_pos h9] at he ⊢;subst h9;obtain ⟨⟨a, rfl⟩, rfl, h12, hv⟩ := aMa hc.q;cases hsh : shC a with
  | true =>
   have e : shC ([a].headD zC) = true := hsh;rw [if_pos e] at he ⊢;have ka := hc.kid (by decide) (x := a) mem_cons_self;cases hfs : al.findSome? fun x => mE x ([a].headD zC) with
   | none => rw [hfs] at he; cases he
   | some r =>
    obtain ⟨x, hx, hxr⟩ := List.exists_of_findSome?_eq_some hfs;have kx := hc.alt hx;have hxr : mE x a = some r := hxr;have hm := iX hx;have hsz := hc.sz;show SR (n + 1) U _ r;unfold mE at hxr;by_cases e1 : x.form = 3
    ·rw [if_pos e1] at hxr; cases hxr; exact (kx.mono (le_succ _)).sr
    rw [if_neg e1] at hxr;by_cases e2 : x.form = 2
    ·rw [if_pos e2] at hxr;by_cases e3 : a.form = 3 ∧ a.n = x.n
     ·rw [if_pos e3] at hxr; cases hxr; exact (kx.mono (le_succ _)).sr
     ·rw [if_neg e3] at hxr; cases hxr
    rw [if_neg e2] at hxr;cases hg : gvC a with
    | none => rw [hg] at hxr; cases hxr
    | some p =>
     obtain ⟨nm, l⟩ := p;rw [hg] at hxr;dsimp only at hxr;by_cases e3 : nm = x.name ∧ l.length = x.vars.length
     ·rw [if_pos e3] at hxr;cases hxr;obtain ⟨g1, g2⟩ := aL6 hn hU (s := m30 (.mk 9 i s t [a] [] al)) (by rw [m30, cZ, cZ]; omega) hsz kx ka (hv x hx) hg e3.2;exact g2 (aOh hI (by decide) (by decide) x.body _ _ e3.2.symm (by have := hv x hx; omega) g1).2
     ·rw [if_neg e3] at hxr; cases hxr
  | false =>
   have e : ¬ shC ([a].headD zC) = true := by rw [show shC ([a].headD zC) = shC a from rfl, hsh]; decide
   rw [if_neg e] at he ⊢;exact hkid 0 (by decide) he
 rw [if_neg h9] at he ⊢;by_cases h10 : f = 10
 ·rw [if_pos h10] at he ⊢;by_cases g1 : ¬ shC (ks.headD zC) = true
  ·rw [if_pos g1] at he ⊢; exact hkid 0 (by omega) he
  rw [if_neg g1] at he ⊢;by_cases g2 : ¬ shC (ks.getD 1 zC) = true
  ·rw [if_pos g2] at he ⊢; exact hkid 1 (by omega) he
  rw [if_neg g2] at he ⊢;by_cases g3 : (ks.headD zC).form = 3 ∧ (ks.getD 1 zC).form = 3
  ·rw [if_pos g3] at he ⊢; exact aTc he
  ·rw [if_neg g3] at he; cases he
 rw [if_neg h10] at he;by_cases h11 : f = 11
 ·rw [if_pos h11] at he; cases he
 ·rw [if_neg h11] at he; cases he
mutual
theorem nL {X : Nat} : ∀ c : Core, fE (QL X) c → m30 c ≤ X * iG c
 | .mk f n s t ks bs al, h => by
  obtain ⟨⟨_, _, _, _, h5, _⟩, h2, h3, h4⟩ := bC.1 h;have k1 := tV ks h2;have k2 := tX bs h3;have k3 := tY al h4;unfold lw at h5;rw [m30, iG, mul_add, mul_add, mul_add, mul_one];omega
theorem tV {X : Nat} : ∀ l : List Core, (∀ x ∈ l, fE (QL X) x) → cZ l ≤ X * dB l
 | [], _ => by rw [cZ]; exact zero_le _
 | c :: l, h => by
  rw [cZ, dB, mul_add];have := nL c (h c mem_cons_self);have := tV l fun x hx => h x (mem_cons_of_mem _ hx)
  omega
theorem tX {X : Nat} : ∀ l : List Bind, (∀ x ∈ l, fE (QL X) x.body) → fV l ≤ X * jS l + ((l.map bhd).map fun p => 1 + w30 p.1).sum
 | [], _ => by rw [fV]; exact zero_le _
 | .mk s t c :: l, h => by
  rw [fV, jS, mul_add, map_cons, map_cons, sum_cons];have := nL c (h _ mem_cons_self);have := tX l fun x hx => h x (mem_cons_of_mem _ hx)
  show _ ≤ _ + (1 + w30 s + _);omega
theorem tY {X : Nat} : ∀ l : List Alt, (∀ x ∈ l, fE (QL X) x.body) → hZ l ≤ X * jT l + ((l.map ahd).map fun p => 1 + w30 p.1 + (p.2.map fun v => 1 + w30 v).sum).sum
 | [], _ => by rw [hZ]; exact zero_le _
 | .mk f n s v c :: l, h => by
  rw [hZ, jT, mul_add, map_cons, map_cons, sum_cons];have := nL c (h _ mem_cons_self);have := tY l fun x hx => h x (mem_cons_of_mem _ hx)
  show _ ≤ _ + (1 + w30 s + (v.map fun v => 1 + w30 v).sum + _);omega
end
mutual
theorem n6 : ∀ c : Core, tlC c ≤ iG c
 | .mk f n s t ks bs al => by
  have k1 := xL ks;have k2 := xM bs;have k3 := xN al;rw [tlC, iG];split <;> omega
theorem xL : ∀ l : List Core, jH l ≤ dB l
 | [] => by rw [jH]; exact zero_le _
 | c :: l => by rw [jH, dB]; have := n6 c; have := xL l; omega
theorem xM : ∀ l : List Bind, pP l ≤ jS l
 | [] => by rw [pP]; exact zero_le _
 | .mk s t c :: l => by rw [pP, jS]; have := n6 c; have := xM l; omega
theorem xN : ∀ l : List Alt, pA l ≤ jT l
 | [] => by rw [pA]; exact zero_le _
 | .mk f n s v c :: l => by rw [pA, jT]; have := n6 c; have := xN l; omega
end
theorem SR.st {n s : Nat} {U : List Str} {c : Core} (h : SR n U s c) (hs : iG c ≤ 6000) : ST n U c :=
 ⟨h.q, h.cw, h.ty, le_trans (n6 c) hs, by have := nL c h.q; have : 403 * iG c ≤ 403 * 6000 := mul_le_mul_left _ hs; omega⟩
theorem oY {p q : Prop} [Decidable p] [Decidable q] (h : (bif decide p then decide q else false) = true) : p ∧ q := by
 by_cases hp : p
 ·rw [decide_eq_true hp] at h; exact ⟨hp, of_decide_eq_true h⟩
 ·rw [decide_eq_false hp] at h; cases h
theorem RowsLe.snoc {r r' : List C} (h : CsLe r r') : ∀ l : List (List C), RowsLe (l ++ [r]) (l ++ [r'])
 | [] => .cons h .nil
 | x :: l => .cons (CsLe.refl x) (RowsLe.snoc h l)
def aEi {α : Type} (p : α → Bool) : List α → Nat → Int
 | [], _ => -1
 | x :: l, i => if p x = true then (i : Int) else aEi p l (i + 1)
theorem rK {α : Type} (p : α → Bool) : ∀ (l : List α) (i : Nat), (∃ (k : Nat) (x : α), aEi p l i = ((i + k : Nat) : Int) ∧ l[k]? = some x ∧ l.find? p = some x) ∨ (aEi p l i = -1 ∧ l.find? p = none)
 | [], i => .inr ⟨rfl, rfl⟩
 | x :: l, i => by
  rw [aEi, List.find?_cons];cases h : p x with
  | true => rw [if_pos rfl]; exact .inl ⟨0, x, rfl, rfl, rfl⟩
  | false =>
   rw [if_neg Bool.false_ne_true];rcases rK p l (i + 1) with ⟨k, y, h1, h2, h3⟩ | h
   ·exact .inl ⟨k + 1, y, by rw [h1]; congr 1; omega, h2, h3⟩
   ·exact .inr h
theorem aSt (b : Bind) (f n : Int) (s : Str) (t : Ty) (ks : List Core) (bs : List Bind) (al : List Alt) : aV Tryz.prog 160 ([.pa (bA b)] ++ [R.vp 3 0].map V.one) [(3, .var 37 (bD (.mk f n s t ks bs al)))] (B (decide (b.name = s))) [(3, .var 37 (bD (.mk f n s t ks bs al)))] := by
 refine bT (n := 9) tok Tryz.func160 rfl rfl rfl ?_;refine a8 (ag [(0, .id 12)] rfl ?_);refine a8 (ag [] rfl ?_);exact aI rtT
theorem aLa (l : List Bind) (hl : l.length ≤ 1000000000) (f n : Int) (s : Str) (t : Ty) (ks : List Core) (bs : List Bind) (al : List Alt) : aV Tryz.prog 152 [.one (.c (.sl 15 (l.map bA))), .one (.clo 160 [.vp 3 0])] [(3, .var 37 (bD (.mk f n s t ks bs al)))] (I .i64 (aEi (fun b : Bind => decide (b.name = s)) l 0)) [(3, .var 37 (bD (.mk f n s t ks bs al)))] := by
 have hkl : (l.map bA).length = l.length := length_map _;refine bT (n := 19) tok Tryz.func152 rfl rfl rfl ?_;refine a8 (ag [] rfl ?_);refine a8 (a8 (ag [] rfl ?_));refine aC ?_;refine aL (fun i : Nat => mk [(0, .one (.c (.sl 15 (l.map bA)))), (1, .one (.clo 160 [.vp 3 0])), (7, I .i64 ((l.map bA).length : Int)), (8, I .i64 i)] [(3, .var 37 (bD (.mk f n s t ks bs al)))]) (fun i => i ≤ l.length ∧ aEi (fun b : Bind => decide (b.name = s)) l 0 = aEi (fun b : Bind => decide (b.name = s)) (l.drop i) i) (fun i => l.length - i) 0 ⟨zero_le _, rfl⟩ sl ?_;intro i ⟨hi, hid⟩;refine a8 (ag [] rfl ?_);refine a8 (aA rfl (fun hb => ?_) (fun hb => ?_))
 ·have hlt := ltD hb hkl;obtain ⟨b, hbi⟩ := aK hlt;have hbi' := bO bA hbi;have hc := aSt b f n s t ks bs al;have hdr : l.drop i = b :: l.drop (i + 1) := by rw [drop_eq_getElem_cons hlt, (List.getElem?_eq_some_iff.1 hbi).2]
  rw [hdr, aEi] at hid;refine aD ?_;refine a8 (aC (a8 (ag [] rfl ?_)));refine a8 (aE mixed ?_);refine ak 5 [(3, .row i (bA b))] rfl ?_;refine kv (args := [.pa (bA b)]) hc ?_;refine az ?_;refine aA rfl (fun hb => ?_) (fun hb => ?_)
  ·rw [if_pos hb] at hid;rw [hid];refine a8 (ag [] rfl ?_);exact aI rtT
  ·rw [if_neg (by rw [show decide (b.name = s) = false from hb]; exact Bool.false_ne_true)] at hid;refine aD ?_;refine ag [] rfl ?_;exact ⟨i + 1, ⟨hlt, hid⟩, by dsimp only; omega, sl⟩
 have hge := geD hb hkl hi;subst hge;rw [drop_length, aEi] at hid;rw [hid];refine aO ?_;refine a8 (ag [] rfl ?_);exact aI rtT
theorem aSk (m : Mod) (hm : m.binds.length ≤ 1000000000) (f n : Int) (s : Str) (t : Ty) (ks : List Core) (bs : List Bind) (al : List Alt) :
  aV Tryz.prog 98 [.pa (jW m), .pa (aB (.mk f n s t ks bs al))] [] (fL (match m.binds.find? fun b => decide (b.name = s) with | some b => (b.body, 0) | none => (zC, 51))) [] := by
 have hix := aLa m.binds hm f n s t ks bs al;rcases rK (fun b : Bind => decide (b.name = s)) m.binds 0 with ⟨k, b, h1, h2, h3⟩ | ⟨h1, h3⟩
 ·rw [h1, zero_add] at hix;rw [h3];have hb' := bO bA h2;have hlt := (List.getElem?_eq_some_iff.1 h2).1
  refine bT (n := 22) tok Tryz.func98 rfl rfl rfl ?_;refine a8 (ag [] rfl ?_);refine a8 (aE mixed ?_);refine ak 4 [] rfl ?_;refine kc hix ?_;refine ak 1 [] rfl ?_;refine az ?_;refine a8 (a8 (ag [] rfl ?_));refine aA rfl (fun hb => absurd (of_decide_eq_true hb) (by omega)) (fun _ => ?_);refine aD ?_;refine a8 (ag [(4, .row k (bA b))] rfl ?_);exact aI (iD trw)
 ·rw [h1] at hix;rw [h3];refine bT (n := 22) tok Tryz.func98 rfl rfl rfl ?_;refine a8 (ag [] rfl ?_);refine a8 (aE mixed ?_);refine ak 4 [] rfl ?_;refine kc hix ?_;refine ak 1 [] rfl ?_;refine az ?_;refine a8 (a8 (ag [] rfl ?_));refine aA rfl (fun _ => ?_) (fun hb => absurd hb (by decide));refine a8 (ag [] rfl ?_);exact aI (iD trw)
section
variable {n : Nat} {U : List Str}
theorem aWp (hI : dP 540000000000) (hn : n ≤ 99) (hU : U.length ≤ 480000) (m : Mod) (i : Int) (s : Str) (t : Ty) (body b : Core) (i' : Int) (s' : Str) (t' : Ty) (h : ST n U (.mk 4 i s t [.mk 5 i' s' t' [body] [] [], b] [] [])) :
  aV Tryz.prog 99 [.pa (jW m), .pa (aB (.mk 4 i s t [.mk 5 i' s' t' [body] [] [], b] [] []))] [] (fL (eY (m30 body) body s' b, 0)) [] := by
 have ka := h.kid (by decide) (x := .mk 5 i' s' t' [body] [] []) mem_cons_self;have kb := h.kid (by decide) (x := b) (mem_cons_of_mem _ mem_cons_self);have kbody := ka.kid (by decide) (x := body) mem_cons_self;have hS := (aQ2 hI hn hU kbody kb (nm := s') (s := m30 body + m30 b) (le_refl _)).1.imp;refine bT (n := 54) tok Tryz.func99 rfl rfl rfl ?_;refine a8 (ag [] rfl ?_);refine a8 (ag [(2, .row 0 (aB (.mk 5 i' s' t' [body] [] [])))] rfl ?_);refine a8 (aC ?_);refine a8 (agF 4 [] rfl rfl rfl ?_);refine aA rfl (fun _ => ?_) (fun hb => absurd hb (by simp [Core.form]));refine a8 (aE mixed ?_);refine ak 10 [(2, .row 0 (aB body)), (8, .row 1 (aB b))] rfl ?_;refine kc hS ?_;refine ak 2 [] rfl ?_;refine az ?_;exact aI (iD trw)
theorem aWo (hI : dP 540000000000) (hn : n ≤ 99) (hU : U.length ≤ 480000) (m : Mod) (i : Int) (s : Str) (t : Ty) (body : Core) (i' : Int) (s' : Str) (t' : Ty) (h : ST n U (.mk 6 i s t [.mk 7 i' s' t' [body] [] []] [] [])) :
  aV Tryz.prog 99 [.pa (jW m), .pa (aB (.mk 6 i s t [.mk 7 i' s' t' [body] [] []] [] []))] [] (fL (sTR (m30 body) body s' t, 0)) [] := by
 have hS := (aL5 hI hn hU h (w := 0)).1.imp;refine bT (n := 54) tok Tryz.func99 rfl rfl rfl ?_;refine a8 (ag [] rfl ?_);refine a8 (ag [(2, .row 0 (aB (.mk 7 i' s' t' [body] [] [])))] rfl ?_);refine a8 (aC ?_);refine a8 (agF 4 [] rfl rfl rfl ?_);refine aA rfl (fun hb => absurd hb (by simp [Core.form])) (fun _ => ?_);refine a8 (agF 4 [] rfl rfl rfl ?_);refine aA rfl (fun _ => ?_) (fun hb => absurd hb (by simp [Core.form]));refine a8 (aE mixed ?_);refine ak 8 [(2, .row 0 (aB body))] rfl ?_;refine kc hS ?_;refine ak 2 [] rfl ?_;refine az ?_;exact aI (iD trw)
theorem aWn (m : Mod) (f i : Int) (s : Str) (t : Ty) (a : Core) (ks : List Core) (bs : List Bind) (al : List Alt) (p : CE) (h1 : ¬ (f = 4 ∧ a.form = 5)) (h2 : ¬ (f = 6 ∧ a.form = 7))
  (hk : aV Tryz.prog 161 [.pa (jW m), .pa (aB (.mk f i s t (a :: ks) bs al)), I .i64 (0 : Nat)] [] (fL p) []) :
  aV Tryz.prog 99 [.pa (jW m), .pa (aB (.mk f i s t (a :: ks) bs al))] [] (fL p) [] := by
 refine bT (n := 54) tok Tryz.func99 rfl rfl rfl ?_;refine a8 (ag [] rfl ?_);refine a8 (ag [(2, .row 0 (aB a))] rfl ?_);refine a8 (AWp.cut (mk [(2, .one (.vp 2 0)), (3, .one (.vp 3 0)), (4, .one (.vp 4 0))] [(2, .var 96 ((jW m).map .c)), (3, .var 37 (bD (.mk f i s t (a :: ks) bs al))), (4, .var 37 bS)]) ?_ ?_)
 ·refine aC ?_;refine a8 (agF 4 [] rfl rfl rfl ?_);refine aA rfl (fun hb => (h1 (oY hb)).elim) (fun _ => ?_);refine a8 (agF 4 [] rfl rfl rfl ?_);refine aA rfl (fun hb => (h2 (oY hb)).elim) (fun _ => ?_);exact aD sl
 refine a8 (aE mixed ?_);refine ak 2 [] rfl ?_;refine kc hk ?_;refine ak 4 [] rfl ?_;refine az ?_;exact aI (iD trw)
theorem aYh (hI : dP 540000000000) (hn : n ≤ 99) (hU : U.length ≤ 480000) (m : Mod) (i : Int) (s : Str) (t : Ty) (a : Core) (bs : List Bind) (h : ST n U (.mk 8 i s t [a] bs [])) :
  aV Tryz.prog 100 [.pa (jW m), .pa (aB (.mk 8 i s t [a] bs []))] [] (fL (aBb a (bs.map Bind.name) (bs.map (lX bs)), 0)) [] := by
 have h12 := (aFk h.q).2.2
 have hput := (aOh hI (by decide) (by decide) a (bs.map Bind.name) (bs.map (lX bs)) (by rw [length_map, length_map]) (by rw [length_map]; omega) (aQ1 hn hU h).1).1
 have hkB : (aR bs).length = bs.length := by rw [bP, length_map]
 refine bT (n := 39) tok Tryz.func100 rfl rfl rfl ?_;refine a8 (ag [] rfl ?_);refine a8 (ag [] rfl ?_);refine a8 (ag [] rfl ?_);refine AWp.sub (Sub.own (t := 6) (id := 720) 9 1 rfl rfl) ?_;refine AWp.sub (Sub.own (t := 7) (id := 721) 37 10 rfl rfl) ?_;refine a8 (a8 (ag [] rfl ?_));refine aC ?_;refine aL (fun k : Nat => mk [(3, .one (.vp 3 0)), (4, .one (.vp 4 0)), (6, .one (.hs 720 0 ((bs.take k).map Bind.name).length ((bs.take k).map Bind.name).length)), (7, .one (.hs 721 0 ((bs.take k).map (lX bs)).length ((bs.take k).map (lX bs)).length)), (11, .one (.c (.sl 15 (aR bs)))), (12, I .i64 ((aR bs).length : Int)), (13, I .i64 k)] [(3, .var 37 (bD (.mk 8 i s t [a] bs []))), (4, .var 37 bS), (720, .arr 9 1 (((bs.take k).map Bind.name).map bM) 0), (721, .arr 37 10 (((bs.take k).map (lX bs)).map aB) 0)]) (fun k => k ≤ bs.length) (fun k => bs.length - k) 0 (zero_le _) sl ?_;intro k hk;refine a8 (ag [] rfl ?_);refine a8 (aA rfl (fun hb => ?_) (fun hb => ?_))
 ·have hlt := ltD hb hkB;obtain ⟨b, hbi⟩ := aK hlt;have hbi' := dG hbi;have e1 : (bs.take (k + 1)).map Bind.name = (bs.take k).map Bind.name ++ [b.name] := by rw [take_add_one, hbi, map_append]; rfl
  have e2 : (bs.take (k + 1)).map (lX bs) = (bs.take k).map (lX bs) ++ [lX bs b] := by rw [take_add_one, hbi, map_append]; rfl
  have hl1 : ((bs.take k).map Bind.name).length ≤ 12 := by rw [length_map, length_take]; omega
  have hl2 : ((bs.take k).map (lX bs)).length ≤ 12 := by rw [length_map, length_take]; omega
  have hx1 : (((bs.take k).map Bind.name).map bM).length = ((bs.take k).map Bind.name).length := length_map _;have hx2 : (((bs.take k).map (lX bs)).map aB).length = ((bs.take k).map (lX bs)).length := length_map _;generalize (bs.take k).map Bind.name = N at *;generalize (bs.take k).map (lX bs) = L at *;refine aD ?_;refine a8 (aC ?_);refine a8 (ag [(0, .row k (bA b))] rfl ?_);refine a8 (ag [(3, .all)] rfl ?_);refine ag [(5, .all), (7, .all)] rfl ?_;refine AWp.sub (Sub.arrWeak (x := 721) rfl (RowsLe.snoc (r' := aB (lX bs b)) ?_ (L.map aB))) ?_
  ·repeat (first | exact .nil | apply Go.AM.CsLe.cons .refl | apply Go.AM.CsLe.cons .nl)
  refine ag [] rfl ?_;refine ⟨k + 1, hlt, by dsimp only; omega, ?_⟩;dsimp only;rw [e1, e2];exact sl
 have hge := geD hb hkB hk;subst hge;rw [take_length];refine aO ?_;refine AWp.sub (Sub.freeze (id := 720) rfl) ?_;refine AWp.sub (Sub.freeze (id := 721) rfl) ?_;refine a8 (aE mixed ?_);refine ak 6 [(2, .row 0 (aB a))] rfl ?_;refine kc hput ?_;refine ak 2 [] rfl ?_;refine az ?_;exact aI (iD trw)
end
noncomputable def tkP (a : Alt) (c : Core) : Core × Bool :=
 if a.form = 3 then (a.body, true)
 else if a.form = 2 then (a.body, decide (c.form = 3) && decide (c.n = a.n))
 else match gvC c with
  | some (s, l) => if s = a.name ∧ l.length = a.vars.length then (aBb a.body a.vars l, true) else (zC, false)
  | none => (zC, false)
theorem aH0 (a : Alt) (c : Core) : mE a c = if (tkP a c).2 = true then some (tkP a c).1 else none := by
 unfold mE tkP;by_cases h3 : a.form = 3
 ·rw [if_pos h3, if_pos h3]; rfl
 rw [if_neg h3, if_neg h3];by_cases h2 : a.form = 2
 ·rw [if_pos h2, if_pos h2];by_cases h : c.form = 3 ∧ c.n = a.n
  ·rw [if_pos h, if_pos (by simp [h.1, h.2])]
  ·rw [if_neg h, if_neg (by simpa using h)]
 rw [if_neg h2, if_neg h2];cases gvC c with
 | none => rfl
 | some p =>
  obtain ⟨s, l⟩ := p;dsimp only;by_cases h : s = a.name ∧ l.length = a.vars.length
  ·simp [if_pos h]
  ·simp [if_neg h]
theorem aT4 {f i : Int} {s : Str} {vs : List Str} {body : Core} {cf cn : Int} {cs : Str} {ct : Ty} {ks : List Core} {bs : List Bind} {al : List Alt} : tkP (.mk f i s vs body) (.mk cf cn cs ct ks bs al) =
  if f = 3 then (body, true)
  else if f = 2 then (body, decide (cf = 3) && decide (cn = i))
  else match gvC (.mk cf cn cs ct ks bs al) with
   | some (s1, l) => if s1 = s ∧ l.length = vs.length then (aBb body vs l, true) else (zC, false)
   | none => (zC, false) := rfl
theorem aSo (a : Alt) (c : Core) (hl : b6 c ≤ 570000000000) (hg : aV Tryz.prog 97 [.pa (aB c)] [] (wE (gvC c)) [])
  (hp : ∀ s l, gvC c = some (s, l) → l.length = a.vars.length → aV Tryz.prog 162 [.pa (aB a.body), bU a.vars, .one (.c (.sl 10 (l.map aB)))] [] (.pa (aB (aBb a.body a.vars l))) []) :
  aV Tryz.prog 163 [.pa (dQ a), .pa (aB c)] [] (.tup [.pa (aB (tkP a c).1), B (tkP a c).2]) [] := by
 obtain ⟨f, i, s, vs, body⟩ := a;obtain ⟨cf, cn, cs, ct, ks, bs, al⟩ := c;rw [aT4];refine bT (n := 58) tok Tryz.func163 rfl rfl rfl ?_;refine a8 (ag [] rfl ?_);refine a8 (a8 (ag [] rfl ?_));by_cases h3 : f = 3
 ·subst h3;rw [if_pos rfl];refine aC (a8 (ag [] rfl ?_));refine aA rfl (fun _ => ?_) (fun hb => by simp [Alt.form] at hb);refine a8 (ag [] rfl ?_);exact aI (iD trw)
 rw [if_neg h3];by_cases h2 : f = 2
 ·subst h2;rw [if_pos rfl];refine aC (a8 (ag [] rfl ?_));refine aA rfl (fun hb => by simp [Alt.form] at hb) (fun _ => ?_);refine a8 (ag [] rfl ?_);refine aA rfl (fun _ => ?_) (fun hb => by simp [Alt.form] at hb);by_cases hc : cf = 3
  ·have hd : decide (cf = 3) = true := decide_eq_true hc;have e : (decide (cf = 3) && decide (cn = i)) = decide (cn = i) := by rw [hd]; rfl
   rw [e];refine a8 (ag [(5, .bv true), (11, .bv true)] rfl ?_);exact aI (iD trw)
  ·have hd : decide (cf = 3) = false := decide_eq_false hc;have e : (decide (cf = 3) && decide (cn = i)) = false := by rw [hd]; rfl
   rw [e];refine a8 (ag [(5, .bv false), (11, .bv false)] rfl ?_);exact aI (iD trw)
 rw [if_neg h2];refine AWp.cut (mk [(2, .one (.vp 2 0)), (3, .one (.vp 3 0)), (4, .one (.vp 4 0))] [(2, .var 78 ((dQ (.mk f i s vs body)).map .c)), (3, .var 37 (bD (.mk cf cn cs ct ks bs al))), (4, .var 37 bS)]) ?_ ?_
 ·refine aC (a8 (ag [] rfl ?_));refine aA rfl (fun hb => absurd (of_decide_eq_true hb) h3) (fun _ => ?_);refine a8 (ag [] rfl ?_);refine aA rfl (fun hb => absurd (of_decide_eq_true hb) h2) (fun _ => ?_);exact aD sl
 cases hgv : gvC (.mk cf cn cs ct ks bs al) with
 | none =>
  rw [hgv] at hg;refine a8 (ag [(1, .pc (wE none))] rfl ?_);refine a8 (a8 (agF 3 [] rfl rfl rfl ?_));refine aA rfl (fun _ => ?_) (fun hb => by simp [Alt.form] at hb);refine a8 (ag [] rfl ?_);exact aI (iD trw)
 | some p =>
  obtain ⟨s1, l1⟩ := p;rw [hgv] at hg;have hlk : (l1.map aB).length = l1.length := length_map _;have hlv : (vs.map bM).length = vs.length := length_map _;dsimp only;refine a8 (ag [(1, .pc (wE (some (s1, l1))))] rfl ?_);refine a8 (a8 (agF 3 [] rfl rfl rfl ?_));refine aA rfl (fun hb => ?_) (fun hb => ?_)
  ·have hn : ¬ (s1 = s ∧ l1.length = vs.length) := by
    rintro ⟨rfl, h⟩;simp [h, Alt.name, Alt.vars] at hb
   rw [if_neg hn];refine a8 (ag [] rfl ?_);exact aI (iD trw)
  ·have hy : s1 = s ∧ l1.length = vs.length := by
    simp at hb;have h2 : (l1.length : Int) = (vs.length : Int) := hb.2;exact ⟨hb.1, by omega⟩
   rw [if_pos hy];have hpt := hp s1 l1 hgv hy.2;refine aD ?_;refine a8 (aE mixed ?_);refine ak 5 [] rfl ?_;refine kc hpt ?_;refine ak 2 [] rfl ?_;refine az ?_;exact aI (iD trw)
theorem aSw (m : Mod) (i : Int) (s : Str) (t : Ty) (a : Core) (al : List Alt) (p : CE) (hl : al.length ≤ 12) (hsh : aV Tryz.prog 41 [.pa (aB a)] [] (B (shC a)) [])
  (hk : shC a = false → aV Tryz.prog 161 [.pa (jW m), .pa (aB (.mk 9 i s t [a] [] al)), I .i64 (0 : Nat)] [] (fL p) [])
  (htk : ∀ x ∈ al, aV Tryz.prog 163 [.pa (dQ x), .pa (aB a)] [] (.tup [.pa (aB (tkP x a).1), B (tkP x a).2]) []) :
  aV Tryz.prog 101 [.pa (jW m), .pa (aB (.mk 9 i s t [a] [] al))] [] (fL (if shC a = true then (match al.findSome? fun x => mE x a with | some r => (r, 0) | none => (zC, 52)) else p)) [] := by
 have hkA : (cB al).length = al.length := by rw [bI, length_map]
 refine bT (n := 41) tok Tryz.func101 rfl rfl rfl ?_;refine a8 (ag [] rfl ?_);refine a8 (a8 (aE mixed ?_));refine ak 4 [(2, .row 0 (aB a))] rfl ?_;refine kc hsh ?_;refine ak 1 [] rfl ?_;refine az ?_;cases hs : shC a with
 | false =>
  have hk := hk hs;rw [if_neg Bool.false_ne_true];refine aA rfl (fun _ => ?_) (fun hb => by cases hb);refine a8 (aE mixed ?_);refine ak 2 [] rfl ?_;refine kc hk ?_;refine ak 4 [] rfl ?_;refine az ?_;exact aI (iD trw)
 | true =>
  rw [if_pos rfl];refine aA rfl (fun hb => by cases hb) (fun _ => ?_);refine aD ?_;refine a8 (a8 (ag [] rfl ?_));refine aC ?_;refine aL (fun k : Nat => mk [(3, .one (.vp 3 0)), (4, .one (.vp 4 0)), (22, .one (.c (.sl 14 (cB al)))), (23, I .i64 ((cB al).length : Int)), (24, I .i64 k)] [(3, .var 37 (bD (.mk 9 i s t [a] [] al))), (4, .var 37 bS)]) (fun k => k ≤ al.length ∧ (al.findSome? fun x => mE x a) = (al.drop k).findSome? fun x => mE x a) (fun k => al.length - k) 0 ⟨zero_le _, rfl⟩ sl ?_;intro k ⟨hi, hid⟩;refine a8 (ag [] rfl ?_);refine a8 (aA rfl (fun hb => ?_) (fun hb => ?_))
  ·have hlt := ltD hb hkA;obtain ⟨x, hx⟩ := aK hlt;have hx' : (cB al)[k]? = some (dQ x) := by rw [bI]; exact bO dQ hx
   have ht := htk x (List.mem_of_getElem? hx);have hdr : al.drop k = x :: al.drop (k + 1) := by rw [drop_eq_getElem_cons hlt, (List.getElem?_eq_some_iff.1 hx).2]
   rw [hdr, List.findSome?_cons, aH0] at hid;generalize tkP x a = q at *;obtain ⟨qc, qb⟩ := q;refine aD ?_;refine a8 (aC ?_);refine a8 (ag [(0, .row k (dQ x))] rfl ?_);refine a8 (aE mixed ?_);refine ak 5 [(3, .row 0 (aB a))] rfl ?_;refine kc ht ?_;refine ak 6 [] rfl ?_;refine az ?_;refine a8 (ag [] rfl ?_);cases qb with
   | true =>
    rw [if_pos rfl] at hid;dsimp only at hid;rw [hid];refine aA rfl (fun _ => ?_) (fun hb => by cases hb);refine a8 (ag [] rfl ?_);exact aI (iD trw)
   | false =>
    rw [if_neg Bool.false_ne_true] at hid;dsimp only at hid;refine aA rfl (fun hb => by cases hb) (fun _ => ?_);refine aD ?_;refine ag [] rfl ?_;exact ⟨k + 1, ⟨hlt, hid⟩, by dsimp only; omega, sl⟩
  have hge := geD hb hkA hi;subst hge;rw [drop_length, List.findSome?_nil] at hid;rw [hid];refine aO ?_;refine a8 (ag [] rfl ?_);exact aI (iD trw)
theorem aRq (s : Str) (a b : Int) : (j4 s tI = none ∧ r8 s a b = (zC, 51)) ∨
  ∃ (fn : FuncId) (r : Core), pH Tryz.prog fn ∧ j4 s tI = some [.fn fn] ∧ (s = aPq → b = 0 → r8 s a b = (zC, 53)) ∧ (¬ (s = aPq ∧ b = 0) → r8 s a b = (r, 0) ∧ aV Tryz.prog fn [I .i64 a, I .i64 b] [] (.pa (aB r)) []) := by
 by_cases h1 : s = aD0
 ·subst h1; exact .inr ⟨_, _, aMi (by kernel_rfl), rfl, fun h => absurd h (by decide), fun _ => ⟨rfl, aWi a b⟩⟩
 by_cases h2 : s = aW6
 ·subst h2; exact .inr ⟨_, _, aMi (by kernel_rfl), rfl, fun h => absurd h (by decide), fun _ => ⟨rfl, aWe a b⟩⟩
 by_cases h3 : s = aU9
 ·subst h3; exact .inr ⟨_, _, aMi (by kernel_rfl), rfl, fun h => absurd h (by decide), fun _ => ⟨rfl, aWg a b⟩⟩
 by_cases h4 : s = aPq
 ·subst h4;refine .inr ⟨185, jI (IntKind.i64.wrap (a.tdiv b)), aMi (by kernel_rfl), rfl, fun _ h => ?_, fun h => ?_⟩
  ·subst h; rfl
  ·have hb : ¬ b = 0 := fun e => h ⟨rfl, e⟩
   refine ⟨?_, aWh a b hb⟩;unfold r8;rw [if_neg (by decide), if_neg (by decide), if_neg (by decide), if_pos rfl, if_neg hb]
 by_cases h5 : s = nEq
 ·subst h5; exact .inr ⟨_, _, aMi (by kernel_rfl), rfl, fun h => absurd h (by decide), fun _ => ⟨rfl, aYf a b⟩⟩
 by_cases h6 : s = nLt
 ·subst h6; exact .inr ⟨_, _, aMi (by kernel_rfl), rfl, fun h => absurd h (by decide), fun _ => ⟨rfl, aYe a b⟩⟩
 refine .inl ⟨?_, ?_⟩
 ·unfold tI;simp only [j4];rw [if_neg (fun e => h1 e.symm), if_neg (fun e => h2 e.symm), if_neg (fun e => h3 e.symm), if_neg (fun e => h4 e.symm), if_neg (fun e => h5 e.symm), if_neg (fun e => h6 e.symm)]
 ·unfold r8;rw [if_neg h1, if_neg h2, if_neg h3, if_neg h4, if_neg h5, if_neg h6]
theorem aSj (m : Mod) (i : Int) (s : Str) (t : Ty) (a b : Core) (pa pb : CE) (hsa : aV Tryz.prog 41 [.pa (aB a)] [] (B (shC a)) []) (hsb : aV Tryz.prog 41 [.pa (aB b)] [] (B (shC b)) [])
  (hka : shC a = false → aV Tryz.prog 161 [.pa (jW m), .pa (aB (.mk 10 i s t [a, b] [] [])), I .i64 (0 : Nat)] [] (fL pa) [])
  (hkb : shC b = false → aV Tryz.prog 161 [.pa (jW m), .pa (aB (.mk 10 i s t [a, b] [] [])), I .i64 (1 : Nat)] [] (fL pb) []) :
  aV Tryz.prog 102 [.pa (jW m), .pa (aB (.mk 10 i s t [a, b] [] []))] [] (fL (if ¬ shC a = true then pa else if ¬ shC b = true then pb else if a.form = 3 ∧ b.form = 3 then r8 s a.n b.n else (zC, 51))) [] := by
 refine bT (n := 76) tok Tryz.func102 rfl rfl rfl ?_;refine a8 (ag [] rfl ?_);refine a8 (a8 (ag [] rfl ?_));refine aC ?_;refine aL (fun k : Nat => mk [(2, .one (.vp 2 0)), (3, .one (.vp 3 0)), (4, .one (.vp 4 0)), (11, .one (.c (.sl 10 (aQ [a, b])))), (12, I .i64 (2 : Nat)), (13, I .i64 k)] [(2, .var 96 ((jW m).map .c)), (3, .var 37 (bD (.mk 10 i s t [a, b] [] []))), (4, .var 37 bS)]) (fun k => k ≤ 2 ∧ (0 < k → shC a = true) ∧ (1 < k → shC b = true)) (fun k => 2 - k) 0 ⟨by omega, fun h => absurd h (by omega), fun h => absurd h (by omega)⟩ sl ?_;rintro k ⟨hk, g1, g2⟩;refine a8 (ag [] rfl ?_);refine a8 (aA rfl (fun hb => ?_) (fun hb => ?_))
 ·have hlt : k < 2 := by have := of_decide_eq_true hb; omega
  refine aD ?_;refine a8 (aC ?_);by_cases h0 : k = 0
  ·subst h0;refine a8 (ag [(1, .row 0 (aB a))] rfl ?_);refine a8 (aE mixed ?_);refine ak 1 [] rfl ?_;refine kc hsa ?_;refine ak 1 [] rfl ?_;refine az ?_;cases hs : shC a with
   | false =>
    have hka := hka hs;rw [if_pos Bool.false_ne_true];refine aA rfl (fun _ => ?_) (fun hb => absurd hb (by decide));refine a8 (aE mixed ?_);refine ak 3 [] rfl ?_;refine kc hka ?_;refine ak 4 [] rfl ?_;refine az ?_;exact aI (iD trw)
   | true =>
    refine aA rfl (fun hb => absurd hb (by decide)) (fun _ => ?_);refine aD ?_;refine ag [] rfl ?_;exact ⟨1, ⟨by omega, fun _ => rfl, fun h => absurd h (by omega)⟩, by dsimp only; omega, sl⟩
  ·have h1 : k = 1 := by omega
   subst h1;have hsa1 := g1 (by omega);refine a8 (ag [(1, .row 1 (aB b))] rfl ?_);refine a8 (aE mixed ?_);refine ak 1 [] rfl ?_;refine kc hsb ?_;refine ak 1 [] rfl ?_;refine az ?_;cases hs : shC b with
   | false =>
    have hkb := hkb hs;rw [if_neg (fun h => h hsa1), if_pos Bool.false_ne_true];refine aA rfl (fun _ => ?_) (fun hb => absurd hb (by decide));refine a8 (aE mixed ?_);refine ak 3 [] rfl ?_;refine kc hkb ?_;refine ak 4 [] rfl ?_;refine az ?_;exact aI (iD trw)
   | true =>
    refine aA rfl (fun hb => absurd hb (by decide)) (fun _ => ?_);refine aD ?_;refine ag [] rfl ?_;exact ⟨2, ⟨by omega, fun _ => hsa1, fun _ => rfl⟩, by dsimp only; omega, sl⟩
 have hk2 : k = 2 := by have := of_decide_eq_false hb; omega
 subst hk2;have hsa1 := g1 (by omega);have hsb1 := g2 (by omega);rw [if_neg (fun h => h hsa1), if_neg (fun h => h hsb1)];refine aO ?_;refine a8 (aE mixed ?_);refine kc aSs ?_;have hmp : mH tI := yB;rcases aRq s a.n b.n with ⟨hfd, hr⟩ | ⟨fn, r, hbd, hfd, hdz, hok⟩
 ·-- no such name
  refine ak 8 [(3, .look none)] rfl ?_;refine az ?_;rw [hr, ite_self];refine a8 (aC (a8 (a8 (ag [] rfl ?_))));refine aA rfl (fun _ => ?_) (fun hb => absurd hb (by decide));refine aD ?_;refine aA rfl (fun _ => ?_) (fun hb => absurd hb (by decide));refine a8 (ag [] rfl ?_);exact aI (iD trw)
 ·refine ak 8 [(3, .look (some [.fn fn]))] rfl ?_;refine az ?_;refine a8 (aC (a8 (a8 (ag [] rfl ?_))));refine aA rfl (fun hb => by simp [aJt] at hb) (fun _ => ?_);refine a8 (ag [(2, .row 0 (aB a))] rfl ?_);by_cases ha : a.form = 3
  ·refine aA rfl (fun hb => absurd hb (by simp [ha])) (fun _ => ?_);refine ag [(2, .row 1 (aB b))] rfl ?_;by_cases hb3 : b.form = 3
   ·rw [if_pos ⟨ha, hb3⟩];refine aA rfl (fun hb => absurd hb (by simp [hb3])) (fun _ => ?_);by_cases hd : s = aPq
    ·subst hd;refine a8 (ag [(3, .bv true), (6, .row 1 (aB b)), (10, .bv true)] rfl ?_);by_cases hz : b.n = 0
     ·rw [hdz rfl hz];refine aA rfl (fun _ => ?_) (fun hb => absurd hz (of_decide_eq_false hb));refine a8 (ag [] rfl ?_);exact aI (iD trw)
     ·obtain ⟨e, hc⟩ := hok fun h => hz h.2
      rw [e];refine aA rfl (fun hb => absurd (of_decide_eq_true hb) hz) (fun _ => ?_);refine aD ?_;refine AWp.sub (Sub.fnClo 8 rfl) ?_;refine a8 (aE mixed ?_);refine ak 11 [(3, .row 0 (aB a)), (8, .row 1 (aB b))] rfl ?_;refine kv (args := [I .i64 a.n, I .i64 b.n]) (caps := []) hc ?_ hbd;refine ak 2 [] rfl ?_;refine az ?_;exact aI (iD trw)
    ·obtain ⟨e, hc⟩ := hok fun h => hd h.1
     rw [e];have hd' : decide (s = aPq) = false := decide_eq_false hd;refine a8 (ag [(3, .bv false), (10, .bv false)] rfl ?_);refine aA rfl (fun hb => by cases hb) (fun _ => ?_);refine aD ?_;refine AWp.sub (Sub.fnClo 8 rfl) ?_;refine a8 (aE mixed ?_);refine ak 11 [(3, .row 0 (aB a)), (8, .row 1 (aB b))] rfl ?_;refine kv (args := [I .i64 a.n, I .i64 b.n]) (caps := []) hc ?_ hbd;refine ak 2 [] rfl ?_;refine az ?_;exact aI (iD trw)
   ·rw [if_neg fun h => hb3 h.2];refine aA rfl (fun _ => ?_) (fun hb => absurd hb (by simp [hb3]));refine a8 (ag [] rfl ?_);exact aI (iD trw)
  ·rw [if_neg fun h => ha h.1];refine aA rfl (fun _ => ?_) (fun hb => absurd hb (by simp [ha]));refine aD ?_;refine aA rfl (fun _ => ?_) (fun hb => absurd hb (by simp [ha]));refine a8 (ag [] rfl ?_);exact aI (iD trw)
section
variable {m : Mod} {f i : Int} {s : Str} {t : Ty} {ks : List Core} {bs : List Bind} {al : List Alt} {p : CE}
theorem aYc (h : aV Tryz.prog 98 [.pa (jW m), .pa (aB (.mk 1 i s t ks bs al))] [] (fL p) []) : aV Tryz.prog 42 [.pa (jW m), .pa (aB (.mk 1 i s t ks bs al))] [] (fL p) [] := by
 refine bT (n := 48) tok Tryz.func42 rfl rfl rfl ?_;refine a8 (ag [] rfl ?_);refine a8 (a8 (ag [] rfl ?_));refine aC (a8 (ag [] rfl ?_));refine aA rfl (fun _ => ?_) (fun hb => by simp [Core.form] at hb);refine a8 (aE mixed ?_);refine ak 2 [] rfl ?_;refine kc h ?_;refine ak 4 [] rfl ?_;refine az ?_;exact aI (iD trw)
theorem aSp (hf : f = 4 ∨ f = 6) (h : aV Tryz.prog 99 [.pa (jW m), .pa (aB (.mk f i s t ks bs al))] [] (fL p) []) : aV Tryz.prog 42 [.pa (jW m), .pa (aB (.mk f i s t ks bs al))] [] (fL p) [] := by
 refine bT (n := 48) tok Tryz.func42 rfl rfl rfl ?_;refine a8 (ag [] rfl ?_);refine a8 (a8 (ag [] rfl ?_));refine aC (a8 (ag [] rfl ?_));refine aA rfl (fun hb => by have h0 : f = 1 := of_decide_eq_true hb; omega) (fun _ => ?_);refine a8 (a8 (ag [] rfl ?_));rcases hf with rfl | rfl
 ·refine aA rfl (fun _ => ?_) (fun hb => by simp [Core.form] at hb);refine aD ?_;refine aA rfl (fun _ => ?_) (fun hb => by simp [Core.form] at hb);refine a8 (aE mixed ?_);refine ak 2 [] rfl ?_;refine kc h ?_;refine ak 4 [] rfl ?_;refine az ?_;exact aI (iD trw)
 ·refine aA rfl (fun hb => by simp [Core.form] at hb) (fun _ => ?_);refine ag [] rfl ?_;refine aA rfl (fun _ => ?_) (fun hb => by simp [Core.form] at hb);refine a8 (aE mixed ?_);refine ak 2 [] rfl ?_;refine kc h ?_;refine ak 4 [] rfl ?_;refine az ?_;exact aI (iD trw)
theorem aYb (h : aV Tryz.prog 100 [.pa (jW m), .pa (aB (.mk 8 i s t ks bs al))] [] (fL p) []) : aV Tryz.prog 42 [.pa (jW m), .pa (aB (.mk 8 i s t ks bs al))] [] (fL p) [] := by
 refine bT (n := 48) tok Tryz.func42 rfl rfl rfl ?_;refine a8 (ag [] rfl ?_);refine a8 (a8 (ag [] rfl ?_));refine aC (a8 (ag [] rfl ?_));refine aA rfl (fun hb => by simp [Core.form] at hb) (fun _ => ?_);refine a8 (a8 (ag [] rfl ?_));refine aA rfl (fun hb => by simp [Core.form] at hb) (fun _ => ?_);refine ag [] rfl ?_;refine aA rfl (fun hb => by simp [Core.form] at hb) (fun _ => ?_);refine a8 (ag [] rfl ?_);refine aA rfl (fun _ => ?_) (fun hb => by simp [Core.form] at hb);refine a8 (aE mixed ?_);refine ak 2 [] rfl ?_;refine kc h ?_;refine ak 4 [] rfl ?_;refine az ?_;exact aI (iD trw)
theorem aYa (h : aV Tryz.prog 101 [.pa (jW m), .pa (aB (.mk 9 i s t ks bs al))] [] (fL p) []) : aV Tryz.prog 42 [.pa (jW m), .pa (aB (.mk 9 i s t ks bs al))] [] (fL p) [] := by
 refine bT (n := 48) tok Tryz.func42 rfl rfl rfl ?_;refine a8 (ag [] rfl ?_);refine a8 (a8 (ag [] rfl ?_));refine aC (a8 (ag [] rfl ?_));refine aA rfl (fun hb => by simp [Core.form] at hb) (fun _ => ?_);refine a8 (a8 (ag [] rfl ?_));refine aA rfl (fun hb => by simp [Core.form] at hb) (fun _ => ?_);refine ag [] rfl ?_;refine aA rfl (fun hb => by simp [Core.form] at hb) (fun _ => ?_);refine a8 (ag [] rfl ?_);refine aA rfl (fun hb => by simp [Core.form] at hb) (fun _ => ?_);refine a8 (ag [] rfl ?_);refine aA rfl (fun _ => ?_) (fun hb => by simp [Core.form] at hb);refine a8 (aE mixed ?_);refine ak 2 [] rfl ?_;refine kc h ?_;refine ak 4 [] rfl ?_;refine az ?_;exact aI (iD trw)
theorem aWa (h : aV Tryz.prog 102 [.pa (jW m), .pa (aB (.mk 10 i s t ks bs al))] [] (fL p) []) : aV Tryz.prog 42 [.pa (jW m), .pa (aB (.mk 10 i s t ks bs al))] [] (fL p) [] := by
 refine bT (n := 48) tok Tryz.func42 rfl rfl rfl ?_;refine a8 (ag [] rfl ?_);refine a8 (a8 (ag [] rfl ?_));refine aC (a8 (ag [] rfl ?_));refine aA rfl (fun hb => by simp [Core.form] at hb) (fun _ => ?_);refine a8 (a8 (ag [] rfl ?_));refine aA rfl (fun hb => by simp [Core.form] at hb) (fun _ => ?_);refine ag [] rfl ?_;refine aA rfl (fun hb => by simp [Core.form] at hb) (fun _ => ?_);refine a8 (ag [] rfl ?_);refine aA rfl (fun hb => by simp [Core.form] at hb) (fun _ => ?_);refine a8 (ag [] rfl ?_);refine aA rfl (fun hb => by simp [Core.form] at hb) (fun _ => ?_);refine a8 (ag [] rfl ?_);refine aA rfl (fun _ => ?_) (fun hb => by simp [Core.form] at hb);refine a8 (aE mixed ?_);refine ak 2 [] rfl ?_;refine kc h ?_;refine ak 4 [] rfl ?_;refine az ?_;exact aI (iD trw)
theorem aYd (h1 : ¬ f = 1) (h4 : ¬ f = 4) (h6 : ¬ f = 6) (h8 : ¬ f = 8) (h9 : ¬ f = 9) (h10 : ¬ f = 10) : aV Tryz.prog 42 [.pa (jW m), .pa (aB (.mk f i s t ks bs al))] [] (fL (if f = 11 then (zC, 52) else (zC, 51))) [] := by
 refine bT (n := 48) tok Tryz.func42 rfl rfl rfl ?_;refine a8 (ag [] rfl ?_);refine a8 (a8 (ag [] rfl ?_));refine aC (a8 (ag [] rfl ?_));refine aA rfl (fun hb => absurd (of_decide_eq_true hb) h1) (fun _ => ?_);refine a8 (a8 (ag [] rfl ?_));refine aA rfl (fun hb => absurd (of_decide_eq_true hb) h4) (fun _ => ?_);refine ag [] rfl ?_;refine aA rfl (fun hb => absurd (of_decide_eq_true hb) h6) (fun _ => ?_);refine a8 (ag [] rfl ?_);refine aA rfl (fun hb => absurd (of_decide_eq_true hb) h8) (fun _ => ?_);refine a8 (ag [] rfl ?_);refine aA rfl (fun hb => absurd (of_decide_eq_true hb) h9) (fun _ => ?_);refine a8 (ag [] rfl ?_);refine aA rfl (fun hb => absurd (of_decide_eq_true hb) h10) (fun _ => ?_);refine a8 (ag [] rfl ?_);by_cases h11 : f = 11
 ·subst h11;rw [if_pos rfl];refine aA rfl (fun _ => ?_) (fun hb => by simp [Core.form] at hb);refine a8 (ag [] rfl ?_);exact aI (iD trw)
 ·rw [if_neg h11];refine aA rfl (fun hb => absurd (of_decide_eq_true hb) h11) (fun _ => ?_);refine aD ?_;refine a8 (ag [] rfl ?_);exact aI (iD trw)
end
theorem aQi (hI : dP 540000000000) {n : Nat} {U : List Str} (hn : n ≤ 99) (hU : U.length ≤ 480000) {m : Mod} (hB : BI U m.binds) : ∀ (k : Nat) (c : Core), m30 c ≤ k → ST n U c →
  aV Tryz.prog 42 [.pa (jW m), .pa (aB c)] [] (fL (eI m.binds k c)) [] := by
 intro k
 induction k with
 | zero => intro c h; have := fD c; omega
 | succ k ih =>
 intro c h hc;obtain ⟨f, i, s, t, ks, bs, al⟩ := c;have hsz := hc.sz;have hm : ∀ x ∈ ks, m30 x < m30 (.mk f i s t ks bs al) := fun x hx => by have := hY hx; rw [m30]; omega
 have hcs : ∀ x ∈ ks, b6 x ≤ 570000000000 := fun x hx => by have := dE x; have := hm x hx; omega
 have hsh : ∀ x ∈ ks, ¬ f = 7 → aV Tryz.prog 41 [.pa (aB x)] [] (B (shC x)) [] := fun x hx h7 => wV 403 x (hc.kid h7 hx).q (hcs x hx)
 have hkid : ∀ (j : Nat) (x : Core), ks[j]? = some x → ¬ f = 7 → ks.length ≤ 2 → aV Tryz.prog 161 [.pa (jW m), .pa (aB (.mk f i s t ks bs al)), I .i64 (j : Nat)] [] (fL (aAi (eI m.binds k) (.mk f i s t ks bs al) j)) [] := fun j x hx h7 hl => by
  have hxm := List.mem_of_getElem? hx;exact aYi m 403 (.mk f i s t ks bs al) x j (eI m.binds k) hx (by show ks.length ≤ _; omega) (hc.kid h7 hxm).q (hcs x hxm) fun _ => ih x (by have := hm x hxm; omega) (hc.kid h7 hxm)
 rw [vG];by_cases h1 : f = 1
 ·subst h1;rw [if_pos rfl];exact aYc (aSk m (by have := hB.len; omega) 1 i s t ks bs al)
 rw [if_neg h1];by_cases h46 : f = 4 ∨ f = 6
 ·rw [if_pos h46];by_cases ha : f = 4 ∧ (ks.headD zC).form = 5
  ·rw [if_pos ha];obtain ⟨rfl, ha⟩ := ha;obtain ⟨⟨a, b, rfl⟩, rfl, rfl⟩ := sB hc.q (.inl rfl);have ka := hc.kid (by decide) (x := a) mem_cons_self;obtain ⟨f', i', s', t', ks', bs', al'⟩ := a;have ha : f' = 5 := ha;subst ha;obtain ⟨⟨body, rfl⟩, rfl, rfl⟩ := fJ ka.q (.inl rfl);exact aSp (.inl rfl) (aWp hI hn hU m i s t body b i' s' t' hc)
  rw [if_neg ha];by_cases hb : f = 6 ∧ (ks.headD zC).form = 7
  ·rw [if_pos hb];obtain ⟨rfl, hb⟩ := hb;obtain ⟨⟨a, rfl⟩, rfl, rfl⟩ := fJ hc.q (.inr (.inl rfl));have ka := hc.kid (by decide) (x := a) mem_cons_self;obtain ⟨f', i', s', t', ks', bs', al'⟩ := a;have hb : f' = 7 := hb;subst hb;obtain ⟨⟨body, rfl⟩, rfl, rfl⟩ := fJ ka.q (.inr (.inr rfl));exact aSp (.inr rfl) (aWo hI hn hU m i s t body i' s' t' hc)
  rw [if_neg hb];have hex : ∃ a ks1, ks = a :: ks1 ∧ ks.length ≤ 2 := by
   rcases h46 with rfl | rfl
   ·obtain ⟨⟨a, b, rfl⟩, _⟩ := sB hc.q (.inl rfl);exact ⟨a, [b], rfl, le_refl _⟩
   ·obtain ⟨⟨a, rfl⟩, _⟩ := fJ hc.q (.inr (.inl rfl));exact ⟨a, [], rfl, by simp⟩
  obtain ⟨a, ks1, rfl, hl⟩ := hex;exact aSp h46 (aWn m f i s t a ks1 bs al _ ha hb (hkid 0 a rfl (by omega) hl))
 rw [if_neg h46];by_cases h8 : f = 8
 ·rw [if_pos h8];subst h8;obtain ⟨⟨a, rfl⟩, rfl, h12⟩ := aFk hc.q;exact aYb (aYh hI hn hU m i s t a bs hc)
 rw [if_neg h8];by_cases h9 : f = 9
 ·rw [if_pos h9];subst h9;obtain ⟨⟨a, rfl⟩, rfl, h12, hv⟩ := aMa hc.q;have ka := hc.kid (by decide) (x := a) mem_cons_self;have hca := hcs a mem_cons_self;have hcc := aSw m i s t a al (aAi (eI m.binds k) (.mk 9 i s t [a] [] al) 0) h12 (hsh a mem_cons_self (by decide)) (fun _ => hkid 0 a rfl (by decide) (by simp)) fun x hx => by
   refine aSo x a hca (aBx 403 a ka.q hca) fun s1 l1 hg hlv => ?_
   have kx := hc.alt hx;have hm' := iX hx;obtain ⟨g1, _⟩ := aL6 hn hU (s := m30 (.mk 9 i s t [a] [] al)) (by rw [m30, cZ, cZ]; omega) hsz kx ka (hv x hx) hg hlv;exact (aOh hI (by decide) (by decide) x.body _ _ hlv.symm (by have := hv x hx; omega) g1).1
  exact aYa hcc
 rw [if_neg h9];by_cases h10 : f = 10
 ·rw [if_pos h10];subst h10;obtain ⟨⟨a, b, rfl⟩, rfl, rfl⟩ := sB hc.q (.inr rfl);exact aWa (aSj m i s t a b _ _ (hsh a mem_cons_self (by decide)) (hsh b (mem_cons_of_mem _ mem_cons_self) (by decide)) (fun _ => hkid 0 a rfl (by decide) (le_refl _)) (fun _ => hkid 1 b rfl (by decide) (le_refl _)))
 rw [if_neg h10];exact aYd h1 (fun e => h46 (.inl e)) (fun e => h46 (.inr e)) h8 h9 h10
inductive Val where
 | mk (form n : Int) (name : Str) (kids : List Val)
def Val.form : Val → Int | .mk f _ _ _ => f
def Val.n : Val → Int | .mk _ n _ _ => n
def Val.name : Val → Str | .mk _ _ s _ => s
mutual
def aEs : Val → List (List C)
 | .mk _ _ _ l => gU l
def gU : List Val → List (List C)
 | [] => []
 | v :: l => [.int .i64 v.form, .int .i64 v.n, .str v.name, .sl 4 (aEs v)] :: gU l
end
def eQ (v : Val) : List C := [.int .i64 v.form, .int .i64 v.n, .str v.name, .sl 4 (aEs v)]
theorem eD : ∀ l : List Val, gU l = l.map eQ
 | [] => by simp [gU]
 | v :: l => by rw [gU, eD l]; rfl
def zV : Val := .mk 0 0 [] []
noncomputable def bV (bd : List Bind) : Nat → Nat → Core → Core × Nat × Int
 | 0, n, c => if shC c = true then (c, n, 0) else (zC, 0, 3)
 | k + 1, n, c => if shC c = true then (c, n, 0) else
  if (eI bd (m30 c) c).2 = 0 then (if 6000 < iG (eI bd (m30 c) c).1 then (zC, 0, 2) else bV bd k (n + 1) (eI bd (m30 c) c).1) else (zC, 0, (eI bd (m30 c) c).2)
abbrev VE : Type := Val × Nat × Int
def bQ (f : Nat → Core → VE) : Nat → List Core → List Val × Nat × Int
 | F, [] => ([], F, 0)
 | F, c :: l =>
  if (f F c).2.2 = 0 then
   (if (bQ f (f F c).2.1 l).2.2 = 0 then ((f F c).1 :: (bQ f (f F c).2.1 l).1, (bQ f (f F c).2.1 l).2.1, 0) else ([], (bQ f (f F c).2.1 l).2.1, (bQ f (f F c).2.1 l).2.2))
  else ([], (f F c).2.1, (f F c).2.2)
def aTu : Val := .mk 4 0 [] []
def aXf : Val := .mk 3 0 [] []
def aXe (n : Int) : Val := .mk 2 n [] []
def lU (fs : List Fld) (f : Nat → Core → VE) (F : Nat) : Option (Str × List Core) → VE
 | none => (aXf, F, 0)
 | some (s, l) => match fs.find? fun x => decide (x.name = s) with
  | none => (aXf, F, 0)
  | some x => if ¬ (l.length : Int) = x.arity then (aXf, F, 0) else
   if (bQ f F l).2.2 = 0 then (.mk 1 0 s (bQ f F l).1, (bQ f F l).2.1, 0) else (zV, (bQ f F l).2.1, (bQ f F l).2.2)
noncomputable def cQ (md : Mod) : Nat → Nat → Nat → Core → VE
 | 0, _, F, _ => (zV, F, 3)
 | g + 1, d, F, c =>
  if d = 0 then (aTu, F, 0)
  else if ¬ (bV md.binds F 0 c).2.2 = 0 then (zV, F, (bV md.binds F 0 c).2.2)
  else if (bV md.binds F 0 c).1.form = 3 then (aXe (bV md.binds F 0 c).1.n, F - (bV md.binds F 0 c).2.1, 0)
  else if (bV md.binds F 0 c).1.form = 7 then cQ md g d (F - (bV md.binds F 0 c).2.1) ((bV md.binds F 0 c).1.kids.headD zC)
  else lU md.fields (fun F c => cQ md g (d - 1) F c) (F - (bV md.binds F 0 c).2.1) (gvC (bV md.binds F 0 c).1)
theorem uV {bd : List Bind} : ∀ (k n : Nat) (c : Core), (bV bd k n c).2.2 = 0 → n ≤ (bV bd k n c).2.1 ∧ (bV bd k n c).2.1 ≤ n + k
 | 0, n, c, h => by
  rw [bV] at h ⊢;by_cases hs : shC c = true
  ·rw [if_pos hs]; exact ⟨le_refl _, le_refl _⟩
  ·rw [if_neg hs] at h; cases h
 | k + 1, n, c, h => by
  rw [bV] at h ⊢;by_cases hs : shC c = true
  ·rw [if_pos hs]; exact ⟨le_refl _, Nat.le_add_right _ _⟩
  rw [if_neg hs] at h ⊢;by_cases h1 : (eI bd (m30 c) c).2 = 0
  ·rw [if_pos h1] at h ⊢;by_cases h2 : 6000 < iG (eI bd (m30 c) c).1
   ·rw [if_pos h2] at h; cases h
   ·rw [if_neg h2] at h ⊢;have := uV k (n + 1) _ h;omega
  ·rw [if_neg h1] at h; exact absurd h h1
theorem qN {bd : List Bind} : ∀ (k j n : Nat) (c : Core), ¬ (bV bd k n c).2.2 = 3 → bV bd (k + j) n c = bV bd k n c
 | 0, j, n, c, h => by
  rw [bV] at h ⊢;by_cases hs : shC c = true
  ·rw [if_pos hs];cases j with
   | zero => rw [bV, if_pos hs]
   | succ j => rw [zero_add, bV, if_pos hs]
  ·rw [if_neg hs] at h; exact absurd rfl h
 | k + 1, j, n, c, h => by
  rw [show k + 1 + j = (k + j) + 1 by omega, bV];rw [bV] at h ⊢;by_cases hs : shC c = true
  ·rw [if_pos hs, if_pos hs]
  rw [if_neg hs] at h ⊢;rw [if_neg hs];by_cases h1 : (eI bd (m30 c) c).2 = 0
  ·rw [if_pos h1] at h ⊢;rw [if_pos h1];by_cases h2 : 6000 < iG (eI bd (m30 c) c).1
   ·rw [if_pos h2, if_pos h2]
   ·rw [if_neg h2] at h ⊢;rw [if_neg h2];exact qN k j (n + 1) _ h
  ·rw [if_neg h1, if_neg h1]
theorem oE {f : Nat → Core → VE} (hf : ∀ F j c, ¬ (f F c).2.2 = 3 → (f (F + j) c).1 = (f F c).1 ∧ (f (F + j) c).2.2 = (f F c).2.2 ∧ ((f F c).2.2 = 0 → (f (F + j) c).2.1 = (f F c).2.1 + j)) :
  ∀ (l : List Core) (F j : Nat), ¬ (bQ f F l).2.2 = 3 → (bQ f (F + j) l).1 = (bQ f F l).1 ∧ (bQ f (F + j) l).2.2 = (bQ f F l).2.2 ∧ ((bQ f F l).2.2 = 0 → (bQ f (F + j) l).2.1 = (bQ f F l).2.1 + j)
 | [], F, j, _ => ⟨rfl, rfl, fun _ => rfl⟩
 | c :: l, F, j, h => by
  rw [bQ] at h;by_cases h1 : (f F c).2.2 = 0
  ·rw [if_pos h1] at h;obtain ⟨g1, g2, g3⟩ := hf F j c (by rw [h1]; decide);have g3 := g3 h1;have h3 : ¬ (bQ f (f F c).2.1 l).2.2 = 3 := fun e => by rw [if_neg (by rw [e]; decide)] at h; exact h e
   obtain ⟨k1, k2, k3⟩ := oE hf l (f F c).2.1 j h3;rw [bQ, bQ, if_pos h1, if_pos (g2.trans h1), g3, g1];by_cases h2 : (bQ f (f F c).2.1 l).2.2 = 0
   ·rw [if_pos h2, if_pos (k2.trans h2), k1, k3 h2];exact ⟨rfl, rfl, fun _ => rfl⟩
   ·rw [if_neg h2, if_neg (fun e => h2 (k2.symm.trans e)), k2];exact ⟨rfl, rfl, fun e => absurd e h2⟩
  ·rw [if_neg h1] at h;obtain ⟨g1, g2, g3⟩ := hf F j c h;rw [bQ, bQ, if_neg h1, if_neg (fun e => h1 (g2.symm.trans e)), g2];exact ⟨rfl, rfl, fun e => absurd e h1⟩
theorem aFq {fs : List Fld} {f : Nat → Core → VE} (hf : ∀ F j c, ¬ (f F c).2.2 = 3 → (f (F + j) c).1 = (f F c).1 ∧ (f (F + j) c).2.2 = (f F c).2.2 ∧ ((f F c).2.2 = 0 → (f (F + j) c).2.1 = (f F c).2.1 + j))
  (F j : Nat) : ∀ (o : Option (Str × List Core)), ¬ (lU fs f F o).2.2 = 3 → (lU fs f (F + j) o).1 = (lU fs f F o).1 ∧ (lU fs f (F + j) o).2.2 = (lU fs f F o).2.2 ∧ ((lU fs f F o).2.2 = 0 → (lU fs f (F + j) o).2.1 = (lU fs f F o).2.1 + j)
 | none, _ => ⟨rfl, rfl, fun _ => rfl⟩
 | some (s, l), h => by
  unfold lU at h ⊢;dsimp only at h ⊢;cases hx : fs.find? fun x => decide (x.name = s) with
  | none => exact ⟨rfl, rfl, fun _ => rfl⟩
  | some x =>
   rw [hx] at h;dsimp only at h ⊢;by_cases ha : ¬ (l.length : Int) = x.arity
   ·rw [if_pos ha, if_pos ha]; exact ⟨rfl, rfl, fun _ => rfl⟩
   rw [if_neg ha] at h ⊢;rw [if_neg ha];by_cases h1 : (bQ f F l).2.2 = 0
   ·obtain ⟨k1, k2, k3⟩ := oE hf l F j (by rw [h1]; decide);rw [if_pos h1, if_pos (k2.trans h1), k1, k3 h1];exact ⟨rfl, rfl, fun _ => rfl⟩
   ·rw [if_neg h1] at h;obtain ⟨k1, k2, k3⟩ := oE hf l F j h;rw [if_neg h1, if_neg (fun e => h1 (k2.symm.trans e)), k2];exact ⟨rfl, rfl, fun e => absurd e h1⟩
theorem qR {md : Mod} : ∀ (g d F j : Nat) (c : Core), ¬ (cQ md g d F c).2.2 = 3 →
  (cQ md g d (F + j) c).1 = (cQ md g d F c).1 ∧ (cQ md g d (F + j) c).2.2 = (cQ md g d F c).2.2 ∧ ((cQ md g d F c).2.2 = 0 → (cQ md g d (F + j) c).2.1 = (cQ md g d F c).2.1 + j)
 | 0, d, F, j, c, h => absurd rfl h
 | g + 1, d, F, j, c, h => by
  rw [cQ] at h;by_cases hd : d = 0
  ·rw [cQ, cQ, if_pos hd, if_pos hd]; exact ⟨rfl, rfl, fun _ => rfl⟩
  rw [if_neg hd] at h;have hw3 : ¬ (bV md.binds F 0 c).2.2 = 3 := fun e => by rw [if_pos (by rw [e]; decide)] at h; exact h e
  have hw := qN (bd := md.binds) F j 0 c hw3;rw [cQ, cQ, if_neg hd, if_neg hd, hw];by_cases h0 : ¬ (bV md.binds F 0 c).2.2 = 0
  ·rw [if_pos h0, if_pos h0]; exact ⟨rfl, rfl, fun e => absurd e h0⟩
  rw [if_neg h0] at h;rw [if_neg h0, if_neg h0];have hle := uV (bd := md.binds) F 0 c (by simpa using h0);have hsub : F + j - (bV md.binds F 0 c).2.1 = F - (bV md.binds F 0 c).2.1 + j := by omega
  rw [hsub];by_cases h3 : (bV md.binds F 0 c).1.form = 3
  ·rw [if_pos h3, if_pos h3]; exact ⟨rfl, rfl, fun _ => rfl⟩
  rw [if_neg h3] at h;rw [if_neg h3, if_neg h3];by_cases h7 : (bV md.binds F 0 c).1.form = 7
  ·rw [if_pos h7] at h;rw [if_pos h7, if_pos h7];exact qR g d _ j _ h
  rw [if_neg h7] at h;rw [if_neg h7, if_neg h7];exact aFq (fun F j c h => qR g (d - 1) F j c h) _ j _ h
def aGk : Nat → Val → Val
 | 0, _ => aTu
 | d + 1, .mk f n s ks => .mk f n s (ks.map (aGk d))
theorem uX {f : Nat → Core → VE} (hf : ∀ F c, (f F c).2.1 ≤ F) : ∀ (l : List Core) (F : Nat), (bQ f F l).2.1 ≤ F
 | [], F => le_refl _
 | c :: l, F => by
  rw [bQ];have h1 := hf F c;have h2 := uX hf l (f F c).2.1;by_cases e1 : (f F c).2.2 = 0
  ·rw [if_pos e1];by_cases e2 : (bQ f (f F c).2.1 l).2.2 = 0
   ·rw [if_pos e2]; exact le_trans h2 h1
   ·rw [if_neg e2]; exact le_trans h2 h1
  ·rw [if_neg e1]; exact h1
theorem uY {md : Mod} : ∀ (g d F : Nat) (c : Core), (cQ md g d F c).2.1 ≤ F
 | 0, d, F, c => le_refl _
 | g + 1, d, F, c => by
  rw [cQ];by_cases hd : d = 0
  ·rw [if_pos hd]; exact le_refl _
  rw [if_neg hd];by_cases h0 : ¬ (bV md.binds F 0 c).2.2 = 0
  ·rw [if_pos h0]; exact le_refl _
  rw [if_neg h0];by_cases h3 : (bV md.binds F 0 c).1.form = 3
  ·rw [if_pos h3]; exact sub_le _ _
  rw [if_neg h3];by_cases h7 : (bV md.binds F 0 c).1.form = 7
  ·rw [if_pos h7]; exact le_trans (uY g d _ _) (sub_le _ _)
  rw [if_neg h7];refine le_trans (m := F - (bV md.binds F 0 c).2.1) ?_ (sub_le _ _);generalize F - (bV md.binds F 0 c).2.1 = F';cases gvC (bV md.binds F 0 c).1 with
  | none => exact le_refl _
  | some p =>
   obtain ⟨s, l⟩ := p;unfold lU;dsimp only;cases hx : md.fields.find? fun x => decide (x.name = s) with
   | none => exact le_refl _
   | some x =>
    dsimp only;have hl := uX (fun F c => uY (md := md) g (d - 1) F c) l F';split
    ·exact le_refl _
    ·split
     ·exact hl
     ·exact hl
theorem xR {f h : Nat → Core → VE} {cut : Val → Val} (hf : ∀ F c, (f F c).2.2 = 0 → ∀ F', F ≤ F' → ∃ F2, (f F c).2.1 ≤ F2 ∧ h F' c = (cut (f F c).1, F2, 0)) :
  ∀ (l : List Core) (F : Nat), (bQ f F l).2.2 = 0 → ∀ F', F ≤ F' → ∃ F2, (bQ f F l).2.1 ≤ F2 ∧ bQ h F' l = ((bQ f F l).1.map cut, F2, 0)
 | [], F, _, F', hF => ⟨F', hF, rfl⟩
 | c :: l, F, h0, F', hF => by
  rw [bQ] at h0;by_cases e1 : (f F c).2.2 = 0
  ·rw [if_pos e1] at h0;by_cases e2 : (bQ f (f F c).2.1 l).2.2 = 0
   ·obtain ⟨F2, g1, g2⟩ := hf F c e1 F' hF;obtain ⟨F3, k1, k2⟩ := xR hf l _ e2 F2 g1;refine ⟨F3, ?_, ?_⟩
    ·rw [bQ, if_pos e1, if_pos e2]; exact k1
    ·rw [bQ, bQ, if_pos e1, if_pos e2, g2];dsimp only;rw [k2, if_pos rfl, if_pos rfl];rfl
   ·rw [if_neg e2] at h0; exact absurd h0 e2
  ·rw [if_neg e1] at h0; exact absurd h0 e1
theorem uZ {md : Mod} : ∀ (g d F : Nat) (c : Core), (cQ md g (d + 1) F c).2.2 = 0 → ∀ F', F ≤ F' → ∃ F2, (cQ md g (d + 1) F c).2.1 ≤ F2 ∧ cQ md g d F' c = (aGk d (cQ md g (d + 1) F c).1, F2, 0)
 | 0, d, F, c, h, F', hF => by rw [cQ] at h; cases h
 | g + 1, 0, F, c, h, F', hF => by
  refine ⟨F', le_trans (uY _ _ _ _) hF, ?_⟩;rw [cQ, if_pos rfl, aGk]
 | g + 1, d + 1, F, c, h, F', hF => by
  rw [cQ, if_neg (Nat.succ_ne_zero _)] at h;have h0 : (bV md.binds F 0 c).2.2 = 0 := by
   by_cases e : (bV md.binds F 0 c).2.2 = 0
   ·exact e
   ·rw [if_pos e] at h; exact h
  have hnn : ¬ ¬ (bV md.binds F 0 c).2.2 = 0 := fun e => e h0
  rw [if_neg hnn] at h;obtain ⟨j, rfl⟩ := Nat.exists_eq_add_of_le hF;have hw := qN (bd := md.binds) F j 0 c (by rw [h0]; decide);rw [cQ, cQ, if_neg (Nat.succ_ne_zero _), if_neg (Nat.succ_ne_zero _), hw, if_neg hnn, if_neg hnn];generalize bV md.binds F 0 c = w at *;by_cases h3 : w.1.form = 3
  ·rw [if_pos h3, if_pos h3];exact ⟨_, by show F - w.2.1 ≤ F + j - w.2.1; omega, rfl⟩
  rw [if_neg h3] at h;rw [if_neg h3, if_neg h3];by_cases h7 : w.1.form = 7
  ·rw [if_pos h7] at h;rw [if_pos h7, if_pos h7];exact uZ g (d + 1) _ _ h _ (by omega)
  rw [if_neg h7] at h;rw [if_neg h7, if_neg h7];have hle : F - w.2.1 ≤ F + j - w.2.1 := by omega
  generalize F - w.2.1 = G at *;generalize F + j - w.2.1 = G' at *;cases hg : gvC w.1 with
  | none => exact ⟨_, hle, rfl⟩
  | some p =>
   obtain ⟨s, l⟩ := p;rw [hg] at h;unfold lU at h ⊢;dsimp only at h ⊢;cases hx : md.fields.find? fun x => decide (x.name = s) with
   | none => exact ⟨_, hle, rfl⟩
   | some x =>
    rw [hx] at h;dsimp only at h ⊢;by_cases ha : ¬ (l.length : Int) = x.arity
    ·rw [if_pos ha, if_pos ha]; exact ⟨_, hle, rfl⟩
    rw [if_neg ha] at h ⊢;rw [if_neg ha];by_cases e1 : (bQ (fun F c => cQ md g (d + 1 + 1 - 1) F c) G l).2.2 = 0
    ·rw [if_pos e1];obtain ⟨F2, k1, k2⟩ := xR (h := fun F c => cQ md g (d + 1 - 1) F c) (cut := aGk d) (fun F c h F' hF => uZ g d F c h F' hF) l G e1 G' hle;refine ⟨F2, k1, ?_⟩;rw [k2, if_pos rfl];rfl
    ·rw [if_neg e1] at h; exact absurd h e1
theorem aXg : UOk zTy := ⟨by decide, by unfold zTy; rw [fvm]; decide⟩
noncomputable def aH4 (bd : List Bind) (c : Core) : CE := if shC c = true then (zC, 21) else if (eI bd (m30 c) c).2 = 0 then ((eI bd (m30 c) c).1, 0) else (zC, (eI bd (m30 c) c).2)
theorem aQh (hI : dP 540000000000) {D M X : Nat} (hMD : M + D ≤ 700000) {c : Core} (hc : CG D M X c) (hz : ¬ ([] : Str) ∈ tyR c) : aV Tryz.prog 23 [.pa (aB c), Go.AM.T [], tyV zTy] [] (.pa (aB c)) [] := by
 have h := (aBw hI hMD (m30 c) c (le_refl _) hc [] zTy aXg).imp;rwa [aUe (m30 c) c (le_refl _) hc.q hz] at h
section
variable {n : Nat} {U : List Str}
theorem aQs (hI : dP 540000000000) (hn : n ≤ 99) (hU : U.length ≤ 480000) (hz : ¬ ([] : Str) ∈ U) {m : Mod} (hB : BI U m.binds) {c : Core} (hc : ST n U c) :
  aV Tryz.prog 11 [.pa (jW m), .pa (aB c)] [] (fL (aH4 m.binds c)) [] := by
 have hcs := dE c;have hsz := hc.sz;have hsh := wV 403 c hc.q (by omega);have hst := aQi hI hn hU hB (m30 c) c (le_refl _) hc;have hok := vF hI hn hU hB (m30 c) c (le_refl _) hc;unfold aH4;generalize eI m.binds (m30 c) c = p at *;refine bT (n := 25) tok Tryz.func11 rfl rfl rfl ?_;refine a8 (ag [] rfl ?_);refine a8 (a8 (aE mixed ?_));refine ak 1 [] rfl ?_;refine kc hsh ?_;refine az ?_;cases hs : shC c with
 | true =>
  rw [if_pos rfl];refine aA rfl (fun _ => ?_) (fun hb => by cases hb);refine a8 (ag [] rfl ?_);exact aI (iD trw)
 | false =>
  rw [if_neg Bool.false_ne_true];refine aA rfl (fun hb => by cases hb) (fun _ => ?_);refine aD ?_;refine a8 (aE mixed ?_);refine ak 3 [] rfl ?_;refine kc hst ?_;refine ak 6 [] rfl ?_;refine az ?_;obtain ⟨r, e⟩ := p;dsimp only at hok ⊢;by_cases he : e = 0
  ·subst he;have hr := hok rfl;have hzz := aQh hI (by decide) (hr.cg (n := n + 1) (by omega) hsz hU) (fun h => hz (hr.ty _ h));rw [if_pos rfl];refine a8 (a8 (ag [] rfl ?_));refine aA rfl (fun hb => absurd hb (by decide)) (fun _ => ?_);refine aD ?_;refine a8 (aE mixed ?_);refine ak 2 [] rfl ?_;refine kc hzz ?_;refine ak 2 [] rfl ?_;refine az ?_;exact aI (iD trw)
  ·rw [if_neg he];refine a8 (a8 (ag [] rfl ?_));refine aA rfl (fun _ => ?_) (fun hb => absurd hb (by simp [he]));refine a8 (ag [] rfl ?_);exact aI (iD trw)
theorem aG6 (hI : dP 540000000000) (hU : U.length ≤ 480000) {bd : List Bind} (hB : BI U bd) : ∀ (k j : Nat) (c : Core), n + j + k ≤ 99 → ST (n + j) U c → (bV bd k j c).2.2 = 0 →
  ST (n + (bV bd k j c).2.1) U (bV bd k j c).1 ∧ shC (bV bd k j c).1 = true ∧ ((bV bd k j c).2.1 = j → (bV bd k j c).1 = c)
 | 0, j, c, hn, hc, h => by
  rw [bV] at h ⊢;by_cases hs : shC c = true
  ·rw [if_pos hs]; exact ⟨hc, hs, fun _ => rfl⟩
  ·rw [if_neg hs] at h; cases h
 | k + 1, j, c, hn, hc, h => by
  rw [bV] at h ⊢;by_cases hs : shC c = true
  ·rw [if_pos hs]; exact ⟨hc, hs, fun _ => rfl⟩
  rw [if_neg hs] at h ⊢;by_cases h1 : (eI bd (m30 c) c).2 = 0
  ·rw [if_pos h1] at h ⊢;by_cases h2 : 6000 < iG (eI bd (m30 c) c).1
   ·rw [if_pos h2] at h; cases h
   ·rw [if_neg h2] at h ⊢;have hr := (vF hI (by omega) hU hB (m30 c) c (le_refl _) hc h1).st (by omega);obtain ⟨g1, g2, g3⟩ := aG6 hI hU hB k (j + 1) _ (by omega) hr h;have := (uV k (j + 1) _ h).1
    exact ⟨g1, g2, fun e => by omega⟩
  ·rw [if_neg h1] at h; exact absurd h h1
def whV (w : Core × Nat × Int) : V := .tup [.pa (aB w.1), I .i64 w.2.1, I .i64 w.2.2]
theorem aQr (hI : dP 540000000000) (hU : U.length ≤ 480000) (hz : ¬ ([] : Str) ∈ U) {m : Mod} (hB : BI U m.binds) (F : Nat) (hn : n + F ≤ 99) {c : Core} (hc : ST n U c) :
  aV Tryz.prog 54 [.pa (jW m), .pa (aB c), I .i64 F] [] (whV (bV m.binds F 0 c)) [] := by
 refine bT (n := 43) tok Tryz.func54 rfl rfl rfl ?_;refine a8 (ag [] rfl ?_);refine a8 (ag [] rfl ?_);refine aC ?_;refine aL (fun p : Nat × Core => mk [(2, I .i64 F), (3, .one (.vp 3 0)), (4, .one (.vp 4 0)), (6, .one (.vp 6 0)), (9, I .i64 p.1)] [(3, .var 27 ((jW m).map .c)), (4, .var 37 (bD p.2)), (6, .var 37 bS)]) (fun p => p.1 ≤ F ∧ ST (n + p.1) U p.2 ∧ bV m.binds F 0 c = bV m.binds (F - p.1) p.1 p.2) (fun p => F - p.1) (0, c) ⟨zero_le _, hc, rfl⟩ sl ?_;rintro ⟨j, x⟩ ⟨hj, hx, hw⟩;dsimp only at hj hx hw ⊢;have hcs := dE x;have hsz := hx.sz;have hsh := wV 403 x hx.q (by omega);refine a8 (aC ?_);refine a8 (a8 (aE mixed ?_));refine ak 1 [] rfl ?_;refine kc hsh ?_;refine az ?_;cases hs : shC x with
 | true =>
  have e : bV m.binds F 0 c = (x, j, 0) := by
   rw [hw];cases F - j with
   | zero => rw [bV, if_pos hs]
   | succ k => rw [bV, if_pos hs]
  have hzz := aQh hI (by decide) (hx.cg (by omega) hU) (fun h => hz (hx.ty _ h));rw [e];refine aA rfl (fun _ => ?_) (fun hb => by cases hb);refine a8 (aE mixed ?_);refine ak 2 [] rfl ?_;refine kc hzz ?_;refine ak 4 [] rfl ?_;refine az ?_;exact aI (aW5 trw)
 | false =>
  have hs' : ¬ shC x = true := by rw [hs]; exact Bool.false_ne_true
  refine aA rfl (fun hb => by cases hb) (fun _ => ?_);refine aD ?_;refine a8 (a8 (ag [] rfl ?_));refine aA rfl (fun hb => ?_) (fun hb => ?_)
  ·have hjF : j = F := by have := of_decide_eq_true hb; omega
   have e : bV m.binds F 0 c = (zC, 0, 3) := by rw [hw, hjF, sub_self, bV, if_neg (by rw [← hjF] at *; exact hs')]
   rw [e];refine a8 (ag [] rfl ?_);exact aI (aW5 trw)
  have hjF : j < F := by have := of_decide_eq_false hb; omega
  obtain ⟨k, hk⟩ : ∃ k, F - j = k + 1 := ⟨F - j - 1, by omega⟩
  have hst := aQi hI (n := n + j) (by omega) hU hB (m30 x) x (le_refl _) hx;have hok := vF hI (n := n + j) (by omega) hU hB (m30 x) x (le_refl _) hx;rw [hk, bV, if_neg hs'] at hw;generalize eI m.binds (m30 x) x = p at *;obtain ⟨r, e⟩ := p;dsimp only at hok hw ⊢;refine aD ?_;refine a8 (aE mixed ?_);refine ak 3 [] rfl ?_;refine kc hst ?_;refine ak 6 [] rfl ?_;refine az ?_;by_cases he : e = 0
  ·subst he;have hr := hok rfl;have hrb := hr.big hsz;have hcr := dE r;have hB2 : Big = 250000000000 := rfl;have hze := aQj (b6 r) r (le_refl _) (by omega);rw [if_pos rfl] at hw;refine a8 (a8 (ag [(2, .bv true), (4, .pc (I .i64 (iG r : Nat))), (6, .bv true)] rfl ?_));by_cases hbig : 6000 < iG r
   ·rw [if_pos hbig] at hw;rw [hw];refine aA rfl (fun _ => ?_) (fun hb => absurd hb (by simp; omega));refine ag [] rfl ?_;refine a8 (a8 (ag [] rfl ?_));refine aA rfl (fun _ => ?_) (fun hb => absurd hb (by decide));refine a8 (ag [] rfl ?_);exact aI (aW5 trw)
   ·rw [if_neg hbig] at hw;refine aA rfl (fun hb => absurd hb (by simp; omega)) (fun _ => ?_);refine aD ?_;refine a8 (a8 (ag [] rfl ?_));refine aA rfl (fun hb => by simp at hb) (fun _ => ?_);refine aD ?_;refine ag [] rfl ?_;refine ag [] rfl ?_;exact ⟨(j + 1, r), ⟨hjF, hr.st (by omega), by rw [hw]; congr 1; omega⟩, by dsimp only; omega, sl⟩
  ·rw [if_neg he] at hw;rw [hw];have hd : decide (e = 0) = false := decide_eq_false he;refine a8 (a8 (ag [(2, .bv false), (6, .bv false)] rfl ?_));refine aA rfl (fun hb => by cases hb) (fun _ => ?_);refine aD ?_;refine a8 (a8 (ag [] rfl ?_));refine aA rfl (fun _ => ?_) (fun hb => absurd hb (by simp [he]));refine a8 (ag [] rfl ?_);exact aI (aW5 trw)
end
end Go.Proofs.YtmoekkcdkjopgaaGreatDoor
